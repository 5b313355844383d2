/-
  Slices of structs of three ints: how they read; what the law's helpers do with them: compare, copy, mark, look for the marks, count.
-/
import Derived.Test.YtgdggkhdollieaaChecked
import Derived.Test.YtgdggkhdollieaaArgs2
import Derived.Test.YtgdggkhdollieaaLib3
namespace Go.Proofs.Ytgdggkhdollieaa
open Go.RowKit
set_option linter.unusedVariables false

def triZ : Tri := (0, 0, 0)
/-- The cells of a list of triples of ints. -/
def tris (ys : List Tri) : List Value := ys.flatMap fun y => [.int .i64 y.1, .int .i64 y.2.1, .int .i64 y.2.2]
theorem tris_cons (y : Tri) (ys : List Tri) : tris (y :: ys) = .int .i64 y.1 :: .int .i64 y.2.1 :: .int .i64 y.2.2 :: tris ys := rfl
theorem tris_append (xs ys : List Tri) : tris (xs ++ ys) = tris xs ++ tris ys := by simp [tris]
theorem tris_length (ys : List Tri) : (tris ys).length = ys.length * 3 := by
  induction ys with
  | nil => rfl
  | cons y ys ih => rw [tris_cons]; simp only [List.length_cons, ih]; omega
theorem tris_one (ys : List Tri) : ∀ u ∈ tris ys, u.oneCell' = true := by
  intro u hu
  simp only [tris, List.mem_flatMap] at hu
  obtain ⟨y, _, h⟩ := hu
  simp only [List.mem_cons, List.not_mem_nil, or_false] at h
  rcases h with rfl | rfl | rfl <;> rfl
theorem tris_get (ys : List Tri) : ∀ k, k < ys.length → (tris ys)[k * 3]? = some (.int .i64 (ys.getD k triZ).1) ∧ (tris ys)[k * 3 + 1]? = some (.int .i64 (ys.getD k triZ).2.1) ∧ (tris ys)[k * 3 + 2]? = some (.int .i64 (ys.getD k triZ).2.2) := by
  induction ys with
  | nil => intro k h; simp at h
  | cons y ys ih =>
    intro k h
    cases k with
    | zero => exact ⟨rfl, rfl, rfl⟩
    | succ k =>
      have := ih k (by simpa using h)
      rw [tris_cons, show (k + 1) * 3 = k * 3 + 1 + 1 + 1 from by omega]
      simp only [List.getElem?_cons_succ, List.getD_cons_succ]
      exact this
theorem tri_len_eq {w : World} {v : Value} {n : Nat} {ys : List Tri} (h : Rd w 3 v n (tris ys)) : ys.length = n := by
  have := h.1; rw [tris_length] at this; omega
/-- The three cells of an element of a slice of triples that is read. -/
theorem Rd.tri {w : World} {a : Option Addr} {n cap k : Nat} {ys : List Tri} (h : Rd w 3 (.slice a n cap) n (tris ys)) (hk : k < n) :
    ∃ b off, a = some ⟨b, off, none⟩ ∧ b < w.heap.size ∧ w.cell? ⟨b, off + k * 3, none⟩ = some (.int .i64 (ys.getD k triZ).1) ∧ w.cell? ⟨b, off + k * 3 + 1, none⟩ = some (.int .i64 (ys.getD k triZ).2.1) ∧ w.cell? ⟨b, off + k * 3 + 2, none⟩ = some (.int .i64 (ys.getD k triZ).2.2) := by
  have hl := tri_len_eq h
  obtain ⟨h1, a', cap', hv, _, _, h4⟩ := h
  simp only [Value.slice.injEq, true_and] at hv
  obtain ⟨rfl, rfl⟩ := hv
  obtain ⟨g0, g1, g2⟩ := tris_get ys k (by omega)
  have hlen : (tris ys).length = n * 3 := h1
  rcases h4 with h4 | ⟨b, off, rfl, hc⟩
  · rw [h4] at hlen; simp at hlen; omega
  · have c0 := hc (k * 3) (by omega); have c1 := hc (k * 3 + 1) (by omega); have c2 := hc (k * 3 + 2) (by omega)
    rw [g0] at c0; rw [g1] at c1; rw [g2] at c2
    exact ⟨b, off, rfl, World.block_lt_of_cell? w _ c0, c0, c1, c2⟩
theorem triTake_snoc (ys : List Tri) (k : Nat) (h : k < ys.length) : ys.take (k + 1) = ys.take k ++ [ys.getD k triZ] := take_snoc ys k triZ h
theorem triD_mem {ys : List Tri} {k : Nat} (h : k < ys.length) : ys.getD k triZ ∈ ys := by simp [h]

/-- Three cells in a row are set. -/
def set3 (L : List Value) (i : Nat) (a b c : Value) : List Value := ((L.set i a).set (i + 1) b).set (i + 2) c
theorem set3_mid (A R : List Value) (p q r a b c : Value) (i : Nat) (hi : A.length = i) : set3 (A ++ p :: q :: r :: R) i a b c = A ++ a :: b :: c :: R := by
  subst hi
  simp [set3, List.set_append_right, List.set_cons_succ]
/-- A list of n triples of which the first k are filled in. -/
def fillT (n k : Nat) (ys : List Tri) : List Value := tris (ys.take k) ++ tris (List.replicate (n - k) triZ)
theorem fillT_start (n : Nat) (ys : List Tri) : fillT n 0 ys = tris (List.replicate n triZ) := by simp [fillT, tris]
theorem fillT_split (n k : Nat) (ys : List Tri) (hk : k < n) : fillT n k ys = tris (ys.take k) ++ .int .i64 0 :: .int .i64 0 :: .int .i64 0 :: tris (List.replicate (n - (k + 1)) triZ) := by
  rw [fillT, show n - k = (n - (k + 1)) + 1 from by omega, List.replicate_succ, tris_cons]; rfl
theorem fillT_get (n k : Nat) (ys : List Tri) (hn : ys.length = n) (hk : k < n) : (fillT n k ys)[k * 3]? = some (.int .i64 0) ∧ (fillT n k ys)[k * 3 + 1]? = some (.int .i64 0) ∧ (fillT n k ys)[k * 3 + 2]? = some (.int .i64 0) := by
  have hl : (tris (ys.take k)).length = k * 3 := by rw [tris_length, List.length_take]; omega
  rw [fillT_split n k ys hk]
  rw [List.getElem?_append_right (by omega), List.getElem?_append_right (by omega), List.getElem?_append_right (by omega), hl, Nat.sub_self, show k * 3 + 1 - k * 3 = 1 from by omega, show k * 3 + 2 - k * 3 = 2 from by omega]
  exact ⟨rfl, rfl, rfl⟩
theorem fillT_set (n k : Nat) (ys : List Tri) (hn : ys.length = n) (hk : k < n) : set3 (fillT n k ys) (k * 3) (.int .i64 (ys.getD k triZ).1) (.int .i64 (ys.getD k triZ).2.1) (.int .i64 (ys.getD k triZ).2.2) = fillT n (k + 1) ys := by
  have hl : (tris (ys.take k)).length = k * 3 := by rw [tris_length, List.length_take]; omega
  rw [fillT_split n k ys hk, set3_mid _ _ _ _ _ _ _ _ _ hl, fillT, triTake_snoc ys k (by omega), tris_append, List.append_assoc]
  rfl
theorem fillT_all (n : Nat) (ys : List Tri) (hn : ys.length = n) : fillT n n ys = tris ys := by
  rw [fillT, List.take_of_length_le (by omega), Nat.sub_self]; simp [tris]
/-- m, m + 1, .., three by three. -/
def triSeq (m : Int) (n : Nat) : List Tri := (List.range n).map fun (i : Nat) => (m + 3 * (i : Int), m + 3 * (i : Int) + 1, m + 3 * (i : Int) + 2)
theorem triSeq_length (m : Int) (n : Nat) : (triSeq m n).length = n := by simp [triSeq]
theorem triSeq_succ (m : Int) (n : Nat) : triSeq m (n + 1) = triSeq m n ++ [(m + 3 * (n : Int), m + 3 * (n : Int) + 1, m + 3 * (n : Int) + 2)] := by simp [triSeq, List.range_succ]
theorem triSeq_getD (m : Int) (n k : Nat) (h : k < n) : (triSeq m n).getD k triZ = (m + 3 * (k : Int), m + 3 * (k : Int) + 1, m + 3 * (k : Int) + 2) := by simp [triSeq, h]
/-- The first k triples are marked. -/
def markT (m : Int) (k : Nat) (ys : List Tri) : List Value := tris (triSeq m k) ++ tris (ys.drop k)
theorem markT_split (m : Int) (k : Nat) (ys : List Tri) (hk : k < ys.length) : markT m k ys = tris (triSeq m k) ++ .int .i64 (ys.getD k triZ).1 :: .int .i64 (ys.getD k triZ).2.1 :: .int .i64 (ys.getD k triZ).2.2 :: tris (ys.drop (k + 1)) := by
  have e : ys.getD k triZ = ys[k] := by simp [hk]
  rw [markT, List.drop_eq_getElem_cons hk, tris_cons, e]
theorem markT_set (m : Int) (k : Nat) (ys : List Tri) (hk : k < ys.length) : set3 (markT m k ys) (k * 3) (.int .i64 (m + 3 * (k : Int))) (.int .i64 (m + 3 * (k : Int) + 1)) (.int .i64 (m + 3 * (k : Int) + 2)) = markT m (k + 1) ys := by
  have hl : (tris (triSeq m k)).length = k * 3 := by rw [tris_length, triSeq_length]
  rw [markT_split m k ys hk, set3_mid _ _ _ _ _ _ _ _ _ hl, markT, triSeq_succ, tris_append, List.append_assoc]
  rfl
theorem markT_length (m : Int) (k : Nat) (ys : List Tri) (hk : k ≤ ys.length) : (markT m k ys).length = ys.length * 3 := by
  rw [markT, List.length_append, tris_length, tris_length, triSeq_length, List.length_drop]; omega
theorem markT_zero (m : Int) (ys : List Tri) : markT m 0 ys = tris ys := by simp [markT, triSeq, tris]
theorem markT_all (m : Int) (ys : List Tri) : markT m ys.length ys = tris (triSeq m ys.length) := by simp [markT, tris]
theorem tris_zero (n : Nat) : tris (List.replicate n triZ) = List.replicate (n * 3) (.int .i64 0) := by
  induction n with
  | zero => rfl
  | succ n ih => rw [List.replicate_succ, tris_cons, ih, show (n + 1) * 3 = n * 3 + 1 + 1 + 1 from by omega, List.replicate_succ, List.replicate_succ, List.replicate_succ]; rfl
theorem made_tris (n : Nat) : (madeCells #[.int .i64 0, .int .i64 0, .int .i64 0] (n * 3)).toList = tris (List.replicate n triZ) := by
  rw [tris_zero]
  apply List.ext_getElem
  · simp [size_madeCells]
  · intro i h1 h2
    have h3 : i % 3 < 3 := Nat.mod_lt _ (by decide)
    simp only [madeCells, Array.toList_map, List.getElem_map, List.getElem_replicate, Array.toList_range, List.getElem_range]
    show (#[Value.int .i64 0, .int .i64 0, .int .i64 0] : Array Value)[i % 3]! = _
    match i % 3, h3 with
    | 0, _ => rfl
    | 1, _ => rfl
    | 2, _ => rfl
def WfTriS (ys : List Tri) : Prop := ∀ y ∈ ys, WfTri y
def sizeTriS (ys : List Tri) : Nat := ys.length

theorem infoEdge : (Try.prog.info? 102).map (fun i => (i.zero, i.size, i.bytes)) = some (some (.agg #[.int .i64 0, .int .i64 0, .int .i64 0]), 3, 24) := by kernel_rfl
abbrev RdEdgeS (w : World) (v : Value) (ys : List Tri) : Prop := Rd w 3 v ys.length (tris ys)
abbrev OwEdgeS (lo hi : Nat) (w : World) (v : Value) (ys : List Tri) : Prop := Ow lo hi w 102 3 v ys.length (tris ys)
abbrev WfEdgeS (ys : List Tri) : Prop := WfTriS ys
def cntEdgeS (ys : List Tri) : Nat := 3 * ys.length
def MkEdgeS (m : Int) (xs ys : List Tri) : Prop := ys = triSeq m xs.length
def RetEdgeS (w : World) (ys : List Tri) (e : Ending) (w' : World) : Prop := ∃ v, e = .returned v ∧ OwEdgeS w.heap.size w'.heap.size w' v ys ∧ Below w.heap.size w w'

theorem toEdgeT_any (a b c : Int) (w : World) :
    Calls Try.prog 96 #[.agg #[.int .i64 a, .int .i64 b, .int .i64 c]] w fun e w' => e = .returned (.agg #[.int .i64 a, .int .i64 b, .int .i64 c]) ∧ Below w.heap.size w w' := by
  go_enter Try.func96, Try.ntmps96
  go_wp2_with fail
  exact bodyPost_ret (v := .agg #[.int .i64 a, .int .i64 b, .int .i64 c]) (by simp [results, Try.results96, go_sem]) rfl ⟨rfl, by go_grown⟩

set_option maxRecDepth 100000 in
set_option maxHeartbeats 2000000 in
theorem toEdgeS_any (w : World) (va : Value) (ys : List Tri) (ha : Rd w 3 va ys.length (tris ys)) (hs : ys.length ≤ 1099511627776) :
    Calls Try.prog 69 #[va] w (RetEdgeS w ys) := by
  have HR := Lib.hid ha
  obtain ⟨a, ca, rfl, hca, hma⟩ := ha.form
  clear ha
  generalize hn : ys.length = n at *
  have HN := Lib.hid hn; clear hn
  obtain ⟨i0, hi, hz0, hz1, hz2⟩ := info_parts infoEdge
  have Hi := Lib.hid hi; have Hz0 := Lib.hid hz0; have Hz1 := Lib.hid hz1; have Hz2 := Lib.hid hz2; clear hi hz0 hz1 hz2
  go_enter Try.func69, Try.ntmps69
  go_wp2_with (at_make; refine wpList_make_full _ rfl _ _ 53 rfl w.heap.size 102 i0 (.agg #[.int .i64 0, .int .i64 0, .int .i64 0]) 3 Try.underlying53 Hi.out Hz0.out Hz1.out _ _ _ _ n rfl rfl rfl rfl (by rw [Hz2.out]; omega) (by unfold maxLen; omega) (Nat.le_refl _) ?_)
  intro w1 hown hgrow
  have HO := Lib.hid hown; have HG := Lib.hid hgrow; clear hown hgrow
  go_wp2_with fail
  go_loopw [4] (fun i wr => ∃ k : Nat, k ≤ n ∧ i = .int .i64 k ∧ Hid (wr.ownsRow w.heap.size 102 3 (.slice (some ⟨w.heap.size, 0, none⟩) n n) n (fillT n k ys)) ∧ Hid (Below w.heap.size w wr)) (fun i _ => n - (intOf i).toNat)
  case atStart =>
    refine ⟨0, Nat.zero_le _, rfl, ?_, Lib.hid ((Below.refl _ _).grown HG.out (Nat.le_refl _) (by intro k hk; cases hk))⟩
    have h := HO.out
    rw [made_tris] at h
    rw [fillT_start]; exact Lib.hid h
  case round =>
    clear HO HG
    obtain ⟨k, hk, rfl, HO, HB⟩ := hrel
    by_cases hlt : k < n
    · obtain ⟨b1, o1, rfl, hb1, c0, c1, c2⟩ := (HR.out.keep HB.out).tri hlt
      obtain ⟨f0, f1, f2⟩ := fillT_get n k ys HN.out hlt
      have g0 : wr.cell? ⟨w.heap.size, k * 3, none⟩ = some (.int .i64 0) := by rw [HO.out.cellAt _ (by omega), f0]
      have g1 : wr.cell? ⟨w.heap.size, k * 3 + 1, none⟩ = some (.int .i64 0) := by rw [HO.out.cellAt _ (by omega), f1]
      have g2 : wr.cell? ⟨w.heap.size, k * 3 + 2, none⟩ = some (.int .i64 0) := by rw [HO.out.cellAt _ (by omega), f2]
      clear f0 f1 f2
      have HS := Lib.hid (fillT_set n k ys HN.out hlt)
      generalize hy : ys.getD k triZ = t at *
      obtain ⟨ta, tb, tc⟩ := t
      simp only at c0 c1 c2 HS
      clear hy
      go_wp2_with fail
      refine (toEdgeT_any ta tb tc wr).mono ?_
      rintro e w9 ⟨rfl, hb9⟩
      have hlt0 := World.block_lt_of_cell? wr _ g0
      have q0 := (hb9.cell (p := ⟨w.heap.size, k * 3, none⟩) hlt0).trans g0
      have q1 := (hb9.cell (p := ⟨w.heap.size, k * 3 + 1, none⟩) hlt0).trans g1
      have q2 := (hb9.cell (p := ⟨w.heap.size, k * 3 + 2, none⟩) hlt0).trans g2
      have ho9 := ownsRow_keep HO.out hb9
      have z0 := ho9.frozenAt (k * 3); have z1 := ho9.frozenAt (k * 3 + 1); have z2 := ho9.frozenAt (k * 3 + 2)
      have s1 := ho9.stored (k * 3) (.int .i64 ta)
      have s2 := s1.1.stored (k * 3 + 1) (.int .i64 tb)
      have s3 := s2.1.stored (k * 3 + 2) (.int .i64 tc)
      have HO9 := Lib.hid s3.1
      have hbb := HB.out.tr hb9
      have HB9 := Lib.hid (((hbb.setCell (p := ⟨w.heap.size, k * 3, none⟩) (Nat.le_refl _) (.int .i64 ta)).setCell (p := ⟨w.heap.size, k * 3 + 1, none⟩) (Nat.le_refl _) (.int .i64 tb)).setCell (p := ⟨w.heap.size, k * 3 + 2, none⟩) (Nat.le_refl _) (.int .i64 tc))
      clear g0 g1 g2 c0 c1 c2 hb9 ho9 s1 s2 s3 hbb hb1
      go_wp2_with fail
      go_roundw
      case rel =>
        refine ⟨k + 1, by omega, by go_num, ?_, HB9⟩
        rw [← HS.out]; exact HO9
      case measure => simp [intOf]; omega
    · obtain rfl : k = n := by omega
      go_wp2_with fail
      go_ret
      refine ⟨_, rfl, ?_, HB.out⟩
      have h := Ow.of_row HO.out
      rw [fillT_all k ys HN.out] at h
      rw [OwEdgeS, HN.out]; exact h

set_option maxHeartbeats 1000000 in
theorem eqEdge_same (a b c : Int) (w : World) :
    Calls Try.prog 98 #[.agg #[.int .i64 a, .int .i64 b, .int .i64 c], .agg #[.int .i64 a, .int .i64 b, .int .i64 c]] w fun e w' => e = .returned (.bool true) ∧ Below w.heap.size w w' := by
  go_enter Try.func98, Try.ntmps98
  go_wp2_with fail
  go_ret
  exact ⟨rfl, ((Below.refl _ _).alloc (Nat.le_refl _) _).alloc (by simp) _⟩

set_option maxRecDepth 100000 in
set_option maxHeartbeats 2000000 in
theorem eqEdgeS_same (w : World) (va vb : Value) (ys : List Tri) (ha : Rd w 3 va ys.length (tris ys)) (hb : Rd w 3 vb ys.length (tris ys)) :
    Calls Try.prog 72 #[va, vb] w fun e w' => e = .returned (.bool true) ∧ Below w.heap.size w w' := by
  have HA := Lib.hid ha; have HB := Lib.hid hb
  obtain ⟨a, ca, rfl, hca, hma⟩ := ha.form
  obtain ⟨b, cb, rfl, hcb, hmb⟩ := hb.form
  clear ha hb
  generalize hn : ys.length = n at *
  have HN := Lib.hid hn; clear hn
  go_enter Try.func72, Try.ntmps72
  go_wp2_with fail
  go_loopw [5] (fun i wr => ∃ k : Nat, k ≤ n ∧ i = .int .i64 k ∧ Hid (Below w.heap.size w wr)) (fun i _ => n - (intOf i).toNat)
  case atStart => exact ⟨0, Nat.zero_le _, rfl, Lib.hid (Below.refl _ _)⟩
  case round =>
    obtain ⟨k, hk, rfl, HL⟩ := hrel
    by_cases hlt : k < n
    · obtain ⟨b1, o1, rfl, hb1, c0, c1, c2⟩ := HA.out.tri hlt
      obtain ⟨b2, o2, rfl, hb2, d0, d1, d2⟩ := HB.out.tri hlt
      have hsz := HL.out.size
      have C0 := Lib.hid fun p => GrownW.cell (B := w.heap.size) ((HL.out.cell (p := ⟨b1, o1 + k * 3, none⟩) hb1).trans c0) hb1 p
      have C1 := Lib.hid fun p => GrownW.cell (B := w.heap.size) ((HL.out.cell (p := ⟨b1, o1 + k * 3 + 1, none⟩) hb1).trans c1) hb1 p
      have C2 := Lib.hid fun p => GrownW.cell (B := w.heap.size) ((HL.out.cell (p := ⟨b1, o1 + k * 3 + 2, none⟩) hb1).trans c2) hb1 p
      have D0 := Lib.hid fun p => GrownW.cell (B := w.heap.size) ((HL.out.cell (p := ⟨b2, o2 + k * 3, none⟩) hb2).trans d0) hb2 p
      have D1 := Lib.hid fun p => GrownW.cell (B := w.heap.size) ((HL.out.cell (p := ⟨b2, o2 + k * 3 + 1, none⟩) hb2).trans d1) hb2 p
      have D2 := Lib.hid fun p => GrownW.cell (B := w.heap.size) ((HL.out.cell (p := ⟨b2, o2 + k * 3 + 2, none⟩) hb2).trans d2) hb2 p
      clear c0 c1 c2 d0 d1 d2
      generalize ys.getD k triZ = t at *
      obtain ⟨ta, tb, tc⟩ := t
      go_wp2_with fail
      have hk1 : (k : Int) < (n : Int) := by omega
      have c0 := C0.out; have c1 := C1.out; have c2 := C2.out; have d0 := D0.out; have d1 := D1.out; have d2 := D2.out
      refine wp_region_grown w.heap.size (by kernel_rfl) (by kernel_rfl) ?_
      repeat (go_big_quiet_step ((go_at_call 98; exact GrownW.call hsz (eqEdge_same ta tb tc _))))
      refine wpQuiet_done ?_
      intro w9 hb9
      have HB9 := Lib.hid hb9
      clear hb9 c0 c1 c2 d0 d1 d2 C0 C1 C2 D0 D1 D2
      go_wp2_with fail
      go_roundw
      case rel => exact ⟨k + 1, by omega, by go_num, Lib.hid (HL.out.trans HB9.out)⟩
      case measure => simp [intOf]; omega
    · go_wp2_with fail
      go_ret
      exact ⟨rfl, HL.out⟩

set_option maxRecDepth 100000 in
set_option maxHeartbeats 2000000 in
theorem markEdgeS_any (w : World) (lo hi : Nat) (va : Value) (m : Int) (ys : List Tri) (ha : OwEdgeS lo hi w va ys) (hm : 0 ≤ m) (hn : m + (cntEdgeS ys : Int) ≤ 9223372036854775000) :
    Calls Try.prog 88 #[va, .int .i64 m] w fun e w' => ∃ zs, e = .returned (.int .i64 (m + (cntEdgeS ys : Int))) ∧ MkEdgeS m ys zs ∧ OwEdgeS lo hi w' va zs ∧ Chg lo hi w w' := by
  refine Calls.mono (?_ : Calls Try.prog 88 #[va, .int .i64 m] w fun e w' => e = .returned (.int .i64 (m + 3 * (ys.length : Int))) ∧ Ow lo hi w' 102 3 va ys.length (tris (triSeq m ys.length)) ∧ Chg lo hi w w') ?_
  rotate_left
  · rintro e w' ⟨h1, h2, h3⟩
    refine ⟨triSeq m ys.length, ?_, rfl, by rw [OwEdgeS, triSeq_length]; exact h2, h3⟩
    rw [h1, cntEdgeS]; congr 2
  unfold OwEdgeS at ha
  unfold cntEdgeS at hn
  have hn' : m + 3 * (ys.length : Int) ≤ 9223372036854775000 := by omega
  clear hn
  rcases ha.cases with ⟨h0, -, a, rfl⟩ | ⟨g, cap, rfl, hlo, hhi, hrow⟩
  · rw [h0]
    go_enter Try.func88, Try.ntmps88
    go_wp2_with fail
    refine wp_loop_rounds 1 ?_
    rw [rounds_succ]
    go_wp2_with fail
    go_ret
    exact ⟨by simp, by simpa [triSeq, tris] using Ow.nil lo hi w 102 3 a, Chg.refl _ _ _⟩
  · have HR := Lib.hid hrow; clear hrow ha
    have HALL := Lib.hid (markT_all m ys)
    have HSET := Lib.hid (markT_set m · ys)
    have HSPL := Lib.hid (markT_split m · ys)
    have HZ := Lib.hid (markT_zero m ys)
    generalize hln : ys.length = n at *
    have HN := Lib.hid hln; clear hln
    go_enter Try.func88, Try.ntmps88
    go_wp2_with fail
    go_loopw [1, 5] (fun q i wr => ∃ k : Nat, k ≤ n ∧ i = .int .i64 k ∧ q = .int .i64 (m + 3 * (k : Int)) ∧ Hid (wr.ownsRow g 102 3 (.slice (some ⟨g, 0, none⟩) n cap) n (markT m k ys)) ∧ Hid (Chg g (g + 1) w wr)) (fun _ i _ => n - (intOf i).toNat)
    case atStart => exact ⟨0, Nat.zero_le _, rfl, by simp, by rw [HZ.out]; exact HR, Lib.hid (Chg.refl _ _ _)⟩
    case round =>
      clear HR HZ
      obtain ⟨k, hk, rfl, rfl, HO, HB⟩ := hrel
      by_cases hlt : k < n
      · have hl : (tris (triSeq m k)).length = k * 3 := by rw [tris_length, triSeq_length]
        have hsp := HSPL.out k hlt
        have g0 : wr.cell? ⟨g, k * 3, none⟩ = some (.int .i64 (ys.getD k triZ).1) := by rw [HO.out.cellAt _ (by omega), hsp, List.getElem?_append_right (by omega), hl, Nat.sub_self]; rfl
        have g1 : wr.cell? ⟨g, k * 3 + 1, none⟩ = some (.int .i64 (ys.getD k triZ).2.1) := by rw [HO.out.cellAt _ (by omega), hsp, List.getElem?_append_right (by omega), hl, show k * 3 + 1 - k * 3 = 1 from by omega]; rfl
        have g2 : wr.cell? ⟨g, k * 3 + 2, none⟩ = some (.int .i64 (ys.getD k triZ).2.2) := by rw [HO.out.cellAt _ (by omega), hsp, List.getElem?_append_right (by omega), hl, show k * 3 + 2 - k * 3 = 2 from by omega]; rfl
        have z0 := HO.out.frozenAt (k * 3); have z1 := HO.out.frozenAt (k * 3 + 1); have z2 := HO.out.frozenAt (k * 3 + 2)
        generalize (ys.getD k triZ).1 = x0 at *
        generalize (ys.getD k triZ).2.1 = x1 at *
        generalize (ys.getD k triZ).2.2 = x2 at *
        have HST := Lib.hid (HSET.out k hlt)
        have s1 := HO.out.stored (k * 3) (.int .i64 (m + 3 * (k : Int)))
        have s2 := s1.1.stored (k * 3 + 1) (.int .i64 (m + 3 * (k : Int) + 1))
        have s3 := s2.1.stored (k * 3 + 2) (.int .i64 (m + 3 * (k : Int) + 1 + 1))
        have HO9 := Lib.hid s3.1
        have HB9 := Lib.hid (((HB.out.trans (Chg.of_grown s1.2)).trans (Chg.of_grown s2.2)).trans (Chg.of_grown s3.2))
        clear hl hsp s1 s2 s3
        go_wp2_with fail
        go_roundw
        case rel =>
          refine ⟨k + 1, by omega, by go_num, by go_num, ?_, HB9⟩
          rw [← HST.out, show m + 3 * (k : Int) + 2 = m + 3 * (k : Int) + 1 + 1 from by omega]; exact HO9
        case measure => simp [intOf]; omega
      · obtain rfl : k = n := by omega
        go_wp2_with fail
        go_ret
        have h4 := HO.out
        have hall := HALL.out
        rw [hall] at h4
        exact ⟨rfl, Ow.of_block h4 hlo hhi, HB.out.mono hlo (by omega)⟩


theorem szEdgeS_ok (w : World) (va : Value) (ys : List Tri) (left : Int) (h : RdEdgeS w va ys) (hl : (ys.length : Int) ≤ left) (h2 : left ≤ 1048576) :
    Calls Try.prog 66 #[va, .int .i64 left] w fun e w' => e = .returned (.int .i64 (left - (ys.length : Int))) ∧ w = w' := by
  obtain ⟨a, c, rfl, hc, hm⟩ := Rd.form h
  clear h
  generalize ys.length = n at *
  have t : decide (left - (n : Int) < 0) = false := by simp; omega
  go_enter Try.func66, Try.ntmps66
  go_wp2_with fail
  go_ret
  exact ⟨rfl, rfl⟩
theorem szEdgeS_no (w : World) (va : Value) (ys : List Tri) (left : Int) (h : RdEdgeS w va ys) (hl : left < (ys.length : Int)) (h0 : 0 ≤ left) (h2 : left ≤ 1048576) :
    Calls Try.prog 66 #[va, .int .i64 left] w fun e w' => e = .returned (.int .i64 (-1)) ∧ w = w' := by
  obtain ⟨a, c, rfl, hc, hm⟩ := Rd.form h
  clear h
  generalize ys.length = n at *
  have t : decide (left - (n : Int) < 0) = true := by simp; omega
  go_enter Try.func66, Try.ntmps66
  go_wp2_with fail
  go_ret
  exact ⟨rfl, rfl⟩
theorem infoMessage : (Try.prog.info? 33).map (fun i => (i.zero, i.size, i.bytes)) = some (some (.agg #[.int .i64 0, .int .i64 0, .int .i64 0]), 3, 24) := by kernel_rfl
abbrev RdMessageS (w : World) (v : Value) (ys : List Tri) : Prop := Rd w 3 v ys.length (tris ys)
abbrev OwMessageS (lo hi : Nat) (w : World) (v : Value) (ys : List Tri) : Prop := Ow lo hi w 33 3 v ys.length (tris ys)
abbrev WfMessageS (ys : List Tri) : Prop := WfTriS ys
def cntMessageS (ys : List Tri) : Nat := 3 * ys.length
def MkMessageS (m : Int) (xs ys : List Tri) : Prop := ys = triSeq m xs.length
def RetMessageS (w : World) (ys : List Tri) (e : Ending) (w' : World) : Prop := ∃ v, e = .returned v ∧ OwMessageS w.heap.size w'.heap.size w' v ys ∧ Below w.heap.size w w'

theorem toMessageT_any (a b c : Int) (w : World) :
    Calls Try.prog 60 #[.agg #[.int .i64 a, .int .i64 b, .int .i64 c]] w fun e w' => e = .returned (.agg #[.int .i64 a, .int .i64 b, .int .i64 c]) ∧ Below w.heap.size w w' := by
  go_enter Try.func60, Try.ntmps60
  go_wp2_with fail
  exact bodyPost_ret (v := .agg #[.int .i64 a, .int .i64 b, .int .i64 c]) (by simp [results, Try.results60, go_sem]) rfl ⟨rfl, by go_grown⟩

set_option maxRecDepth 100000 in
set_option maxHeartbeats 2000000 in
theorem toMessageS_any (w : World) (va : Value) (ys : List Tri) (ha : Rd w 3 va ys.length (tris ys)) (hs : ys.length ≤ 1099511627776) :
    Calls Try.prog 21 #[va] w (RetMessageS w ys) := by
  have HR := Lib.hid ha
  obtain ⟨a, ca, rfl, hca, hma⟩ := ha.form
  clear ha
  generalize hn : ys.length = n at *
  have HN := Lib.hid hn; clear hn
  obtain ⟨i0, hi, hz0, hz1, hz2⟩ := info_parts infoMessage
  have Hi := Lib.hid hi; have Hz0 := Lib.hid hz0; have Hz1 := Lib.hid hz1; have Hz2 := Lib.hid hz2; clear hi hz0 hz1 hz2
  go_enter Try.func21, Try.ntmps21
  go_wp2_with (at_make; refine wpList_make_full _ rfl _ _ 28 rfl w.heap.size 33 i0 (.agg #[.int .i64 0, .int .i64 0, .int .i64 0]) 3 Try.underlying28 Hi.out Hz0.out Hz1.out _ _ _ _ n rfl rfl rfl rfl (by rw [Hz2.out]; omega) (by unfold maxLen; omega) (Nat.le_refl _) ?_)
  intro w1 hown hgrow
  have HO := Lib.hid hown; have HG := Lib.hid hgrow; clear hown hgrow
  go_wp2_with fail
  go_loopw [4] (fun i wr => ∃ k : Nat, k ≤ n ∧ i = .int .i64 k ∧ Hid (wr.ownsRow w.heap.size 33 3 (.slice (some ⟨w.heap.size, 0, none⟩) n n) n (fillT n k ys)) ∧ Hid (Below w.heap.size w wr)) (fun i _ => n - (intOf i).toNat)
  case atStart =>
    refine ⟨0, Nat.zero_le _, rfl, ?_, Lib.hid ((Below.refl _ _).grown HG.out (Nat.le_refl _) (by intro k hk; cases hk))⟩
    have h := HO.out
    rw [made_tris] at h
    rw [fillT_start]; exact Lib.hid h
  case round =>
    clear HO HG
    obtain ⟨k, hk, rfl, HO, HB⟩ := hrel
    by_cases hlt : k < n
    · obtain ⟨b1, o1, rfl, hb1, c0, c1, c2⟩ := (HR.out.keep HB.out).tri hlt
      obtain ⟨f0, f1, f2⟩ := fillT_get n k ys HN.out hlt
      have g0 : wr.cell? ⟨w.heap.size, k * 3, none⟩ = some (.int .i64 0) := by rw [HO.out.cellAt _ (by omega), f0]
      have g1 : wr.cell? ⟨w.heap.size, k * 3 + 1, none⟩ = some (.int .i64 0) := by rw [HO.out.cellAt _ (by omega), f1]
      have g2 : wr.cell? ⟨w.heap.size, k * 3 + 2, none⟩ = some (.int .i64 0) := by rw [HO.out.cellAt _ (by omega), f2]
      clear f0 f1 f2
      have HS := Lib.hid (fillT_set n k ys HN.out hlt)
      generalize hy : ys.getD k triZ = t at *
      obtain ⟨ta, tb, tc⟩ := t
      simp only at c0 c1 c2 HS
      clear hy
      go_wp2_with fail
      refine (toMessageT_any ta tb tc wr).mono ?_
      rintro e w9 ⟨rfl, hb9⟩
      have hlt0 := World.block_lt_of_cell? wr _ g0
      have q0 := (hb9.cell (p := ⟨w.heap.size, k * 3, none⟩) hlt0).trans g0
      have q1 := (hb9.cell (p := ⟨w.heap.size, k * 3 + 1, none⟩) hlt0).trans g1
      have q2 := (hb9.cell (p := ⟨w.heap.size, k * 3 + 2, none⟩) hlt0).trans g2
      have ho9 := ownsRow_keep HO.out hb9
      have z0 := ho9.frozenAt (k * 3); have z1 := ho9.frozenAt (k * 3 + 1); have z2 := ho9.frozenAt (k * 3 + 2)
      have s1 := ho9.stored (k * 3) (.int .i64 ta)
      have s2 := s1.1.stored (k * 3 + 1) (.int .i64 tb)
      have s3 := s2.1.stored (k * 3 + 2) (.int .i64 tc)
      have HO9 := Lib.hid s3.1
      have hbb := HB.out.tr hb9
      have HB9 := Lib.hid (((hbb.setCell (p := ⟨w.heap.size, k * 3, none⟩) (Nat.le_refl _) (.int .i64 ta)).setCell (p := ⟨w.heap.size, k * 3 + 1, none⟩) (Nat.le_refl _) (.int .i64 tb)).setCell (p := ⟨w.heap.size, k * 3 + 2, none⟩) (Nat.le_refl _) (.int .i64 tc))
      clear g0 g1 g2 c0 c1 c2 hb9 ho9 s1 s2 s3 hbb hb1
      go_wp2_with fail
      go_roundw
      case rel =>
        refine ⟨k + 1, by omega, by go_num, ?_, HB9⟩
        rw [← HS.out]; exact HO9
      case measure => simp [intOf]; omega
    · obtain rfl : k = n := by omega
      go_wp2_with fail
      go_ret
      refine ⟨_, rfl, ?_, HB.out⟩
      have h := Ow.of_row HO.out
      rw [fillT_all k ys HN.out] at h
      rw [OwMessageS, HN.out]; exact h

set_option maxHeartbeats 1000000 in
theorem eqMessage_same (a b c : Int) (w : World) :
    Calls Try.prog 61 #[.agg #[.int .i64 a, .int .i64 b, .int .i64 c], .agg #[.int .i64 a, .int .i64 b, .int .i64 c]] w fun e w' => e = .returned (.bool true) ∧ Below w.heap.size w w' := by
  go_enter Try.func61, Try.ntmps61
  go_wp2_with fail
  go_ret
  exact ⟨rfl, ((Below.refl _ _).alloc (Nat.le_refl _) _).alloc (by simp) _⟩

set_option maxRecDepth 100000 in
set_option maxHeartbeats 2000000 in
theorem eqMessageS_same (w : World) (va vb : Value) (ys : List Tri) (ha : Rd w 3 va ys.length (tris ys)) (hb : Rd w 3 vb ys.length (tris ys)) :
    Calls Try.prog 22 #[va, vb] w fun e w' => e = .returned (.bool true) ∧ Below w.heap.size w w' := by
  have HA := Lib.hid ha; have HB := Lib.hid hb
  obtain ⟨a, ca, rfl, hca, hma⟩ := ha.form
  obtain ⟨b, cb, rfl, hcb, hmb⟩ := hb.form
  clear ha hb
  generalize hn : ys.length = n at *
  have HN := Lib.hid hn; clear hn
  go_enter Try.func22, Try.ntmps22
  go_wp2_with fail
  go_loopw [5] (fun i wr => ∃ k : Nat, k ≤ n ∧ i = .int .i64 k ∧ Hid (Below w.heap.size w wr)) (fun i _ => n - (intOf i).toNat)
  case atStart => exact ⟨0, Nat.zero_le _, rfl, Lib.hid (Below.refl _ _)⟩
  case round =>
    obtain ⟨k, hk, rfl, HL⟩ := hrel
    by_cases hlt : k < n
    · obtain ⟨b1, o1, rfl, hb1, c0, c1, c2⟩ := HA.out.tri hlt
      obtain ⟨b2, o2, rfl, hb2, d0, d1, d2⟩ := HB.out.tri hlt
      have hsz := HL.out.size
      have C0 := Lib.hid fun p => GrownW.cell (B := w.heap.size) ((HL.out.cell (p := ⟨b1, o1 + k * 3, none⟩) hb1).trans c0) hb1 p
      have C1 := Lib.hid fun p => GrownW.cell (B := w.heap.size) ((HL.out.cell (p := ⟨b1, o1 + k * 3 + 1, none⟩) hb1).trans c1) hb1 p
      have C2 := Lib.hid fun p => GrownW.cell (B := w.heap.size) ((HL.out.cell (p := ⟨b1, o1 + k * 3 + 2, none⟩) hb1).trans c2) hb1 p
      have D0 := Lib.hid fun p => GrownW.cell (B := w.heap.size) ((HL.out.cell (p := ⟨b2, o2 + k * 3, none⟩) hb2).trans d0) hb2 p
      have D1 := Lib.hid fun p => GrownW.cell (B := w.heap.size) ((HL.out.cell (p := ⟨b2, o2 + k * 3 + 1, none⟩) hb2).trans d1) hb2 p
      have D2 := Lib.hid fun p => GrownW.cell (B := w.heap.size) ((HL.out.cell (p := ⟨b2, o2 + k * 3 + 2, none⟩) hb2).trans d2) hb2 p
      clear c0 c1 c2 d0 d1 d2
      generalize ys.getD k triZ = t at *
      obtain ⟨ta, tb, tc⟩ := t
      go_wp2_with fail
      have hk1 : (k : Int) < (n : Int) := by omega
      have c0 := C0.out; have c1 := C1.out; have c2 := C2.out; have d0 := D0.out; have d1 := D1.out; have d2 := D2.out
      refine wp_region_grown w.heap.size (by kernel_rfl) (by kernel_rfl) ?_
      repeat (go_big_quiet_step ((go_at_call 61; exact GrownW.call hsz (eqMessage_same ta tb tc _))))
      refine wpQuiet_done ?_
      intro w9 hb9
      have HB9 := Lib.hid hb9
      clear hb9 c0 c1 c2 d0 d1 d2 C0 C1 C2 D0 D1 D2
      go_wp2_with fail
      go_roundw
      case rel => exact ⟨k + 1, by omega, by go_num, Lib.hid (HL.out.trans HB9.out)⟩
      case measure => simp [intOf]; omega
    · go_wp2_with fail
      go_ret
      exact ⟨rfl, HL.out⟩

set_option maxRecDepth 100000 in
set_option maxHeartbeats 2000000 in
theorem markMessageS_any (w : World) (lo hi : Nat) (va : Value) (m : Int) (ys : List Tri) (ha : OwMessageS lo hi w va ys) (hm : 0 ≤ m) (hn : m + (cntMessageS ys : Int) ≤ 9223372036854775000) :
    Calls Try.prog 23 #[va, .int .i64 m] w fun e w' => ∃ zs, e = .returned (.int .i64 (m + (cntMessageS ys : Int))) ∧ MkMessageS m ys zs ∧ OwMessageS lo hi w' va zs ∧ Chg lo hi w w' := by
  refine Calls.mono (?_ : Calls Try.prog 23 #[va, .int .i64 m] w fun e w' => e = .returned (.int .i64 (m + 3 * (ys.length : Int))) ∧ Ow lo hi w' 33 3 va ys.length (tris (triSeq m ys.length)) ∧ Chg lo hi w w') ?_
  rotate_left
  · rintro e w' ⟨h1, h2, h3⟩
    refine ⟨triSeq m ys.length, ?_, rfl, by rw [OwMessageS, triSeq_length]; exact h2, h3⟩
    rw [h1, cntMessageS]; congr 2
  unfold OwMessageS at ha
  unfold cntMessageS at hn
  have hn' : m + 3 * (ys.length : Int) ≤ 9223372036854775000 := by omega
  clear hn
  rcases ha.cases with ⟨h0, -, a, rfl⟩ | ⟨g, cap, rfl, hlo, hhi, hrow⟩
  · rw [h0]
    go_enter Try.func23, Try.ntmps23
    go_wp2_with fail
    refine wp_loop_rounds 1 ?_
    rw [rounds_succ]
    go_wp2_with fail
    go_ret
    exact ⟨by simp, by simpa [triSeq, tris] using Ow.nil lo hi w 33 3 a, Chg.refl _ _ _⟩
  · have HR := Lib.hid hrow; clear hrow ha
    have HALL := Lib.hid (markT_all m ys)
    have HSET := Lib.hid (markT_set m · ys)
    have HSPL := Lib.hid (markT_split m · ys)
    have HZ := Lib.hid (markT_zero m ys)
    generalize hln : ys.length = n at *
    have HN := Lib.hid hln; clear hln
    go_enter Try.func23, Try.ntmps23
    go_wp2_with fail
    go_loopw [1, 5] (fun q i wr => ∃ k : Nat, k ≤ n ∧ i = .int .i64 k ∧ q = .int .i64 (m + 3 * (k : Int)) ∧ Hid (wr.ownsRow g 33 3 (.slice (some ⟨g, 0, none⟩) n cap) n (markT m k ys)) ∧ Hid (Chg g (g + 1) w wr)) (fun _ i _ => n - (intOf i).toNat)
    case atStart => exact ⟨0, Nat.zero_le _, rfl, by simp, by rw [HZ.out]; exact HR, Lib.hid (Chg.refl _ _ _)⟩
    case round =>
      clear HR HZ
      obtain ⟨k, hk, rfl, rfl, HO, HB⟩ := hrel
      by_cases hlt : k < n
      · have hl : (tris (triSeq m k)).length = k * 3 := by rw [tris_length, triSeq_length]
        have hsp := HSPL.out k hlt
        have g0 : wr.cell? ⟨g, k * 3, none⟩ = some (.int .i64 (ys.getD k triZ).1) := by rw [HO.out.cellAt _ (by omega), hsp, List.getElem?_append_right (by omega), hl, Nat.sub_self]; rfl
        have g1 : wr.cell? ⟨g, k * 3 + 1, none⟩ = some (.int .i64 (ys.getD k triZ).2.1) := by rw [HO.out.cellAt _ (by omega), hsp, List.getElem?_append_right (by omega), hl, show k * 3 + 1 - k * 3 = 1 from by omega]; rfl
        have g2 : wr.cell? ⟨g, k * 3 + 2, none⟩ = some (.int .i64 (ys.getD k triZ).2.2) := by rw [HO.out.cellAt _ (by omega), hsp, List.getElem?_append_right (by omega), hl, show k * 3 + 2 - k * 3 = 2 from by omega]; rfl
        have z0 := HO.out.frozenAt (k * 3); have z1 := HO.out.frozenAt (k * 3 + 1); have z2 := HO.out.frozenAt (k * 3 + 2)
        generalize (ys.getD k triZ).1 = x0 at *
        generalize (ys.getD k triZ).2.1 = x1 at *
        generalize (ys.getD k triZ).2.2 = x2 at *
        have HST := Lib.hid (HSET.out k hlt)
        have s1 := HO.out.stored (k * 3) (.int .i64 (m + 3 * (k : Int)))
        have s2 := s1.1.stored (k * 3 + 1) (.int .i64 (m + 3 * (k : Int) + 1))
        have s3 := s2.1.stored (k * 3 + 2) (.int .i64 (m + 3 * (k : Int) + 1 + 1))
        have HO9 := Lib.hid s3.1
        have HB9 := Lib.hid (((HB.out.trans (Chg.of_grown s1.2)).trans (Chg.of_grown s2.2)).trans (Chg.of_grown s3.2))
        clear hl hsp s1 s2 s3
        go_wp2_with fail
        go_roundw
        case rel =>
          refine ⟨k + 1, by omega, by go_num, by go_num, ?_, HB9⟩
          rw [← HST.out, show m + 3 * (k : Int) + 2 = m + 3 * (k : Int) + 1 + 1 from by omega]; exact HO9
        case measure => simp [intOf]; omega
      · obtain rfl : k = n := by omega
        go_wp2_with fail
        go_ret
        have h4 := HO.out
        have hall := HALL.out
        rw [hall] at h4
        exact ⟨rfl, Ow.of_block h4 hlo hhi, HB.out.mono hlo (by omega)⟩

set_option maxRecDepth 100000 in
set_option maxHeartbeats 1000000 in
theorem heldMessageS_any (w : World) (va : Value) (m : Int) (ys zs : List Tri) (hmk : MkMessageS m ys zs) (ha : RdMessageS w va zs) (hm : 0 ≤ m) (hn : m + (cntMessageS ys : Int) ≤ 9223372036854775000) :
    Calls Try.prog 24 #[va, .int .i64 m] w fun e w' => e = .returned (.int .i64 (m + (cntMessageS ys : Int))) ∧ Below w.heap.size w w' := by
  unfold MkMessageS at hmk
  subst hmk
  have hc : (cntMessageS ys : Int) = 3 * (ys.length : Int) := by rw [cntMessageS]; omega
  rw [hc] at hn ⊢
  clear hc
  have HR : Hid (Rd w 3 va ys.length (tris (triSeq m ys.length))) := Lib.hid (by have := ha; rw [RdMessageS, triSeq_length] at this; exact this)
  clear ha
  obtain ⟨a, ca, rfl, hca, hma⟩ := HR.out.form
  generalize ys.length = n at *
  go_enter Try.func24, Try.ntmps24
  go_wp2_with fail
  go_loopw [1, 5] (fun q i wr => ∃ k : Nat, k ≤ n ∧ i = .int .i64 k ∧ q = .int .i64 (m + 3 * (k : Int)) ∧ Below w.heap.size w wr) (fun _ i _ => n - (intOf i).toNat)
  case atStart => exact ⟨0, Nat.zero_le _, rfl, by simp, Below.refl _ _⟩
  case round =>
    obtain ⟨k, hk, rfl, rfl, hbel⟩ := hrel
    have HB := Lib.hid hbel; clear hbel
    by_cases hlt : k < n
    · obtain ⟨b1, o1, rfl, hb1, c0, c1, c2⟩ := (HR.out.keep HB.out).tri hlt
      rw [triSeq_getD m n k hlt] at c0 c1 c2
      simp only at c0 c1 c2
      go_wp2_with fail
      go_roundw
      case rel => exact ⟨k + 1, by omega, by go_num, by go_num, HB.out⟩
      case measure => simp [intOf]; omega
    · obtain rfl : k = n := by omega
      go_wp2_with fail
      go_ret
      exact ⟨rfl, HB.out⟩

theorem szMessageS_ok (w : World) (va : Value) (ys : List Tri) (left : Int) (h : RdMessageS w va ys) (hl : (ys.length : Int) ≤ left) (h2 : left ≤ 1048576) :
    Calls Try.prog 20 #[va, .int .i64 left] w fun e w' => e = .returned (.int .i64 (left - (ys.length : Int))) ∧ w = w' := by
  obtain ⟨a, c, rfl, hc, hm⟩ := Rd.form h
  clear h
  generalize ys.length = n at *
  have t : decide (left - (n : Int) < 0) = false := by simp; omega
  go_enter Try.func20, Try.ntmps20
  go_wp2_with fail
  go_ret
  exact ⟨rfl, rfl⟩
theorem szMessageS_no (w : World) (va : Value) (ys : List Tri) (left : Int) (h : RdMessageS w va ys) (hl : left < (ys.length : Int)) (h0 : 0 ≤ left) (h2 : left ≤ 1048576) :
    Calls Try.prog 20 #[va, .int .i64 left] w fun e w' => e = .returned (.int .i64 (-1)) ∧ w = w' := by
  obtain ⟨a, c, rfl, hc, hm⟩ := Rd.form h
  clear h
  generalize ys.length = n at *
  have t : decide (left - (n : Int) < 0) = true := by simp; omega
  go_enter Try.func20, Try.ntmps20
  go_wp2_with fail
  go_ret
  exact ⟨rfl, rfl⟩
end Go.Proofs.Ytgdggkhdollieaa
