/-
  The program's sorting of messages: buckets by a map, each sorted by the library, one behind the other.
-/
import Derived.Test.YtgdggkhdollieaaSortP
import Derived.Test.YtgdggkhdollieaaSortM
import Derived.Test.YtgdggkhdollieaaSortI
import Derived.Test.YtgdggkhdollieaaFam
import Derived.Test.YtgdggkhdollieaaStage
import Derived.Test.YtgdggkhdollieaaSpecSort
import Derived.Maps.OwnOps
namespace Go.Proofs.Ytgdggkhdollieaa
open Go.RowKit Go.Maps
set_option linter.unusedVariables false

/-- How a bucket in the map reads: as the slice itself. -/
def RV (v : Value) : Option (DataW Value × List MemPlace) := some (.held v, [])
theorem intKeyedM : Keyed Try.prog 3 := int_keyed Try.underlying3
theorem wf64 {x : Int} (h : In64 x) : (Lit.int .i64 x).wf = true := WalkArith.wf_i64 h
/-- At each key the map holds that key's slice; nil where it has none. -/
def KeysM (D : DataW Value) (bk : Int → Value) : Prop := IsMap D ∧ ∀ x, D.atKey (.int .i64 x) (.held (.slice none 0 0)) = .held (bk x)
theorem KeysM.start : KeysM (.map []) fun _ => .slice none 0 0 := ⟨⟨[], rfl⟩, fun x => by simp [DataW.atKey]⟩
theorem KeysM.put {D : DataW Value} {bk : Int → Value} (h : KeysM D bk) (y : Int) (v : Value) : KeysM (D.put (.int .i64 y) (.held v)) fun j => if j = y then v else bk j := by
  refine ⟨h.1.put _ _, fun x => ?_⟩
  by_cases e : x = y
  · subst e
    rw [atKey_put_same h.1 (by simp [WideAt.IsKeyLit])]
    simp
  · rw [atKey_put_other (by simpa using e)]
    simp only [if_neg e]
    exact h.2 x
theorem look_eq {w : World} {b n : Nat} {D : DataW Value} {bk : Int → Value} {x : Int} (h : w.ownsMap Try.prog 3 RV b n D) (hk : KeysM D bk) (hx : (Lit.int .i64 x).wf = true) :
    (Instr.lookup 110 (.map (some b)) (.int .i64 x) false).run Try.prog w = .ok (bk x) w := by
  obtain ⟨v, ps, hrun, hv⟩ := h.lookup intKeyedM Try.underlying110 (z := .slice none 0 0) (by kernel_rfl) (zd := .held (.slice none 0 0)) (zp := []) rfl (keyOf_int_mk Try.underlying3 hx)
  rw [hk.2 x] at hv
  have e : v = bk x := by
    simp only [RV, Option.some.injEq, Prod.mk.injEq, DataW.held.injEq] at hv
    exact hv.1
  rw [hrun, e]
theorem row_below {w w' : World} {b s n B : Nat} {e : TypeId} {v : Value} {cs : List Value} (h : w.ownsRow b e s v n cs) (hb : Below B w w') (hB : ∀ g, v.ownBlock = some g → g < B) : w'.ownsRow b e s v n cs := by
  refine ⟨h.1, ?_⟩
  rcases h.2 with h2 | ⟨g, cap, cur, rfl, hbg, hg, r⟩
  · exact .inl h2
  · exact .inr ⟨g, cap, cur, rfl, hbg, (hb.block g (hB g rfl)).trans hg, r⟩
theorem Fam.below {ι : Type} {lo B : Nat} {w w' : World} {e : TypeId} {bk : ι → Value} {cs : ι → List Tri} (h : Fam lo w e bk cs) (hb : Below B w w') (hB : ∀ i g, (bk i).ownBlock = some g → g < B) : Fam lo w' e bk cs :=
  ⟨fun i => row_below (h.own i) hb (hB i), h.apart⟩
theorem Fam.drew {ι : Type} {lo : Nat} {w : World} {e : TypeId} {bk : ι → Value} {cs : ι → List Tri} (h : Fam lo w e bk cs) : Fam lo w.drew e bk cs := ⟨h.own, h.apart⟩
theorem Fam.upd {ι : Type} [DecidableEq ι] {lo : Nat} {w w' : World} {e : TypeId} {bk : ι → Value} {cs : ι → List Tri} (h : Fam lo w e bk cs) (i : ι) {ys : List Tri} (ho : w'.ownsRow lo e 3 (bk i) ys.length (tris ys)) (hg : w.grownBy w' (bk i).ownBlock) : Fam lo w' e bk fun j => if j = i then ys else cs j := by
  have h1 := h.put i ho hg (.inl rfl)
  have e1 : (fun j => if j = i then bk i else bk j) = bk := by
    funext j
    split
    · rename_i e; rw [e]
    · rfl
  rwa [e1] at h1
theorem Fam.rowKept {ι : Type} {lo b2 s2 n2 : Nat} {w w' : World} {e e2 : TypeId} {bk : ι → Value} {cs : ι → List Tri} {v : Value} {c2 : List Value} (h : Fam lo w e bk cs) (hr : w.ownsRow b2 e2 s2 v n2 c2) (he : e ≠ e2) (hg : w.grownBy w' v.ownBlock) : Fam lo w' e bk cs :=
  ⟨fun i => row_kept (h.own i) hg fun g h1 => rows_ne (h.own i) hr he g h1, h.apart⟩
theorem ownsMap_below {w w' : World} {k : TypeId} {b n B : Nat} {D : DataW Value} (h : w.ownsMap Try.prog k RV b n D) (hb : Below B w w') (hB : b < B) : w'.ownsMap Try.prog k RV b n D := by
  obtain ⟨es, clock, h1, h2⟩ := h
  exact ⟨es, clock, (hb.block b hB).trans h1, h2⟩
theorem bucket_step {ys : List Tri} {k : Nat} {y0 y1 y2 : Int} (hk : k < ys.length) (hy : ys.getD k triZ = (y0, y1, y2)) : bucket (ys.take (k + 1)) = fun j => if j = y0 then bucket (ys.take k) y0 ++ [(y0, y1, y2)] else bucket (ys.take k) j := by
  funext j
  rw [triTake_snoc ys k hk, hy]
  split
  · rename_i e; subst e; exact bucket_yes
  · rename_i e; exact bucket_no e
theorem flatB_len {ys : List Tri} {S : List Int} (hp : S.Perm (headsT ys)) (hs : S.Pairwise (· ≤ ·)) (j : Nat) : (flatB ys (S.take j)).length ≤ ys.length := by
  have h1 : flatB ys S = flatB ys (S.take j) ++ flatB ys (S.drop j) := by unfold flatB; rw [← List.flatMap_append, List.take_append_drop]
  have h2 : (flatB ys S).length = ys.length := by rw [flatB_is hp hs, sortT_length]
  rw [h1, List.length_append] at h2; omega
theorem make0_eq {P : Program} {t e : TypeId} {n : Nat} (ht : P.underlying t = some (.slice e)) (hinfo : (P.info? e).map (fun i => (i.zero, i.size, i.bytes)) = some (some (.agg #[.int .i64 0, .int .i64 0, .int .i64 0]), 3, 24)) (hn : n ≤ 1099511627776) :
    ∃ A : Array Value, A.size = n * 3 ∧ ∀ w : World, (Instr.makeSlice t (.int .i64 0) (.int .i64 (n : Int))).run P w = .ok (.slice (some ⟨w.heap.size, 0, none⟩) 0 n) (w.alloc (.cells A e)) := by
  obtain ⟨i, hi, h0, h1, h2⟩ := info_parts hinfo
  refine ⟨madeCells (Value.agg #[.int .i64 0, .int .i64 0, .int .i64 0]).cells (n * 3), by simp [size_madeCells], fun w => ?_⟩
  have hb' : (i.bytes : Int) * (n : Int) ≤ 281474976710656 := by rw [h2]; omega
  have hr := run_make (P := P) w t e i _ ht hi h0 .i64 .i64 0 n (by omega) (by omega) hb' (by omega)
  simp only [Int.toNat_natCast, Int.toNat_zero, h1] at hr
  exact hr

set_option maxRecDepth 100000 in
set_option maxHeartbeats 16000000 in
theorem inOrder_any (w : World) (va : Value) (ys : List Tri) (ha : Rd w 3 va ys.length (tris ys)) (hwf : WfTriS ys) (hs : ys.length ≤ 2000) : Calls Try.prog 58 #[va] w (RetMessageS w (sortT ys)) := by
  have HR := Lib.hid ha
  obtain ⟨a, ca, rfl, hca, hma⟩ := ha.form
  clear ha
  have HT : Hid (ys.take ys.length = ys) := Lib.hid (List.take_of_length_le (Nat.le_refl _))
  have HBS : Hid (∀ k y0 y1 y2, k < ys.length → ys.getD k triZ = (y0, y1, y2) → bucket (ys.take (k + 1)) = fun j => if j = y0 then bucket (ys.take k) y0 ++ [(y0, y1, y2)] else bucket (ys.take k) j) := Lib.hid fun k y0 y1 y2 hk hy => bucket_step hk hy
  have HHN : Hid (∀ k y0 y1 y2, k < ys.length → ys.getD k triZ = (y0, y1, y2) → (bucket (ys.take k) y0).length = 0 → headsT (ys.take (k + 1)) = headsT (ys.take k) ++ [y0]) := Lib.hid fun k y0 y1 y2 hk hy h0 => by
    rw [triTake_snoc ys k hk, hy]; exact headsT_new (y := (y0, y1, y2)) h0
  have HHO : Hid (∀ k y0 y1 y2, k < ys.length → ys.getD k triZ = (y0, y1, y2) → (bucket (ys.take k) y0).length ≠ 0 → headsT (ys.take (k + 1)) = headsT (ys.take k)) := Lib.hid fun k y0 y1 y2 hk hy h0 => by
    rw [triTake_snoc ys k hk, hy]; exact headsT_old (y := (y0, y1, y2)) h0
  have HBL : Hid (∀ k x, (bucket (ys.take k) x).length ≤ 2000) := Lib.hid fun k x => Nat.le_trans (bucket_len _ _) (by rw [List.length_take]; omega)
  have HHL : Hid (∀ k, (headsT (ys.take k)).length ≤ 2000) := Lib.hid fun k => Nat.le_trans (headsT_len _) (by rw [List.length_take]; omega)
  have HWF : Hid (∀ k y0 y1 y2, k < ys.length → ys.getD k triZ = (y0, y1, y2) → (Lit.int .i64 y0).wf = true) := Lib.hid fun k y0 y1 y2 hk hy => by
    have := (hwf _ (triD_mem hk)).1; rw [hy] at this; exact wf64 this
  have HWS : Hid (∀ x, x ∈ headsT ys → (Lit.int .i64 x).wf = true) := Lib.hid fun x hx => by
    obtain ⟨y, hy, rfl⟩ := (headsT_mem ys x).1 hx
    exact wf64 (hwf y hy).1
  have HSL : Hid ((sortT ys).length = ys.length) := Lib.hid (sortT_length ys)
  generalize hn : ys.length = n at *
  have HN := Lib.hid hn; clear hn hwf
  obtain ⟨i0, hi, hz0, hz1, hz2⟩ := info_parts infoMessage
  have Hi := Lib.hid hi; have Hz0 := Lib.hid hz0; have Hz1 := Lib.hid hz1; have Hz2 := Lib.hid hz2; clear hi hz0 hz1 hz2
  obtain ⟨j0, hi, hz0, hz1, hz2⟩ := info_parts infoInt
  have Ji := Lib.hid hi; have Jz0 := Lib.hid hz0; have Jz1 := Lib.hid hz1; have Jz2 := Lib.hid hz2; clear hi hz0 hz1 hz2
  obtain ⟨A0, hA0, hmk⟩ := make0_eq (P := Try.prog) (n := n) Try.underlying28 infoMessage (by omega)
  have HA0 := Lib.hid hA0; have HMK := Lib.hid hmk; clear hA0 hmk
  have hmm := @run_makeMap Try.prog
  have HM0 := Lib.hid (World.ownsMap_made (H := Value) w Try.prog 3 RV)
  have HT0 := Lib.hid (World.ownsRow_nil (w.alloc (.map #[] 0)) (w.heap.size + 1) 3 1)
  have HF0 := Lib.hid (Fam.start (ι := Int) (w.heap.size + 1) (w.alloc (.map #[] 0)) 33)
  have HB0 : Hid (Below w.heap.size w (w.alloc (.map #[] 0))) := Lib.hid (by go_grown)
  go_enter Try.func58, Try.ntmps58
  go_wp2_with fail
  clear hmm
  obtain ⟨bm, hbm⟩ : ∃ bm, bm = w.heap.size := ⟨_, rfl⟩
  obtain ⟨lo, hlo⟩ : ∃ lo, lo = w.heap.size + 1 := ⟨_, rfl⟩
  rw [← hlo] at HT0 HF0
  rw [← hbm] at HM0 ⊢
  have HLO : Hid (bm = w.heap.size ∧ lo = w.heap.size + 1) := Lib.hid ⟨hbm, hlo⟩
  have hbl : bm < lo := by omega
  have hbw : w.heap.size ≤ bm := by omega
  generalize hw1 : (w.alloc (.map #[] 0)) = w1 at *
  clear hw1 hbm hlo
  go_loopw [4, 14] (fun tw i wr => ∃ (k : Nat) (D : DataW Value) (bk : Int → Value) (tv : Value), k ≤ n ∧ Hid (tv = tw) ∧ i = .int .i64 k ∧ Hid (wr.ownsRow lo 3 1 tv (headsT (ys.take k)).length (ints (headsT (ys.take k)))) ∧ Hid (Fam lo wr 33 bk (bucket (ys.take k))) ∧ Hid (wr.ownsMap Try.prog 3 RV bm k D) ∧ Hid (KeysM D bk) ∧ Hid (Below w.heap.size w wr)) (fun _ i _ => n - (intOf i).toNat)
  case atStart => exact ⟨0, .map [], fun _ => .slice none 0 0, _, Nat.zero_le _, Lib.hid rfl, rfl, HT0, HF0, HM0, Lib.hid KeysM.start, HB0⟩
  case round =>
    clear HT0 HF0 HM0 HB0
    obtain ⟨k, D, bk, tv, hk, htv, rfl, HTT, HF, HM, HK, HB⟩ := hrel
    obtain rfl := htv.out
    by_cases hlt : k < n
    · obtain ⟨b1, o1, rfl, hb1, q0, q1, q2⟩ := (HR.out.keep HB.out).tri hlt
      obtain ⟨⟨y0, y1, y2⟩, hy⟩ : ∃ y, ys.getD k triZ = y := ⟨_, rfl⟩
      rw [hy] at q0 q1 q2
      simp only at q0 q1 q2
      have HW0 := Lib.hid (HWF.out k y0 y1 y2 hlt hy)
      have HBU := Lib.hid (HBS.out k y0 y1 y2 hlt hy)
      have HHN1 := Lib.hid (HHN.out k y0 y1 y2 hlt hy); have HHO1 := Lib.hid (HHO.out k y0 y1 y2 hlt hy)
      clear hy
      have hbl1 := HBL.out k y0
      have hhl1 := HHL.out k
      obtain ⟨a0, c0, hbk, -, -, -⟩ := HF.out.form y0
      obtain ⟨n0, hn0⟩ : ∃ n0, (bucket (ys.take k) y0).length = n0 := ⟨_, rfl⟩
      rw [hn0] at hbk hbl1
      have HBK := Lib.hid hbk; have HN0 := Lib.hid hn0; clear hbk hn0
      have hlw : lo ≤ wr.heap.size := by have := HM.out.lt; have := HLO.out; omega
      obtain ⟨p, hp⟩ : ∃ p, p = wr.heap.size := ⟨_, rfl⟩
      have hal : Below wr.heap.size wr (wr.alloc (.cells #[.int .i64 y0, .int .i64 y1, .int .i64 y2] 33)) := (Below.refl _ _).alloc (Nat.le_refl _) _
      have HT1 := Lib.hid (ownsRow_keep HTT.out hal)
      have HF1 := Lib.hid (HF.out.keep hal)
      have HM1 := Lib.hid (HM.out.alloc (.cells #[.int .i64 y0, .int .i64 y1, .int .i64 y2] 33))
      have HB1 := Lib.hid (HB.out.tr hal)
      have BX := Lib.hid (heap_alloc_new wr (.cells #[.int .i64 y0, .int .i64 y1, .int .i64 y2] 33))
      have HPB : Hid ((bk y0).ownBlock ≠ some p) := Lib.hid fun e => by have := (HF.out.lt y0 p e).2; omega
      have HPT : Hid (tv.ownBlock ≠ some p) := Lib.hid fun e => by have := (HTT.out.lt p e).2; omega
      have hlk := look_eq HM1.out HK.out HW0.out
      rw [HBK.out] at hlk
      have hs1 : wr.heap.size < (wr.alloc (.cells #[.int .i64 y0, .int .i64 y1, .int .i64 y2] 33)).heap.size := by simp
      rw [← hp] at BX
      have hpl : lo ≤ p := by omega
      clear hal HTT HF HM HB
      by_cases h0 : n0 = 0
      · have HHD := Lib.hid (HHN1.out (HN0.out.trans h0))
        have t0 : ((n0 : Int) == 0) = true := by simp [h0]
        have H00 := Lib.hid h0
        clear h0 HHN1 HHO1
        generalize hhh : headsT (ys.take k) = hh at *
        have HHH := Lib.hid hhh; clear hhh
        have hal : Below (wr.alloc (.cells #[.int .i64 y0, .int .i64 y1, .int .i64 y2] 33)).heap.size (wr.alloc (.cells #[.int .i64 y0, .int .i64 y1, .int .i64 y2] 33)) ((wr.alloc (.cells #[.int .i64 y0, .int .i64 y1, .int .i64 y2] 33)).alloc (.cells #[.int .i64 y0] 3)) := (Below.refl _ _).alloc (Nat.le_refl _) _
        have HT2 := Lib.hid (ownsRow_keep HT1.out hal)
        have HF2 := Lib.hid (HF1.out.keep hal)
        have HM2 := Lib.hid (HM1.out.alloc (.cells #[.int .i64 y0] 3))
        have HB2 := Lib.hid (HB1.out.tr hal)
        have BX2 := Lib.hid (box_keep BX.out hal)
        have hsz2 : ((wr.alloc (.cells #[.int .i64 y0, .int .i64 y1, .int .i64 y2] 33)).alloc (.cells #[.int .i64 y0] 3)).heap.size = p + 2 := by simp [hp]
        have HSZ2 := Lib.hid hsz2
        have hsz1 : (wr.alloc (.cells #[.int .i64 y0, .int .i64 y1, .int .i64 y2] 33)).heap.size = wr.heap.size + 1 := by simp
        have HCN : Hid (∀ j u, [Value.int .i64 y0][j]? = some u → ((wr.alloc (.cells #[.int .i64 y0, .int .i64 y1, .int .i64 y2] 33)).alloc (.cells #[.int .i64 y0] 3)).cell? ((⟨wr.heap.size + 1, 0, none⟩ : Addr).add j) = some u) := Lib.hid (by rw [← hsz1]; exact cell_one_new _ _ _)
        clear hal HT1 HF1 HM1 HB1 BX hsz2 hsz1
        go_wp2_with (at_builtin; refine wpList_append_own_at _ rfl _ _ 23 rfl lo 3 j0 (.int .i64 0) 1 8 Try.underlying23 Ji.out Jz0.out Jz1.out Jz2.out rfl (by decide) _ _ _ rfl HT2.out _ 1 1 [.int .i64 y0] rfl rfl HCN.out (by simp [Value.oneCell']) (by unfold maxLen; omega) (by omega) (by rw [HSZ2.out]; omega) ?_; intro tv' w2 hown hg hnil hblk)
        rw [← hp]
        have HF3 := Lib.hid (HF2.out.rowKept HT2.out (by decide) hg)
        have HM3 := Lib.hid (HM2.out.kept hg (fun e => by have := (HT2.out.lt _ e.symm).1; omega))
        have HB3 := Lib.hid (HB2.out.grown hg HB2.out.size (fun g hg => by have := (HT2.out.lt _ hg).1; omega))
        have BX3 := Lib.hid ((hg.block p (box_lt BX2.out) (fun e => HPT.out e.symm)).trans BX2.out)
        have HT3 : Hid (w2.ownsRow lo 3 1 tv' (hh ++ [y0]).length (ints (hh ++ [y0]))) := Lib.hid (by rw [List.length_append, ints_append]; exact hown)
        have hw2 : lo ≤ w2.heap.size := by have := HM3.out.lt; have := HLO.out; omega
        clear HT2 HF2 HM2 HB2 BX2 hown hg hnil hblk hlk t0 HSZ2 HCN hs1 hp
        replace HF2 := HF3; replace HM2 := HM3; replace HB2 := HB3; replace BX := BX3; replace HT2 := HT3
        clear HF3 HM3 HB3 BX3 HT3
        have hsA : (w2.drew.alloc (.cells #[.int .i64 y0, .int .i64 y1, .int .i64 y2] 33)).heap.size = w2.heap.size + 1 := by simp
        have hal : Below w2.drew.heap.size w2.drew (w2.drew.alloc (.cells #[.int .i64 y0, .int .i64 y1, .int .i64 y2] 33)) := (Below.refl _ _).alloc (Nat.le_refl _) _
        have hfa := (Fam.drew HF2.out).keep hal
        have hta := ownsRow_keep (w := w2.drew) HT2.out hal
        have hma : (w2.drew.alloc (.cells #[.int .i64 y0, .int .i64 y1, .int .i64 y2] 33)).ownsMap Try.prog 3 RV bm k D := (World.ownsMap.drew HM2.out).alloc _
        have hba := HB2.out.drew.trans (hal.mono HB2.out.size)
        have hra := hfa.own y0
        rw [HBK.out, HN0.out] at hra
        obtain ⟨v9, w9, hr9, ho9, hg9, hn9, hb9⟩ := run_append_own_at (P := Try.prog) _ lo 28 28 33 i0 (.agg #[.int .i64 0, .int .i64 0, .int .i64 0]) 3 24 Try.underlying28 Hi.out Hz0.out Hz1.out Hz2.out rfl (by decide) _ n0 _ hra ⟨w2.heap.size, 0, none⟩ 1 1 (tris [(y0, y1, y2)]) rfl (cells_new3 w2.drew y0 y1 y2) (tris_one _) (by unfold maxLen; omega) (by omega) (by rw [hsA]; omega)
        rw [← tris_append] at ho9
        obtain ⟨a9, c9, rfl, -, -⟩ := (Rd.of_own ho9).form
        have hf9 := hfa.put y0 (v' := .slice a9 (n0 + 1) c9) (ys := bucket (ys.take k) y0 ++ [(y0, y1, y2)]) (by rw [List.length_append, HN0.out]; exact ho9) (by rw [HBK.out]; exact hg9) (by rw [HBK.out]; exact hb9)
        have ht9 := row_kept hta hg9 (fun g hg e => rows_ne hta hra (by decide) g hg e)
        have hm9 := hma.kept hg9 (fun e => by have := (hra.lt _ e.symm).1; omega)
        have hb9' := hba.grown hg9 hba.size (fun g hg => by have := (hra.lt _ hg).1; omega)
        have hp9 : w9.heap[p]? = some (.cells #[.int .i64 y0, .int .i64 y1, .int .i64 y2] 33 (0, 0)) := (hg9.block p (by rw [hsA]; have := box_lt BX.out; omega) (fun e => HPB.out (by rw [HBK.out]; exact e.symm))).trans (box_keep (w := w2.drew) BX.out hal)
        obtain ⟨w10, hr10, hm10, hg10⟩ := hm9.update intKeyedM Try.underlying110 (by unfold maxLen; omega) (key := .int .i64 y0) (val := .slice a9 (n0 + 1) c9) (keyOf_int_mk Try.underlying3 HW0.out) (show RV (.slice a9 (n0 + 1) c9) = some (.held (.slice a9 (n0 + 1) c9), []) from rfl)
        have HF10 := Lib.hid (hf9.kept hg10 (fun r hr => by cases hr; omega))
        have HT10 := Lib.hid (row_kept ht9 hg10 (fun g hg e => by have := (ht9.lt g hg).1; injection e with e; omega))
        have HM10 := Lib.hid hm10
        have HB10 := Lib.hid (hb9'.grown hg10 hb9'.size (fun g hg => by injection hg with hg; omega))
        have hp10 : w10.heap[p]? = some (.cells #[.int .i64 y0, .int .i64 y1, .int .i64 y2] 33 (0, 0)) := (hg10.block p (box_lt hp9) (fun e => by injection e with e; omega)).trans hp9
        have HCELL : Hid (∀ wx, (wx = w2.drew ∨ wx = w2.drew.alloc (.cells #[.int .i64 y0, .int .i64 y1, .int .i64 y2] 33) ∨ wx = w9 ∨ wx = w10) → wx.cell? ⟨p, 0, none⟩ = some (.int .i64 y0) ∧ wx.cell? ⟨p, 1, none⟩ = some (.int .i64 y1) ∧ wx.cell? ⟨p, 2, none⟩ = some (.int .i64 y2)) := Lib.hid fun wx h => by
          have hb : wx.heap[p]? = some (.cells #[.int .i64 y0, .int .i64 y1, .int .i64 y2] 33 (0, 0)) := by
            rcases h with rfl | rfl | rfl | rfl
            · exact BX.out
            · exact box_keep (w := w2.drew) BX.out hal
            · exact hp9
            · exact hp10
          exact ⟨box_cell hb 0 _ rfl, box_cell hb 1 _ rfl, box_cell hb 2 _ rfl⟩
        have HLK : Hid (∀ wx, (wx = w2.drew ∨ wx = w2.drew.alloc (.cells #[.int .i64 y0, .int .i64 y1, .int .i64 y2] 33)) → (Instr.lookup 110 (.map (some bm)) (.int .i64 y0) false).run Try.prog wx = .ok (.slice a0 n0 c0) wx) := Lib.hid fun wx h => by
          rw [← HBK.out]
          rcases h with rfl | rfl
          · exact look_eq (World.ownsMap.drew HM2.out) HK.out HW0.out
          · exact look_eq hma HK.out HW0.out
        have HR9 := Lib.hid hr9; have HR10 := Lib.hid hr10
        have HK10 := Lib.hid (HK.out.put y0 (.slice a9 (n0 + 1) c9))
        clear hr9 hr10 ho9 hg9 hn9 hb9 hf9 ht9 hm9 hb9' hp9 hm10 hg10 hp10 hfa hta hma hba hra hsA hal
        go_wp2_with fail
        refine wp_region_relA (fun x => { tmps := #[.slice (some ⟨b1, o1, none⟩) n ca, undef, .slice none 0 0, .map (some bm), tv', undef, .pointer (some ⟨p, 0, none⟩), undef, undef, undef, undef, .map (some bm), .slice (some ⟨b1, o1, none⟩) n ca, .int .i64 n, .int .i64 k, x 15, x 16, x 17, x 18, x 19, x 20, x 21, x 22, x 23, x 24, x 25, x 26, x 27, x 28, x 29, x 30, x 31, x 32, x 33, x 34, x 35, x 36, x 37, x 38, x 39, undef, undef, undef, undef, undef, undef, undef, undef, undef, undef, undef, undef, undef, undef, undef, undef, undef, undef, undef, undef, undef], defers := [] })
          (fun _ L wx => Stg 8 9 10 6 w2.drew (w2.drew.alloc (.cells #[.int .i64 y0, .int .i64 y1, .int .i64 y2] 33)) w9 w10 L wx) (fun _ _ _ => True)
          (Tl [cst (.map (some bm)), cst (.pointer (some ⟨p, 0, none⟩)), cst (.int .i64 y0), cst (.map (some bm)), cst (.pointer (some ⟨p, 0, none⟩)), cst (.int .i64 y0), cst (.slice a0 n0 c0), cst (.agg #[.int .i64 y0, .int .i64 y1, .int .i64 y2]), cst (.slice (some ⟨w2.heap.size, 0, none⟩) 1 1), cst (.slice a9 (n0 + 1) c9), tru]) rfl
          (by kernel_rfl) (by kernel_rfl) (by kernel_rfl) (stab_Tl ?hst) (fun _ _ => trivial) Stg.start ?hput ?hop ?hend
        case hst =>
          simp only [List.mem_cons, List.not_mem_nil, or_false, forall_eq_or_imp, forall_eq]
          refine ⟨?_, ?_, ?_, ?_, ?_, ?_, ?_, ?_, ?_, ?_, ?_⟩
          all_goals first | exact stab_cst _ _ | exact stab_tru _
        case hput =>
          refine ⟨?_, ?_, ?_, ?_, ?_, ?_, ?_, ?_, ?_, ?_, ?_, trivial⟩
          all_goals first | exact fun x v => rfl | exact trivial
        case hop =>
          refine ⟨?_, ?_, ?_, ?_, ?_, ?_, ?_, ?_, ?_, ?_, ?_, trivial⟩
          · refine OpRel.plain rfl fun n L x wx K hn hL hG hdep hK => ?_
            clear hdep; go_simp
            exact hK _ _ (hG.other (by decide)) trivial rfl
          · refine OpRel.plain rfl fun n L x wx K hn hL hG hdep hK => ?_
            clear hdep; go_simp
            exact hK _ _ (hG.other (by decide)) trivial rfl
          · refine OpRel.plain rfl fun n L x wx K hn hL hG hdep hK => ?_
            have h30 : x 30 = _ := (hdep 1 rfl).2 _ rfl
            obtain ⟨z0, z1, z2⟩ := HCELL.out wx hG.world
            clear hdep; simp only [h30] at hK; go_simp
            exact hK _ _ (hG.other (by decide)) trivial rfl
          · refine OpRel.plain rfl fun n L x wx K hn hL hG hdep hK => ?_
            clear hdep; go_simp
            exact hK _ _ (hG.other (by decide)) trivial rfl
          · refine OpRel.plain rfl fun n L x wx K hn hL hG hdep hK => ?_
            clear hdep; go_simp
            exact hK _ _ (hG.other (by decide)) trivial rfl
          · refine OpRel.plain rfl fun n L x wx K hn hL hG hdep hK => ?_
            have h33 : x 33 = _ := (hdep 4 rfl).2 _ rfl
            obtain ⟨z0, z1, z2⟩ := HCELL.out wx hG.world
            clear hdep; simp only [h33] at hK; go_simp
            exact hK _ _ (hG.other (by decide)) trivial rfl
          · refine OpRel.plain rfl fun n L x wx K hn hL hG hdep hK => ?_
            have h32 : x 32 = _ := (hdep 3 rfl).2 _ rfl
            have h34 : x 34 = _ := (hdep 5 rfl).2 _ rfl
            have hlk := HLK.out wx (hG.early hL)
            clear hdep; simp only [h32, h34] at hK; go_simp
            exact hK _ _ (hG.other (by decide)) trivial rfl
          · refine OpRel.plain rfl fun n L x wx K hn hL hG hdep hK => ?_
            obtain ⟨z0, z1, z2⟩ := HCELL.out wx hG.world
            clear hdep; go_simp
            exact hK _ _ (hG.other (by decide)) trivial rfl
          · refine OpRel.plain rfl fun n L x wx K hn hL hG hdep hK => ?_
            have h36 : x 36 = _ := (hdep 7 rfl).2 _ rfl
            obtain ⟨hw, hS⟩ := hG.at_a hL (by decide)
            subst hw
            clear hdep; simp only [h36] at hK; go_simp
            exact hK _ _ hS trivial rfl
          · refine OpRel.plain rfl fun n L x wx K hn hL hG hdep hK => ?_
            have h35 : x 35 = .slice a0 n0 c0 := (hdep 6 rfl).2 _ rfl
            have h37 : x 37 = .slice (some ⟨w2.heap.size, 0, none⟩) 1 1 := (hdep 8 rfl).2 _ rfl
            have l8 := (hdep 8 rfl).1; have l6 := (hdep 6 rfl).1
            obtain ⟨hw, hS⟩ := hG.at_b hL l8 l6 (by decide)
            subst hw
            clear hdep
            exact wp_append_run _ _ 28 rfl (.slice a0 n0 c0) (.slice (some ⟨w2.heap.size, 0, none⟩) 1 1) _ h35 h37 HR9.out (hK _ _ hS trivial rfl)
          · refine OpRel.plain rfl fun n L x wx K hn hL hG hdep hK => ?_
            have h29 : x 29 = .map (some bm) := (hdep 0 rfl).2 _ rfl
            have h31 : x 31 = .int .i64 y0 := (hdep 2 rfl).2 _ rfl
            have h38 : x 38 = .slice a9 (n0 + 1) c9 := (hdep 9 rfl).2 _ rfl
            have l9 := (hdep 9 rfl).1
            obtain ⟨hw, hS⟩ := hG.at_c hL l9 (by decide)
            subst hw
            clear hdep
            exact wp_mapUpdate_run _ _ _ 110 rfl (.map (some bm)) (.int .i64 y0) (.slice a9 (n0 + 1) c9) h29 h31 h38 HR10.out (hK _ _ hS trivial trivial)
        case hend =>
          intro n L x wx _ hG hh
          have hwe := hG.end (hh 10 (by decide)).1
          subst hwe
          clear hh hG
          go_wp2_with fail
          go_roundw
          case rel =>
            refine ⟨k + 1, _, _, _, by omega, Lib.hid rfl, by go_num, Lib.hid ?_, Lib.hid ?_, HM10, HK10, HB10⟩
            · rw [HHD.out]; exact HT10.out
            · have e : (bucket (ys.take (k + 1))) = fun j => if j = y0 then bucket (ys.take k) y0 ++ [(y0, y1, y2)] else bucket (ys.take k) j := HBU.out
              rw [e]; exact HF10.out
          case measure => simp [intOf]; omega
      · have HHD := Lib.hid (HHO1.out (by rw [HN0.out]; exact h0))
        have t0 : ((n0 : Int) == 0) = false := by simp; omega
        clear HHN1 HHO1 h0
        generalize hhh : headsT (ys.take k) = hh at *
        have HHH := Lib.hid hhh; clear hhh
        go_wp2_with fail
        have hw2 : lo ≤ (wr.alloc (.cells #[.int .i64 y0, .int .i64 y1, .int .i64 y2] 33)).heap.size := by omega
        generalize hw2e : wr.alloc (.cells #[.int .i64 y0, .int .i64 y1, .int .i64 y2] 33) = w2 at *
        rw [← hp] 
        clear hlk t0 hw2e hs1 hp
        have HT2 := HT1; have HF2 := HF1; have HM2 := HM1; have HB2 := HB1
        clear HT1 HF1 HM1 HB1
        have hsA : (w2.drew.alloc (.cells #[.int .i64 y0, .int .i64 y1, .int .i64 y2] 33)).heap.size = w2.heap.size + 1 := by simp
        have hal : Below w2.drew.heap.size w2.drew (w2.drew.alloc (.cells #[.int .i64 y0, .int .i64 y1, .int .i64 y2] 33)) := (Below.refl _ _).alloc (Nat.le_refl _) _
        have hfa := (Fam.drew HF2.out).keep hal
        have hta := ownsRow_keep (w := w2.drew) HT2.out hal
        have hma : (w2.drew.alloc (.cells #[.int .i64 y0, .int .i64 y1, .int .i64 y2] 33)).ownsMap Try.prog 3 RV bm k D := (World.ownsMap.drew HM2.out).alloc _
        have hba := HB2.out.drew.trans (hal.mono HB2.out.size)
        have hra := hfa.own y0
        rw [HBK.out, HN0.out] at hra
        obtain ⟨v9, w9, hr9, ho9, hg9, hn9, hb9⟩ := run_append_own_at (P := Try.prog) _ lo 28 28 33 i0 (.agg #[.int .i64 0, .int .i64 0, .int .i64 0]) 3 24 Try.underlying28 Hi.out Hz0.out Hz1.out Hz2.out rfl (by decide) _ n0 _ hra ⟨w2.heap.size, 0, none⟩ 1 1 (tris [(y0, y1, y2)]) rfl (cells_new3 w2.drew y0 y1 y2) (tris_one _) (by unfold maxLen; omega) (by omega) (by rw [hsA]; omega)
        rw [← tris_append] at ho9
        obtain ⟨a9, c9, rfl, -, -⟩ := (Rd.of_own ho9).form
        have hf9 := hfa.put y0 (v' := .slice a9 (n0 + 1) c9) (ys := bucket (ys.take k) y0 ++ [(y0, y1, y2)]) (by rw [List.length_append, HN0.out]; exact ho9) (by rw [HBK.out]; exact hg9) (by rw [HBK.out]; exact hb9)
        have ht9 := row_kept hta hg9 (fun g hg e => rows_ne hta hra (by decide) g hg e)
        have hm9 := hma.kept hg9 (fun e => by have := (hra.lt _ e.symm).1; omega)
        have hb9' := hba.grown hg9 hba.size (fun g hg => by have := (hra.lt _ hg).1; omega)
        have hp9 : w9.heap[p]? = some (.cells #[.int .i64 y0, .int .i64 y1, .int .i64 y2] 33 (0, 0)) := (hg9.block p (by rw [hsA]; have := box_lt BX.out; omega) (fun e => HPB.out (by rw [HBK.out]; exact e.symm))).trans (box_keep (w := w2.drew) BX.out hal)
        obtain ⟨w10, hr10, hm10, hg10⟩ := hm9.update intKeyedM Try.underlying110 (by unfold maxLen; omega) (key := .int .i64 y0) (val := .slice a9 (n0 + 1) c9) (keyOf_int_mk Try.underlying3 HW0.out) (show RV (.slice a9 (n0 + 1) c9) = some (.held (.slice a9 (n0 + 1) c9), []) from rfl)
        have HF10 := Lib.hid (hf9.kept hg10 (fun r hr => by cases hr; omega))
        have HT10 := Lib.hid (row_kept ht9 hg10 (fun g hg e => by have := (ht9.lt g hg).1; injection e with e; omega))
        have HM10 := Lib.hid hm10
        have HB10 := Lib.hid (hb9'.grown hg10 hb9'.size (fun g hg => by injection hg with hg; omega))
        have hp10 : w10.heap[p]? = some (.cells #[.int .i64 y0, .int .i64 y1, .int .i64 y2] 33 (0, 0)) := (hg10.block p (box_lt hp9) (fun e => by injection e with e; omega)).trans hp9
        have HCELL : Hid (∀ wx, (wx = w2.drew ∨ wx = w2.drew.alloc (.cells #[.int .i64 y0, .int .i64 y1, .int .i64 y2] 33) ∨ wx = w9 ∨ wx = w10) → wx.cell? ⟨p, 0, none⟩ = some (.int .i64 y0) ∧ wx.cell? ⟨p, 1, none⟩ = some (.int .i64 y1) ∧ wx.cell? ⟨p, 2, none⟩ = some (.int .i64 y2)) := Lib.hid fun wx h => by
          have hb : wx.heap[p]? = some (.cells #[.int .i64 y0, .int .i64 y1, .int .i64 y2] 33 (0, 0)) := by
            rcases h with rfl | rfl | rfl | rfl
            · exact BX.out
            · exact box_keep (w := w2.drew) BX.out hal
            · exact hp9
            · exact hp10
          exact ⟨box_cell hb 0 _ rfl, box_cell hb 1 _ rfl, box_cell hb 2 _ rfl⟩
        have HLK : Hid (∀ wx, (wx = w2.drew ∨ wx = w2.drew.alloc (.cells #[.int .i64 y0, .int .i64 y1, .int .i64 y2] 33)) → (Instr.lookup 110 (.map (some bm)) (.int .i64 y0) false).run Try.prog wx = .ok (.slice a0 n0 c0) wx) := Lib.hid fun wx h => by
          rw [← HBK.out]
          rcases h with rfl | rfl
          · exact look_eq (World.ownsMap.drew HM2.out) HK.out HW0.out
          · exact look_eq hma HK.out HW0.out
        have HR9 := Lib.hid hr9; have HR10 := Lib.hid hr10
        have HK10 := Lib.hid (HK.out.put y0 (.slice a9 (n0 + 1) c9))
        clear hr9 hr10 ho9 hg9 hn9 hb9 hf9 ht9 hm9 hb9' hp9 hm10 hg10 hp10 hfa hta hma hba hra hsA hal
        go_wp2_with fail
        refine wp_region_relA (fun x => { tmps := #[.slice (some ⟨b1, o1, none⟩) n ca, undef, .slice none 0 0, .map (some bm), tv, undef, .pointer (some ⟨p, 0, none⟩), undef, undef, undef, undef, .map (some bm), .slice (some ⟨b1, o1, none⟩) n ca, .int .i64 n, .int .i64 k, x 15, x 16, x 17, x 18, x 19, x 20, x 21, x 22, x 23, x 24, x 25, x 26, x 27, x 28, x 29, x 30, x 31, x 32, x 33, x 34, x 35, x 36, x 37, x 38, x 39, undef, undef, undef, undef, undef, undef, undef, undef, undef, undef, undef, undef, undef, undef, undef, undef, undef, undef, undef, undef, undef], defers := [] })
          (fun _ L wx => Stg 8 9 10 6 w2.drew (w2.drew.alloc (.cells #[.int .i64 y0, .int .i64 y1, .int .i64 y2] 33)) w9 w10 L wx) (fun _ _ _ => True)
          (Tl [cst (.map (some bm)), cst (.pointer (some ⟨p, 0, none⟩)), cst (.int .i64 y0), cst (.map (some bm)), cst (.pointer (some ⟨p, 0, none⟩)), cst (.int .i64 y0), cst (.slice a0 n0 c0), cst (.agg #[.int .i64 y0, .int .i64 y1, .int .i64 y2]), cst (.slice (some ⟨w2.heap.size, 0, none⟩) 1 1), cst (.slice a9 (n0 + 1) c9), tru]) rfl
          (by kernel_rfl) (by kernel_rfl) (by kernel_rfl) (stab_Tl ?hst) (fun _ _ => trivial) Stg.start ?hput ?hop ?hend
        case hst =>
          simp only [List.mem_cons, List.not_mem_nil, or_false, forall_eq_or_imp, forall_eq]
          refine ⟨?_, ?_, ?_, ?_, ?_, ?_, ?_, ?_, ?_, ?_, ?_⟩
          all_goals first | exact stab_cst _ _ | exact stab_tru _
        case hput =>
          refine ⟨?_, ?_, ?_, ?_, ?_, ?_, ?_, ?_, ?_, ?_, ?_, trivial⟩
          all_goals first | exact fun x v => rfl | exact trivial
        case hop =>
          refine ⟨?_, ?_, ?_, ?_, ?_, ?_, ?_, ?_, ?_, ?_, ?_, trivial⟩
          · refine OpRel.plain rfl fun n L x wx K hn hL hG hdep hK => ?_
            clear hdep; go_simp
            exact hK _ _ (hG.other (by decide)) trivial rfl
          · refine OpRel.plain rfl fun n L x wx K hn hL hG hdep hK => ?_
            clear hdep; go_simp
            exact hK _ _ (hG.other (by decide)) trivial rfl
          · refine OpRel.plain rfl fun n L x wx K hn hL hG hdep hK => ?_
            have h30 : x 30 = _ := (hdep 1 rfl).2 _ rfl
            obtain ⟨z0, z1, z2⟩ := HCELL.out wx hG.world
            clear hdep; simp only [h30] at hK; go_simp
            exact hK _ _ (hG.other (by decide)) trivial rfl
          · refine OpRel.plain rfl fun n L x wx K hn hL hG hdep hK => ?_
            clear hdep; go_simp
            exact hK _ _ (hG.other (by decide)) trivial rfl
          · refine OpRel.plain rfl fun n L x wx K hn hL hG hdep hK => ?_
            clear hdep; go_simp
            exact hK _ _ (hG.other (by decide)) trivial rfl
          · refine OpRel.plain rfl fun n L x wx K hn hL hG hdep hK => ?_
            have h33 : x 33 = _ := (hdep 4 rfl).2 _ rfl
            obtain ⟨z0, z1, z2⟩ := HCELL.out wx hG.world
            clear hdep; simp only [h33] at hK; go_simp
            exact hK _ _ (hG.other (by decide)) trivial rfl
          · refine OpRel.plain rfl fun n L x wx K hn hL hG hdep hK => ?_
            have h32 : x 32 = _ := (hdep 3 rfl).2 _ rfl
            have h34 : x 34 = _ := (hdep 5 rfl).2 _ rfl
            have hlk := HLK.out wx (hG.early hL)
            clear hdep; simp only [h32, h34] at hK; go_simp
            exact hK _ _ (hG.other (by decide)) trivial rfl
          · refine OpRel.plain rfl fun n L x wx K hn hL hG hdep hK => ?_
            obtain ⟨z0, z1, z2⟩ := HCELL.out wx hG.world
            clear hdep; go_simp
            exact hK _ _ (hG.other (by decide)) trivial rfl
          · refine OpRel.plain rfl fun n L x wx K hn hL hG hdep hK => ?_
            have h36 : x 36 = _ := (hdep 7 rfl).2 _ rfl
            obtain ⟨hw, hS⟩ := hG.at_a hL (by decide)
            subst hw
            clear hdep; simp only [h36] at hK; go_simp
            exact hK _ _ hS trivial rfl
          · refine OpRel.plain rfl fun n L x wx K hn hL hG hdep hK => ?_
            have h35 : x 35 = .slice a0 n0 c0 := (hdep 6 rfl).2 _ rfl
            have h37 : x 37 = .slice (some ⟨w2.heap.size, 0, none⟩) 1 1 := (hdep 8 rfl).2 _ rfl
            have l8 := (hdep 8 rfl).1; have l6 := (hdep 6 rfl).1
            obtain ⟨hw, hS⟩ := hG.at_b hL l8 l6 (by decide)
            subst hw
            clear hdep
            exact wp_append_run _ _ 28 rfl (.slice a0 n0 c0) (.slice (some ⟨w2.heap.size, 0, none⟩) 1 1) _ h35 h37 HR9.out (hK _ _ hS trivial rfl)
          · refine OpRel.plain rfl fun n L x wx K hn hL hG hdep hK => ?_
            have h29 : x 29 = .map (some bm) := (hdep 0 rfl).2 _ rfl
            have h31 : x 31 = .int .i64 y0 := (hdep 2 rfl).2 _ rfl
            have h38 : x 38 = .slice a9 (n0 + 1) c9 := (hdep 9 rfl).2 _ rfl
            have l9 := (hdep 9 rfl).1
            obtain ⟨hw, hS⟩ := hG.at_c hL l9 (by decide)
            subst hw
            clear hdep
            exact wp_mapUpdate_run _ _ _ 110 rfl (.map (some bm)) (.int .i64 y0) (.slice a9 (n0 + 1) c9) h29 h31 h38 HR10.out (hK _ _ hS trivial trivial)
        case hend =>
          intro n L x wx _ hG hh
          have hwe := hG.end (hh 10 (by decide)).1
          subst hwe
          clear hh hG
          go_wp2_with fail
          go_roundw
          case rel =>
            refine ⟨k + 1, _, _, _, by omega, Lib.hid rfl, by go_num, Lib.hid ?_, Lib.hid ?_, HM10, HK10, HB10⟩
            · rw [HHD.out]; exact HT10.out
            · have e : (bucket (ys.take (k + 1))) = fun j => if j = y0 then bucket (ys.take k) y0 ++ [(y0, y1, y2)] else bucket (ys.take k) j := HBU.out
              rw [e]; exact HF10.out
          case measure => simp [intOf]; omega
    · obtain rfl : k = n := by omega
      rw [HT.out] at HTT HF
      have hhl := HHL.out k
      rw [HT.out] at hhl
      have HS0 := Lib.hid (sortInts_any wr lo tv (headsT ys) HTT.out (by omega))
      have HPM := Lib.hid (sortI_perm (headsT ys)); have HSS := Lib.hid (sortI_sorted (headsT ys))
      have hSl := sortI_length (headsT ys)
      have HFB : Hid (∀ j, (flatB ys ((sortI (headsT ys)).take j)).length ≤ 2000) := Lib.hid fun j => Nat.le_trans (flatB_len HPM.out HSS.out j) (by rw [HN.out]; exact hs)
      have HFE : Hid (flatB ys (sortI (headsT ys)) = sortT ys) := Lib.hid (flatB_is HPM.out HSS.out)
      have HND : Hid (sortI (headsT ys)).Nodup := Lib.hid (HPM.out.nodup_iff.2 (headsT_nodup ys))
      have HSW : Hid (∀ x, x ∈ sortI (headsT ys) → (Lit.int .i64 x).wf = true) := Lib.hid fun x hx => HWS.out x (HPM.out.subset hx)
      have HBLY : Hid (∀ x, (bucket ys x).length ≤ 2000) := Lib.hid fun x => by have := HBL.out k x; rwa [HT.out] at this
      rw [← hSl] at hhl
      have hlw : lo ≤ wr.heap.size := by have := HM.out.lt; have := HLO.out; omega
      clear HBS HHN HHO HWF HWS HBL HHL HSS HPM htv
      have hlw0 : w.heap.size ≤ lo := by omega
      go_wp2_with fail
      refine HS0.out.mono ?_
      rintro e w2 ⟨rfl, ho, hg⟩
      rw [← hSl] at ho
      generalize sortI (headsT ys) = S at *
      have HT2 := Lib.hid ho
      have HF2 := Lib.hid (HF.out.rowKept HTT.out (by decide) hg)
      have HM2 := Lib.hid (HM.out.kept hg (fun e => by have := (HTT.out.lt _ e.symm).1; omega))
      have HB2 := Lib.hid (HB.out.grown hg HB.out.size (fun g hg => by have := (HTT.out.lt _ hg).1; omega))
      have hw2 : lo ≤ w2.heap.size := by have := hg.size; omega
      obtain ⟨aT, cT, rfl, hcT, hmT⟩ := (Rd.of_own HT2.out).form
      clear HTT HF HM HB ho hg HS0 hSl
      have hal : Below w2.heap.size w2 (w2.alloc (.cells A0 33)) := (Below.refl _ _).alloc (Nat.le_refl _) _
      have HT3 := Lib.hid (ownsRow_keep HT2.out hal)
      have HF3 := Lib.hid (HF2.out.keep hal)
      have HM3 := Lib.hid (HM2.out.alloc (.cells A0 33))
      have HB3 := Lib.hid (HB2.out.tr hal)
      have HFL : Hid (∀ i g, (bk i).ownBlock = some g → g < w2.heap.size) := Lib.hid fun i g h => (HF2.out.lt i g h).2
      have HTL : Hid (∀ g, (Value.slice aT S.length cT).ownBlock = some g → g < w2.heap.size) := Lib.hid fun g h => (HT2.out.lt g h).2
      have HO3 := Lib.hid (World.ownsRow_made (base := w2.heap.size) (e := 33) (size := 3) w2 A0 k (Nat.le_refl _) (by unfold maxLen; omega) HA0.out)
      have hmk := HMK.out w2
      clear hal HT2 HF2 HM2 HB2
      go_wp2_with fail
      clear hmk HMK HA0
      obtain ⟨gout, hgo⟩ : ∃ gout, gout = w2.heap.size := ⟨_, rfl⟩
      rw [← hgo] at HFL HTL HO3 hw2 ⊢
      have hgz : gout ≤ (w2.alloc (.cells A0 33)).heap.size := by simp; omega
      generalize hw3 : w2.alloc (.cells A0 33) = w3 at *
      clear hw3 hgo
      obtain ⟨m, hm⟩ : ∃ m, m = S.length := ⟨_, rfl⟩
      rw [← hm] at HT3 HTL hcT hhl ⊢
      have HMS := Lib.hid hm; clear hm
      go_loopw [7, 47] (fun ow i wv => ∃ (j : Nat) (cs : Int → List Tri) (ov : Value), j ≤ m ∧ Hid (ov = ow) ∧ i = .int .i64 j ∧ Hid (wv.ownsRow gout 33 3 ov (flatB ys (S.take j)).length (tris (flatB ys (S.take j)))) ∧ Hid (Fam lo wv 33 bk cs) ∧ Hid (∀ x, x ∉ S.take j → cs x = bucket ys x) ∧ Hid (wv.ownsMap Try.prog 3 RV bm k D) ∧ Hid (wv.ownsRow lo 3 1 (.slice aT m cT) m (ints S)) ∧ Hid (Below w.heap.size w wv) ∧ gout ≤ wv.heap.size) (fun _ i _ => m - (intOf i).toNat)
      case atStart => exact ⟨0, bucket ys, _, Nat.zero_le _, Lib.hid rfl, rfl, HO3, HF3, Lib.hid fun x _ => rfl, HM3, HT3, HB3, hgz⟩
      case round =>
        clear HO3 HF3 HM3 HT3 HB3 hgz
        obtain ⟨j, cs, ov, hj, hov, rfl, HO, HF, HCS, HM, HTT, HB, hgz⟩ := hrel
        obtain rfl := hov.out
        by_cases hlt : j < m
        · have hrd := Rd.of_own HTT.out
          rw [HMS.out] at hrd
          obtain ⟨a2, c2, e2, -, -, H2⟩ := hrd.int
          obtain ⟨b2, o2, hb2, hbl2, hc2⟩ := H2.out j (by rw [← HMS.out]; exact hlt)
          injection e2 with e2 e3 e4
          rw [hb2] at e2
          subst e2
          clear hrd H2 e3 e4 hb2
          have htm : S.getD j 0 ∈ S := by
            have hj' : j < S.length := by rw [← HMS.out]; exact hlt
            rw [List.getD_eq_getElem?_getD, List.getElem?_eq_getElem hj', Option.getD_some]; exact List.getElem_mem hj'
          have HTK : Hid (S.take (j + 1) = S.take j ++ [S.getD j 0]) := Lib.hid (by
            have hj' : j < S.length := by rw [← HMS.out]; exact hlt
            rw [List.take_succ_eq_append_getElem hj', List.getD_eq_getElem?_getD, List.getElem?_eq_getElem hj', Option.getD_some])
          have hni : S.getD j 0 ∉ S.take j := by
            have hn2 : (S.take (j + 1)).Nodup := HND.out.sublist (List.take_sublist _ _)
            rw [HTK.out] at hn2
            intro hmem
            exact (List.nodup_append.1 hn2).2.2 _ hmem _ (List.mem_singleton.2 rfl) rfl
          have HW0 := Lib.hid (HSW.out _ htm)
          have HC0 := Lib.hid (HCS.out _ hni)
          clear htm hni
          generalize S.getD j 0 = t at *
          have hbl0 := HBLY.out t
          obtain ⟨a0, c0, hbk, -, -, -⟩ := HF.out.form t
          have hrow := HF.out.own t
          rw [HC0.out] at hbk hrow
          have HROW := Lib.hid hrow
          have HS1 := Lib.hid (sortMsgs_any wr lo (bk t) (bucket ys t) hrow (by omega))
          have hlk := look_eq HM.out HK.out HW0.out
          rw [hbk] at hlk HS1
          have HBK := Lib.hid hbk
          have HBN : Hid ((sortT (bucket ys t)).length = (bucket ys t).length) := Lib.hid (sortT_length _)
          clear hrow hbk
          generalize hn0 : (bucket ys t).length = n0 at *
          have HN0 := Lib.hid hn0; clear hn0
          go_wp2_with fail
          refine HS1.out.mono ?_
          rintro e w5 ⟨rfl, ho, hg⟩
          rw [← HBK.out] at ho hg
          have HR5 := Lib.hid (Rd.of_own ho)
          rw [HBK.out] at HR5
          have ho' : w5.ownsRow lo 33 3 (bk t) (sortT (bucket ys t)).length (tris (sortT (bucket ys t))) := by rw [HBN.out]; exact ho
          have HF5 := Lib.hid (HF.out.upd t ho' hg)
          have HT5 := Lib.hid (row_kept HTT.out hg (fun g hg e => rows_ne HTT.out HROW.out (by decide) g hg e))
          have HM5 := Lib.hid (HM.out.kept hg (fun e => by have := (HROW.out.lt _ e.symm).1; omega))
          have HB5 := Lib.hid (HB.out.grown hg HB.out.size (fun g hg => by have := (HROW.out.lt _ hg).1; omega))
          have HO5 := Lib.hid (row_kept HO.out hg (fun g hg e => by have := (HO.out.lt _ hg).1; have := HFL.out t g e; omega))
          have hg5 : gout ≤ w5.heap.size := by have := hg.size; omega
          clear HF HTT HM HB HO ho ho' hg HS1 hlk HROW
          have hfb := HFB.out j
          go_wp2_with (at_builtin; refine wpList_pushAllB rfl _ _ 28 33 rfl (.agg #[.int .i64 0, .int .i64 0, .int .i64 0]) 3 24 Try.underlying28 infoMessage rfl (by decide) (by decide) gout _ _ _ HO5.out rfl _ n0 (tris (sortT (bucket ys t))) HR5.out rfl (tris_one _) (by omega) (by omega) (by omega) ?_; intro v' w6 hown hbel hnil)
          have HF6 := Lib.hid (HF5.out.below hbel HFL.out)
          have HT6 := Lib.hid (row_below HT5.out hbel HTL.out)
          have HM6 := Lib.hid (ownsMap_below HM5.out hbel (by omega))
          have HB6 := Lib.hid (HB5.out.trans (hbel.mono (by omega)))
          have hg6 : gout ≤ w6.heap.size := by have := hbel.size; omega
          have HO6 : Hid (w6.ownsRow gout 33 3 v' (flatB ys (S.take (j + 1))).length (tris (flatB ys (S.take (j + 1))))) := Lib.hid (by
            rw [HTK.out, flatB_snoc, List.length_append, HBN.out, tris_append]; exact hown)
          clear HF5 HT5 HM5 HB5 HO5 HR5 hown hbel hnil
          go_wp2_with fail
          go_roundw
          case rel =>
            exact ⟨j + 1, _, _, by omega, Lib.hid rfl, by go_num, HO6, HF6, Lib.hid (fun x hx => by
              rw [HTK.out, List.mem_append, List.mem_singleton] at hx
              have h1 : x ≠ t := fun e => hx (.inr e)
              have h2 : x ∉ S.take j := fun e => hx (.inl e)
              simp only [if_neg h1]
              exact HCS.out x h2), HM6, HT6, HB6, hg6⟩
          case measure => simp [intOf]; omega
        · obtain rfl : j = m := by omega
          have h9 := HO.out
          rw [HMS.out, List.take_length, HFE.out] at h9
          have HO9 := Lib.hid ((Ow.of_row h9).mono (show w.heap.size ≤ gout by omega) (Nat.le_refl _))
          clear h9 HO
          go_wp2_with fail
          go_ret
          exact ⟨_, rfl, HO9.out, HB.out⟩

set_option maxRecDepth 100000 in
set_option maxHeartbeats 2000000 in
theorem implSortMessages_any (w : World) (va : Value) (ys : List Tri) (ha : Rd w 3 va ys.length (tris ys)) (hwf : WfTriS ys) : Calls Try.prog 17 #[va] w (RetMessageS w (sortMsgs ys)) := by
  have HR := Lib.hid ha
  obtain ⟨a, ca, rfl, hca, hma⟩ := ha.form
  clear ha
  by_cases hs : ys.length ≤ 2000
  · have HC := Lib.hid (inOrder_any w _ ys HR.out hwf hs)
    rw [sortMsgs, if_pos hs]
    clear HR hwf
    generalize ys.length = n at *
    have hs' : decide ((n : Int) > 2000) = false := by simp; omega
    go_enter Try.func17, Try.ntmps17
    go_wp2_with fail
    refine HC.out.mono ?_
    rintro e w' ⟨v, rfl, ho, hb⟩
    have HO := Lib.hid ho; have HB := Lib.hid hb
    clear ho hb HC
    go_wp2_with fail
    go_ret
    exact ⟨_, rfl, HO.out, HB.out⟩
  · rw [sortMsgs, if_neg hs]
    clear HR hwf
    generalize ys.length = n at *
    have hs' : decide ((n : Int) > 2000) = true := by simp; omega
    go_enter Try.func17, Try.ntmps17
    go_wp2_with fail
    go_ret
    exact ⟨_, rfl, Ow.nil _ _ _ _ _ _, Below.refl _ _⟩
end Go.Proofs.Ytgdggkhdollieaa
