/-
  The bytes of a graph: the program's function and the reference's.
-/
import Derived.Test.YtoolmknnmmecfaaGraphV
import Derived.Test.YtoolmknnmmecfaaJoin
import Derived.Test.YtoolmknnmmecfaaEdgeJ
namespace Go.Proofs.Ytoolmknnmmecfaa
open Go.RowKit
set_option linter.unusedVariables false

def edgeB (y : Tri) : List Int := edgeBody y.1 y.2.1 y.2.2
/-- The records of a number and of the first k edges. -/
def bodiesTo (g : GraphD) (k : Nat) : List (List Int) := encode g.1 :: (g.2.take k).map edgeB
def graphBytes (g : GraphD) : List Int := if graphOk g = true then joinB (bodiesTo g g.2.length) else []
theorem graphBytes_length (g : GraphD) : (graphBytes g).length ≤ 2000 := by
  unfold graphBytes; split
  · exact joinB_length _
  · simp
theorem bodiesTo_succ (g : GraphD) (k : Nat) (hk : k < g.2.length) : bodiesTo g (k + 1) = bodiesTo g k ++ [edgeBody (g.2.getD k triZ).1 (g.2.getD k triZ).2.1 (g.2.getD k triZ).2.2] := by
  unfold bodiesTo
  rw [triTake_snoc g.2 k hk, List.map_append, List.cons_append]; rfl
theorem bodiesTo_length (g : GraphD) (k : Nat) (hk : k ≤ g.2.length) : (bodiesTo g k).length = k + 1 := by
  simp [bodiesTo]; omega
theorem bodiesTo_each (g : GraphD) (k : Nat) : ∀ i, i < (bodiesTo g k).length → ((bodiesTo g k).getD i []).length ≤ 1099511627776 := fun i hi => by
  cases i with
  | zero =>
    have := encode_length g.1
    simp only [bodiesTo, List.getD_cons_zero]; omega
  | succ i =>
    have h : i < (g.2.take k).length := by simpa [bodiesTo] using hi
    have e : (bodiesTo g k).getD (i + 1) [] = edgeB (g.2.take k)[i] := by
      unfold bodiesTo
      rw [List.getD_cons_succ, ← List.getElem_eq_getD (h := by simpa using h) [], List.getElem_map]
    rw [e]
    have := edgeBody_length (g.2.take k)[i].1 (g.2.take k)[i].2.1 (g.2.take k)[i].2.2
    unfold edgeB; omega
/-- One list, laid into a list of lists of its own. -/
theorem OwIntSS.one {lo S : Nat} {w : World} {u : Value} {xs : List Int} (h : OwIntS S w.heap.size w u xs) (hl : lo ≤ S) (hS : S ≤ w.heap.size) :
    OwIntSS lo (w.heap.size + 1) (w.alloc (.cells #[u] 43)) (.slice (some ⟨w.heap.size, 0, none⟩) 1 1) [xs] := by
  refine .inr ⟨w.heap.size, 1, [u], fun _ => S, fun _ => w.heap.size, rfl, by omega, by omega, ownsRow_lit (size := 1) w #[u] 1 (Nat.le_refl _) (by decide) rfl, fun i hi => ?_, fun i j hij hj => ?_⟩
  · obtain rfl : i = 0 := by simpa using hi
    exact ⟨⟨hl, hS, by omega, .inr (Nat.le_refl _)⟩, u, rfl, h.keep ((Below.refl _ _).alloc (Nat.le_refl _) _)⟩
  · simp at hj; omega
theorem wpList_pushRowL {P : Program} {w : World} {ops : Array Oper} {rest : List Oper} {o : Oper} {a : Act} {Q : Exit → Act → World → Prop} (hw : Region.wanted o (yielded ops a.tmps) = true) (s x : Operand) (t : TypeId)
    (ho : o.op = .call { callee := .builtin .append, args := #[s, x], argTypes := #[t, t] })
    (ht : P.underlying t = some (.slice 43)) (hinfo : (P.info? 43).map (fun i => (i.zero, i.size, i.bytes)) = some (some (.slice none 0 0), 1, 24))
    (lo S : Nat) (v u : Value) (xss : List (List Int)) (xs : List Int) (hown : OwIntSS lo S w v xss) (hu : OwIntS S w.heap.size w u xs) (hu1 : u.oneCell' = true) (hs : a.eval s = v) (hx : a.eval x = .slice (some ⟨w.heap.size, 0, none⟩) 1 1)
    (hn : xss.length ≤ 1099511627776) (hlo : lo ≤ S) (hS : S ≤ w.heap.size)
    (h : ∀ v' w', OwIntSS lo w'.heap.size w' v' (xss ++ [xs]) → Below lo w w' → (∃ a c, v' = .slice a (xss.length + 1) c) → wpList P ops Q rest (a.put o.dst v') w') : wpList P ops Q (o :: rest) a (w.alloc (.cells #[u] 43)) := by
  refine wpList_step fun K hK => ?_
  rw [if_pos hw]
  exact wp_pushRow s x t ho ht hinfo lo S v u xss xs hown hu hu1 hs hx hn hlo hS fun v' w' h1 h2 h3 => hK _ _ (h v' w' h1 h2 h3)

set_option maxRecDepth 100000 in
set_option maxHeartbeats 8000000 in
theorem specGraphBytes_any (w : World) (va : Value) (g : GraphD) (h : RdGraph w va g) : Calls Try.prog 27 #[va] w (RetI w (graphBytes g)) := by
  have HRG := Lib.hid h
  obtain ⟨p, c, rfl, hr, hc, hmx⟩ := h.form
  clear h
  have HBS := Lib.hid (bodiesTo_succ g); have HBL := Lib.hid (bodiesTo_length g); have HBE := Lib.hid (bodiesTo_each g)
  obtain ⟨m, ys⟩ := g
  simp only at hr hc HBS HBL ⊢
  have HR : Hid (Rd w 3 (.slice p ys.length c) ys.length (tris ys)) := Lib.hid hr
  clear hr
  have HB : Hid (Below w.heap.size w (w.alloc (.cells #[.int .i64 m, .slice p ys.length c] 29))) := Lib.hid (by go_grown)
  have X := Lib.hid (heap_alloc_new w (.cells #[.int .i64 m, .slice p ys.length c] 29))
  have HV := Lib.hid fun wx (hb : Below w.heap.size w wx) => specGraphValid_any wx _ _ (HRG.out.keep hb)
  unfold graphBytes
  simp only
  cases hok : graphOk (m, ys)
  · rw [hok] at HV
    simp only [Bool.false_eq_true, if_false]
    go_enter Try.func27, Try.ntmps27
    go_wp2_with fail
    refine (HV.out _ HB.out).mono ?_
    rintro e w1 ⟨rfl, hb⟩
    replace HB := Lib.hid (HB.out.tr hb); clear hb
    go_wp2_with fail
    go_ret
    exact ⟨_, rfl, Ow.nil _ _ _ _ _ _, HB.out.alloc HB.out.size _⟩
  · rw [hok] at HV
    have hl40 := (graphOk_yes hok).2.1
    simp only at hl40
    simp only [if_true]
    generalize hl : ys.length = l at *
    have HL := Lib.hid hl; clear hl hok
    go_enter Try.func27, Try.ntmps27
    go_wp2_with fail
    refine (HV.out _ HB.out).mono ?_
    rintro e w1 ⟨rfl, hb⟩
    replace HB := Lib.hid (HB.out.tr hb); replace X := Lib.hid (box_keep X.out hb); clear hb HV
    have k0 := box_cell X.out 0 _ rfl; have k1 := box_cell X.out 1 _ rfl
    have hw1 := box_lt X.out
    go_wp2_with fail
    refine (specEncodeNumber_any _ m).mono ?_
    rintro e w2 ⟨s, rfl, hs, hb⟩
    obtain ⟨a2, c2, rfl, -, -⟩ := Rd.form hs.rd
    have hs2 := hb.size
    have HO : Hid (OwIntSS w1.heap.size (w2.heap.size + 1) (w2.alloc (.cells #[.slice a2 (encode m).length c2] 43)) (.slice (some ⟨w2.heap.size, 0, none⟩) 1 1) (bodiesTo (m, ys) 0)) := Lib.hid (OwIntSS.one hs (Nat.le_refl _) hb.size)
    have hb2 : Below w1.heap.size w1 (w2.alloc (.cells #[.slice a2 (encode m).length c2] 43)) := hb.alloc hb.size _
    have hs3 : (w2.alloc (.cells #[.slice a2 (encode m).length c2] 43)).heap.size = w2.heap.size + 1 := by simp
    replace HB := Lib.hid (HB.out.tr hb2); replace X := Lib.hid (box_keep X.out hb2); clear hb hb2 hs k0 k1
    go_wp2_with fail
    generalize (w2.alloc (.cells #[.slice a2 (encode m).length c2] 43)) = w3 at *
    rw [← hs3] at HO
    go_loopw [3, 4] (fun r i wr => ∃ (t : Nat) (ar : Option Addr) (cr : Nat), t ≤ l ∧ i = .int .i64 t ∧ r = .slice ar (t + 1) cr ∧ Hid (OwIntSS w1.heap.size wr.heap.size wr r (bodiesTo (m, ys) t)) ∧ Hid (Below w.heap.size w wr) ∧ Hid (wr.heap[w.heap.size]? = some (.cells #[.int .i64 m, .slice p l c] 29 (0, 0))) ∧ w1.heap.size ≤ wr.heap.size) (fun _ i _ => l - (intOf i).toNat)
    case atStart => exact ⟨0, _, _, Nat.zero_le _, rfl, rfl, HO, HB, X, by omega⟩
    case round =>
      clear HB X HO
      obtain ⟨t, ar, cr, ht, rfl, rfl, HO, HB, X, hwr⟩ := hrel
      have k0 := box_cell X.out 0 _ rfl; have k1 := box_cell X.out 1 _ rfl
      have hbl := HBL.out t ht
      by_cases hlt : t < l
      · obtain ⟨b1, o1, rfl, hb1, d0, d1, d2⟩ := (HR.out.keep HB.out).tri hlt
        have HS := Lib.hid (HBS.out t hlt)
        generalize (ys.getD t triZ).1 = ta at *
        generalize (ys.getD t triZ).2.1 = tb at *
        generalize (ys.getD t triZ).2.2 = tc at *
        generalize bodiesTo (m, ys) t = B at *
        go_wp2_with fail
        refine (specEdgeBody_any _ ta tb tc).mono ?_
        rintro e w4 ⟨s, rfl, hs, hb⟩
        obtain ⟨a4, c4, rfl, -, -⟩ := Rd.form hs.rd
        have HE := Lib.hid hs
        have hb4 := hb.size
        replace HB := Lib.hid (HB.out.tr hb); replace X := Lib.hid (box_keep X.out hb); replace HO := Lib.hid (HO.out.keep hb); clear hb hs k0 k1 d0 d1 d2
        go_wp2_with (at_builtin; refine wpList_pushRowL rfl _ _ 70 rfl Try.underlying70 infoRow w1.heap.size wr.heap.size _ (.slice a4 (edgeBody ta tb tc).length c4) B (edgeBody ta tb tc) HO.out HE.out rfl rfl rfl (by omega) hwr hb4 ?_; intro v' w9 hown1 hbel1 hf1)
        obtain ⟨a9, c9, rfl⟩ := hf1
        have hb9 := hbel1.size
        go_roundw
        case rel =>
          refine ⟨t + 1, a9, c9, by omega, by go_num, by rw [hbl], by rw [HS.out]; exact Lib.hid hown1, Lib.hid (HB.out.trans (hbel1.mono (by omega))), Lib.hid ((hbel1.block _ (by omega)).trans X.out), by omega⟩
        case measure => simp [intOf]; omega
      · obtain rfl : t = l := by omega
        have CJ := Lib.hid (specJoinFrames_any wr _ (bodiesTo (m, ys) t) HO.out.rd (HBE.out t))
        clear HO HBE HBS HBL
        go_wp2_with fail
        refine CJ.out.mono ?_
        rintro e w5 ⟨s, rfl, hs, hb⟩
        have HE := Lib.hid (hs.mono (show w.heap.size ≤ wr.heap.size from HB.out.size) (Nat.le_refl _))
        replace HB := Lib.hid (HB.out.tr hb); clear hb hs
        go_wp2_with fail
        go_ret
        exact ⟨_, rfl, HE.out, HB.out⟩
set_option maxRecDepth 100000 in
set_option maxHeartbeats 8000000 in
theorem implGraphBytes_any (w : World) (va : Value) (g : GraphD) (h : RdGraph w va g) : Calls Try.prog 28 #[va] w (RetI w (graphBytes g)) := by
  have HRG := Lib.hid h
  obtain ⟨p, c, rfl, hr, hc, hmx⟩ := h.form
  clear h
  have HBS := Lib.hid (bodiesTo_succ g); have HBL := Lib.hid (bodiesTo_length g); have HBE := Lib.hid (bodiesTo_each g)
  obtain ⟨m, ys⟩ := g
  simp only at hr hc HBS HBL ⊢
  have HR : Hid (Rd w 3 (.slice p ys.length c) ys.length (tris ys)) := Lib.hid hr
  clear hr
  have HB : Hid (Below w.heap.size w (w.alloc (.cells #[.int .i64 m, .slice p ys.length c] 29))) := Lib.hid (by go_grown)
  have X := Lib.hid (heap_alloc_new w (.cells #[.int .i64 m, .slice p ys.length c] 29))
  have HV := Lib.hid fun wx (hb : Below w.heap.size w wx) => implGraphValid_any wx _ _ (HRG.out.keep hb)
  unfold graphBytes
  simp only
  cases hok : graphOk (m, ys)
  · rw [hok] at HV
    simp only [Bool.false_eq_true, if_false]
    go_enter Try.func28, Try.ntmps28
    go_wp2_with fail
    refine (HV.out _ HB.out).mono ?_
    rintro e w1 ⟨rfl, hb⟩
    replace HB := Lib.hid (HB.out.tr hb); clear hb
    go_wp2_with fail
    go_ret
    exact ⟨_, rfl, Ow.nil _ _ _ _ _ _, HB.out⟩
  · rw [hok] at HV
    have hl40 := (graphOk_yes hok).2.1
    simp only at hl40
    simp only [if_true]
    generalize hl : ys.length = l at *
    have HL := Lib.hid hl; clear hl hok
    go_enter Try.func28, Try.ntmps28
    go_wp2_with fail
    refine (HV.out _ HB.out).mono ?_
    rintro e w1 ⟨rfl, hb⟩
    replace HB := Lib.hid (HB.out.tr hb); replace X := Lib.hid (box_keep X.out hb); clear hb HV
    have k0 := box_cell X.out 0 _ rfl; have k1 := box_cell X.out 1 _ rfl
    have hw1 := box_lt X.out
    go_wp2_with fail
    refine (implEncodeNumber_any _ m).mono ?_
    rintro e w2 ⟨s, rfl, hs, hb⟩
    obtain ⟨a2, c2, rfl, -, -⟩ := Rd.form hs.rd
    have hs2 := hb.size
    have HO : Hid (OwIntSS w1.heap.size (w2.heap.size + 1) (w2.alloc (.cells #[.slice a2 (encode m).length c2] 43)) (.slice (some ⟨w2.heap.size, 0, none⟩) 1 1) (bodiesTo (m, ys) 0)) := Lib.hid (OwIntSS.one hs (Nat.le_refl _) hb.size)
    have hb2 : Below w1.heap.size w1 (w2.alloc (.cells #[.slice a2 (encode m).length c2] 43)) := hb.alloc hb.size _
    have hs3 : (w2.alloc (.cells #[.slice a2 (encode m).length c2] 43)).heap.size = w2.heap.size + 1 := by simp
    replace HB := Lib.hid (HB.out.tr hb2); replace X := Lib.hid (box_keep X.out hb2); clear hb hb2 hs k0 k1
    have k0 := box_cell X.out 0 _ rfl; have k1 := box_cell X.out 1 _ rfl
    go_wp2_with fail
    clear k0 k1
    generalize (w2.alloc (.cells #[.slice a2 (encode m).length c2] 43)) = w3 at *
    rw [← hs3] at HO
    go_loopw [3, 18] (fun r i wr => ∃ (t : Nat) (ar : Option Addr) (cr : Nat), t ≤ l ∧ i = .int .i64 t ∧ r = .slice ar (t + 1) cr ∧ Hid (OwIntSS w1.heap.size wr.heap.size wr r (bodiesTo (m, ys) t)) ∧ Hid (Below w.heap.size w wr) ∧ Hid (wr.heap[w.heap.size]? = some (.cells #[.int .i64 m, .slice p l c] 29 (0, 0))) ∧ w1.heap.size ≤ wr.heap.size) (fun _ i _ => l - (intOf i).toNat)
    case atStart => exact ⟨0, _, _, Nat.zero_le _, rfl, rfl, HO, HB, X, by omega⟩
    case round =>
      clear HB X HO
      obtain ⟨t, ar, cr, ht, rfl, rfl, HO, HB, X, hwr⟩ := hrel
      have k0 := box_cell X.out 0 _ rfl; have k1 := box_cell X.out 1 _ rfl
      have hbl := HBL.out t ht
      by_cases hlt : t < l
      · obtain ⟨b1, o1, rfl, hb1, d0, d1, d2⟩ := (HR.out.keep HB.out).tri hlt
        have HS := Lib.hid (HBS.out t hlt)
        generalize (ys.getD t triZ).1 = ta at *
        generalize (ys.getD t triZ).2.1 = tb at *
        generalize (ys.getD t triZ).2.2 = tc at *
        generalize bodiesTo (m, ys) t = B at *
        have hba : Below wr.heap.size wr (wr.alloc (.cells #[.int .i64 ta, .int .i64 tb, .int .i64 tc] 38)) := (Below.refl _ _).alloc (Nat.le_refl _) _
        go_wp2_with fail
        replace HB := Lib.hid (HB.out.tr hba); replace X := Lib.hid (box_keep X.out hba); replace HO := Lib.hid (HO.out.keep hba)
        have hsa : (wr.alloc (.cells #[.int .i64 ta, .int .i64 tb, .int .i64 tc] 38)).heap.size = wr.heap.size + 1 := by simp
        have HO' := Lib.hid (HO.out.mono (Nat.le_refl _) (show wr.heap.size ≤ wr.heap.size + 1 by omega))
        rw [← hsa] at HO'
        clear HO hba
        generalize (wr.alloc (.cells #[.int .i64 ta, .int .i64 tb, .int .i64 tc] 38)) = wq at *
        have HO := HO'
        refine (implEdgeBody_any _ ta tb tc).mono ?_
        rintro e w4 ⟨s, rfl, hs, hb⟩
        obtain ⟨a4, c4, rfl, -, -⟩ := Rd.form hs.rd
        have HE := Lib.hid hs
        have hb4 := hb.size
        replace HB := Lib.hid (HB.out.tr hb); replace X := Lib.hid (box_keep X.out hb); replace HO := Lib.hid (HO.out.keep hb); clear hb hs k0 k1 d0 d1 d2
        go_wp2_with (at_builtin; refine wpList_pushRowL rfl _ _ 70 rfl Try.underlying70 infoRow w1.heap.size wq.heap.size _ (.slice a4 (edgeBody ta tb tc).length c4) B (edgeBody ta tb tc) HO.out HE.out rfl rfl rfl (by omega) (by omega) hb4 ?_; intro v' w9 hown1 hbel1 hf1)
        obtain ⟨a9, c9, rfl⟩ := hf1
        have hb9 := hbel1.size
        go_roundw
        case rel =>
          refine ⟨t + 1, a9, c9, by omega, by go_num, by rw [hbl], by rw [HS.out]; exact Lib.hid hown1, Lib.hid (HB.out.trans (hbel1.mono (by omega))), Lib.hid ((hbel1.block _ (by omega)).trans X.out), by omega⟩
        case measure => simp [intOf]; omega
      · obtain rfl : t = l := by omega
        have CJ := Lib.hid (implJoinFrames_any wr _ (bodiesTo (m, ys) t) HO.out.rd (HBE.out t))
        clear HO HBE HBS HBL
        go_wp2_with fail
        refine CJ.out.mono ?_
        rintro e w5 ⟨s, rfl, hs, hb⟩
        have HE := Lib.hid (hs.mono (show w.heap.size ≤ wr.heap.size from HB.out.size) (Nat.le_refl _))
        replace HB := Lib.hid (HB.out.tr hb); clear hb hs
        go_wp2_with fail
        go_ret
        exact ⟨_, rfl, HE.out, HB.out⟩
end Go.Proofs.Ytoolmknnmmecfaa
