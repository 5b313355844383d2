/-
  Sets of vertices as the bits of a number: the program's functions: a vertex's set, how many are in a set, the sets of neighbours.
-/
import Derived.Test.YtgdggkhdollieaaDoorGraphV
import Derived.Test.YtgdggkhdollieaaDoorMask
import Derived.Test.YtgdggkhdollieaaDoorRel
import Derived.Test.YtgdggkhdollieaaDoorInts
namespace Go.Proofs.YtgdggkhdollieaaDoor
open Go.RowKit
set_option linter.unusedVariables false

theorem cnt8_le (b : Nat) : cnt8 b ≤ 8 := by unfold cnt8; exact Nat.le_trans (List.length_filter_le _ _) (by simp)
/-- Looking up how many numbers a set has. -/
theorem wp_index_pop {P : Program} {o : Oper} {a : Act} {w : World} {K : Act → World → Prop} {Q : Exit → Act → World → Prop} (t : TypeId) (s i : Operand) (ho : o.op = .index t s i) (b : ByteArray) (hu : P.underlying t = some .string)
    (hs : a.eval s = .string b) (j : Nat) (hi : a.eval i = .int .u32 (j : Int)) (hb : b.data.toList.map UInt8.toNat = pop8) (hj : j < 256) (h : K (a.put o.dst (.int .u8 (cnt8 j : Nat))) w) : o.wp P a w K Q := by
  have hl : b.size = 256 := by
    have := congrArg List.length hb
    simpa [pop8] using this
  have hv : (b[j]'(by omega)).toNat = cnt8 j := by
    have h1 := congrArg (fun l => l[j]?) hb
    simp only [List.getElem?_map, pop8] at h1
    have h2 : b.data.toList[j]? = some (b[j]'(by omega)) := by
      rw [Array.getElem?_toList]
      exact Array.getElem?_eq_getElem _
    rw [h2] at h1
    simpa [hj] using h1
  unfold Oper.wp
  simp only [execOp, ho, hs, hi]
  have hr := run_index_string (P := P) w t b .u32 (j : Int) hu
  rw [dif_pos ⟨by omega, by omega⟩] at hr
  simp only [Int.toNat_natCast, hv] at hr
  simp [hr, Result.andThen]
  exact h

theorem maskOf_any (v : Nat) (hv : v < 32) (w : World) : Calls Tryd.prog 32 #[.int .i64 v] w fun e w' => e = .returned (.int .u32 ((2 ^ v : Nat) : Int)) ∧ w = w' := by
  go_enter Tryd.func32, Tryd.ntmps32
  go_wp2_with fail
  have h : (2 ^ v : Int) % 4294967296 = ((2 ^ v : Nat) : Int) := by
    have h1 : 2 ^ v < 2 ^ 32 := Nat.pow_lt_pow_right (by decide) hv
    rw [show ((2 : Int) ^ v) = ((2 ^ v : Nat) : Int) from by simp]
    rw [show ((4294967296 : Int)) = ((4294967296 : Nat) : Int) from rfl, ← Int.natCast_emod, Nat.mod_eq_of_lt h1]
  rw [h]
  go_ret
  exact ⟨rfl, rfl⟩

/-- A list of sets, as cells. -/
def mks (M : List Nat) : List Value := M.map fun (m : Nat) => Value.int .u32 (m : Int)
theorem mks_length (M : List Nat) : (mks M).length = M.length := by simp [mks]
theorem mks_get (M : List Nat) (i : Nat) (h : i < M.length) : (mks M)[i]? = some (.int .u32 (M.getD i 0 : Nat)) := by simp [mks, h]
theorem mks_set (M : List Nat) (i : Nat) (x : Nat) : (mks M).set i (.int .u32 (x : Int)) = mks (M.set i x) := by simp [mks, List.map_set]
/-- The v-th of n sets has the numbers for which f v holds. -/
def MaskOK (f : Nat → Nat → Bool) (n : Nat) (M : List Nat) : Prop := M.length = n ∧ ∀ v, v < n → M.getD v 0 < 65536 ∧ ∀ w, (M.getD v 0).testBit w = f v w
theorem MaskOK.zero (n : Nat) : MaskOK (fun _ _ => false) n (List.replicate n 0) := ⟨by simp, fun v hv => by simp [hv]⟩
theorem MaskOK.add {f f' : Nat → Nat → Bool} {n a b : Nat} {M : List Nat} (h : MaskOK f n M) (ha : a < n) (hb : b < 16) (hf : ∀ v w, f' v w = (f v w || (decide (v = a) && decide (w = b)))) : MaskOK f' n (M.set a (M.getD a 0 ||| 2 ^ b)) := by
  obtain ⟨h1, h2⟩ := h
  refine ⟨by simp [h1], fun v hv => ?_⟩
  obtain ⟨l, t⟩ := h2 v hv
  by_cases hva : v = a
  · subst hva
    have e : (M.set v (M.getD v 0 ||| 2 ^ b)).getD v 0 = M.getD v 0 ||| 2 ^ b := by simp [h1, hv]
    rw [e]
    refine ⟨or_lt16 l (two_pow_lt16 hb), fun w => ?_⟩
    rw [Nat.testBit_or, t, Nat.testBit_two_pow, hf]
    by_cases hw : w = b
    · subst hw; simp
    · have : ¬ b = w := fun h => hw h.symm
      simp [hw, this]
  · have e : (M.set a (M.getD a 0 ||| 2 ^ b)).getD v 0 = M.getD v 0 := by
      have : ¬ a = v := fun h => hva h.symm
      simp [this]
    rw [e]
    exact ⟨l, fun w => by rw [t, hf]; simp [hva]⟩
theorem MaskOK.congr {f f' : Nat → Nat → Bool} {n : Nat} {M : List Nat} (h : MaskOK f n M) (hf : ∀ v w, f' v w = f v w) : MaskOK f' n M := ⟨h.1, fun v hv => ⟨(h.2 v hv).1, fun w => by rw [(h.2 v hv).2 w, hf]⟩⟩
/-- There is an edge from v to w. -/
def nextP (ys : List Tri) (v w : Nat) : Bool := ys.any fun e => decide (e.1 = (v : Int)) && decide (e.2.1 = (w : Int))
def prevP (ys : List Tri) (v w : Nat) : Bool := ys.any fun e => decide (e.2.1 = (v : Int)) && decide (e.1 = (w : Int))
/-- They are neighbours. -/
def nearP (ys : List Tri) (v w : Nat) : Bool := nextP ys v w || prevP ys v w
theorem nextP_snoc (ys : List Tri) (k : Nat) (hk : k < ys.length) (a b : Nat) (ha : (ys.getD k triZ).1 = (a : Int)) (hb : (ys.getD k triZ).2.1 = (b : Int)) (v w : Nat) :
    nextP (ys.take (k + 1)) v w = (nextP (ys.take k) v w || (decide (v = a) && decide (w = b))) := by
  unfold nextP
  rw [triTake_snoc ys k hk, List.any_append]
  simp only [List.any_cons, List.any_nil, Bool.or_false, ha, hb]
  congr 2
  · rw [decide_eq_decide]; omega
  · rw [decide_eq_decide]; omega
theorem prevP_snoc (ys : List Tri) (k : Nat) (hk : k < ys.length) (a b : Nat) (ha : (ys.getD k triZ).2.1 = (a : Int)) (hb : (ys.getD k triZ).1 = (b : Int)) (v w : Nat) :
    prevP (ys.take (k + 1)) v w = (prevP (ys.take k) v w || (decide (v = a) && decide (w = b))) := by
  unfold prevP
  rw [triTake_snoc ys k hk, List.any_append]
  simp only [List.any_cons, List.any_nil, Bool.or_false, ha, hb]
  congr 2
  · rw [decide_eq_decide]; omega
  · rw [decide_eq_decide]; omega
/-- What holds of an edge of a graph that is valid. -/
theorem GraphOk.edge {g : GraphD} (h : GraphOk g) {k : Nat} (hk : k < g.2.length) : ∃ a b : Nat, (g.2.getD k triZ).1 = (a : Int) ∧ (g.2.getD k triZ).2.1 = (b : Int) ∧ a < g.1.toNat ∧ b < g.1.toNat ∧ a ≠ b ∧ g.1.toNat ≤ 16 := by
  obtain ⟨h0, h1, h2⟩ := h
  obtain ⟨e1, e2, e3, -, -⟩ := h2 k hk
  refine ⟨(g.2.getD k triZ).1.toNat, (g.2.getD k triZ).2.1.toNat, ?_, ?_, ?_, ?_, ?_, ?_⟩ <;> omega

theorem infoMask : (Tryd.prog.info? 67).map (fun i => (i.zero, i.size, i.bytes)) = some (some (.int .u32 0), 1, 4) := by kernel_rfl

set_option maxRecDepth 100000 in
set_option maxHeartbeats 4000000 in
theorem nextMasks_any (w : World) (va : Value) (g : GraphD) (h : RdGraph w va g) (hok : GraphOk g) :
    Calls Tryd.prog 22 #[va] w fun e w' => ∃ b M, e = .returned (.slice (some ⟨b, 0, none⟩) g.1.toNat g.1.toNat) ∧ w.heap.size ≤ b ∧ w'.ownsRow b 67 1 (.slice (some ⟨b, 0, none⟩) g.1.toNat g.1.toNat) g.1.toNat (mks M) ∧ MaskOK (nextP g.2) g.1.toNat M ∧ Below w.heap.size w w' := by
  have hok' := hok
  obtain ⟨p, c, rfl, hr, hc, hmx⟩ := h.form
  clear h
  have HE := Lib.hid fun k (hk : k < g.2.length) => hok'.edge hk
  obtain ⟨⟨hm0, hm1⟩, -, -⟩ := hok
  obtain ⟨m, ys⟩ := g
  simp only at hr hc hm0 hm1 HE ⊢
  clear hok'
  have HR : Hid (Rd w 3 (.slice p ys.length c) ys.length (tris ys)) := Lib.hid hr
  clear hr
  obtain ⟨n, rfl⟩ := Int.eq_ofNat_of_zero_le hm0
  simp only [Int.toNat_natCast] at *
  have HB : Hid (Below w.heap.size w (w.alloc (.cells #[.int .i64 n, .slice p ys.length c] 25))) := Lib.hid ((Below.refl _ _).alloc (Nat.le_refl _) _)
  have X := Lib.hid (heap_alloc_new w (.cells #[.int .i64 n, .slice p ys.length c] 25))
  generalize hl : ys.length = l at *
  have HL := Lib.hid hl; clear hl
  obtain ⟨i0, hi, hz0, hz1, hz2⟩ := info_parts infoMask
  have Hi := Lib.hid hi; have Hz0 := Lib.hid hz0; have Hz1 := Lib.hid hz1; have Hz2 := Lib.hid hz2; clear hi hz0 hz1 hz2
  go_enter Tryd.func22, Tryd.ntmps22
  have hws : (w.alloc (.cells #[.int .i64 n, .slice p l c] 25)).heap.size = w.heap.size + 1 := by simp
  go_wp2_with (at_make; refine wpList_make_full _ rfl _ _ 48 rfl (w.heap.size + 1) 67 i0 (.int .u32 0) 1 Tryd.underlying48 Hi.out Hz0.out Hz1.out _ _ _ _ n rfl rfl rfl rfl (by rw [Hz2.out]; omega) (by unfold maxLen; omega) (by simp) ?_)
  intro w1 hown hgrow
  have HO : Hid (w1.ownsRow (w.heap.size + 1) 67 1 (.slice (some ⟨w.heap.size + 1, 0, none⟩) n n) n (mks (List.replicate n 0))) := Lib.hid (by
    have h := hown
    rw [toList_madeCells_one] at h
    rw [show mks (List.replicate n 0) = List.replicate n (.int .u32 0) from by simp [mks]]
    exact h)
  have hb1 : Below (w.alloc (.cells #[.int .i64 n, .slice p l c] 25)).heap.size (w.alloc (.cells #[.int .i64 n, .slice p l c] 25)) w1 := (Below.refl _ _).grown hgrow (Nat.le_refl _) (by intro k hk; cases hk)
  replace HB := Lib.hid (HB.out.tr hb1); replace X := Lib.hid (box_keep X.out hb1)
  have HM := Lib.hid (MaskOK.zero n)
  clear hown hgrow hb1 Hi Hz0 Hz1 Hz2 hws
  generalize hbb : w.heap.size + 1 = b at *
  have hBb : w.heap.size < b := by omega
  generalize List.replicate n 0 = M0 at *
  have k1 := box_cell X.out 1 (.slice p l c) rfl
  go_wp2_with fail
  clear k1 X
  go_loopw [12] (fun i wr => ∃ (k : Nat) (M : List Nat), k ≤ l ∧ i = .int .i64 k ∧ Hid (wr.ownsRow b 67 1 (.slice (some ⟨b, 0, none⟩) n n) n (mks M)) ∧ Hid (MaskOK (nextP (ys.take k)) n M) ∧ Hid (Below w.heap.size w wr)) (fun i _ => l - (intOf i).toNat)
  case atStart => exact ⟨0, M0, Nat.zero_le _, rfl, HO, Lib.hid (HM.out.congr fun v w => by simp [nextP]), HB⟩
  case round =>
    clear HO HB HM
    obtain ⟨k, M, hk, rfl, HO, HM, HB⟩ := hrel
    by_cases hlt : k < l
    · obtain ⟨b1, o1, rfl, hb1, c0, c1, c2⟩ := (HR.out.keep HB.out).tri hlt
      obtain ⟨ea, eb, he1, he2, hea, heb, -, hn16⟩ := HE.out k hlt
      have HM2 := Lib.hid (HM.out.add (f' := nextP (ys.take (k + 1))) (a := ea) (b := eb) (by omega) (by omega) (fun v w => nextP_snoc ys k (by rw [HL.out]; exact hlt) ea eb he1 he2 v w))
      rw [he1] at c0; rw [he2] at c1
      generalize (ys.getD k triZ).2.2 = tc at *
      have HML := Lib.hid fun v (hv : v < n) => (HM.out.2 v hv).1
      clear he1 he2 HM
      have hml : M.length = n := by have := HO.out.1; rw [mks_length] at this; omega
      have hbl : b < wr.heap.size := (HO.out.lt b rfl).2
      go_wp2_with fail
      have HB4 := Lib.hid (HB.out.tr (show Below wr.heap.size wr (wr.alloc (.cells #[.int .i64 (ea : Int), .int .i64 (eb : Int), .int .i64 tc] 34)) by go_grown))
      have E4 := Lib.hid (heap_alloc_new wr (.cells #[.int .i64 (ea : Int), .int .i64 (eb : Int), .int .i64 tc] 34))
      have HO4 := Lib.hid (HO.out.alloc (.cells #[.int .i64 (ea : Int), .int .i64 (eb : Int), .int .i64 tc] 34))
      have hs4 : (wr.alloc (.cells #[.int .i64 (ea : Int), .int .i64 (eb : Int), .int .i64 tc] 34)).heap.size = wr.heap.size + 1 := by simp
      generalize (wr.alloc (.cells #[.int .i64 (ea : Int), .int .i64 (eb : Int), .int .i64 tc] 34)) = w4 at *
      clear c0 c1 c2 HO HB HE
      have t0 := box_cell E4.out 0 (.int .i64 (ea : Int)) rfl; have t1 := box_cell E4.out 1 (.int .i64 (eb : Int)) rfl
      have hlt4 : wr.heap.size < w4.heap.size := by omega
      have hmg : (mks M)[ea]? = some (.int .u32 ((M.getD ea 0 : Nat) : Int)) := mks_get M ea (by omega)
      have hgl : M.getD ea 0 < 65536 := HML.out ea (by omega)
      have horv := u32_or (M.getD ea 0) (2 ^ eb) (by omega) (Nat.pow_lt_pow_right (by decide) (by omega))
      have HMO := Lib.hid fun wx => maskOf_any eb (by omega) wx
      have hix : (ea : Int) < (n : Int) := by omega
      generalize M.getD ea 0 = gv at *
      generalize 2 ^ eb = pv at *
      generalize gv ||| pv = ov at *
      refine wp_region_rel (fun x => { tmps := #[.agg #[.int .i64 n, .slice (some ⟨b1, o1, none⟩) l c], .pointer (some ⟨w.heap.size, 0, none⟩), .slice none 0 0, .slice (some ⟨b, 0, none⟩) n n, undef, .pointer (some ⟨wr.heap.size, 0, none⟩), .pointer (some ⟨w.heap.size, 0, none⟩), .int .i64 n, .slice (some ⟨b, 0, none⟩) n n, .pointer (some ⟨w.heap.size, 1, none⟩), .slice (some ⟨b1, o1, none⟩) l c, .int .i64 l, .int .i64 k, .bool true, .pointer (some ⟨b1, o1 + k * 3, none⟩), .agg #[.int .i64 (ea : Int), .int .i64 (eb : Int), .int .i64 tc], x 16, x 17, x 18, x 19, x 20, x 21, x 22, x 23, x 24, x 25, u26, undef], defers := [] })
        (fun k => if k = 16 then u16 else if k = 17 then u17 else if k = 18 then u18 else if k = 19 then u19 else if k = 20 then u20 else if k = 21 then u21 else if k = 22 then u22 else if k = 23 then u23 else if k = 24 then u24 else if k = 25 then u25 else undef) (fun _ L wx => (L 10 = false → Below w4.heap.size w4 wx) ∧ (L 10 = true → (∀ i, i < 10 → L i = true) ∧ wx.ownsRow b 67 1 (.slice (some ⟨b, 0, none⟩) n n) n (mks (M.set ea ov)) ∧ Chg b (b + 1) w4 wx)) (fun _ _ _ => True)
        (Tl [cst (.slice (some ⟨b, 0, none⟩) n n), cst (.pointer (some ⟨wr.heap.size, 0, none⟩)), cst (.int .i64 (ea : Int)), cst (.pointer (some ⟨b, ea, none⟩)), cst (.int .u32 (gv : Int)), cst (.pointer (some ⟨wr.heap.size, 1, none⟩)), cst (.int .i64 (eb : Int)), cst (.int .u32 (pv : Int)), cst (.int .u32 (ov : Int)), cst (.pointer (some ⟨b, ea, none⟩))])
        (by kernel_rfl) (by kernel_rfl) (by kernel_rfl) (stab_Tl ?hst) (fun _ _ => trivial) ⟨fun _ => (Below.refl _ _).drew, fun h => by cases h⟩ ?hput ?hop ?hend
      case hst =>
        simp only [List.mem_cons, List.not_mem_nil, or_false, forall_eq_or_imp, forall_eq]
        refine ⟨?_, ?_, ?_, ?_, ?_, ?_, ?_, ?_, ?_, ?_⟩
        all_goals first | exact stab_cst _ _ | exact stab_pur _ _
      case hput =>
        refine ⟨?_, ?_, ?_, ?_, ?_, ?_, ?_, ?_, ?_, ?_, ?_, trivial⟩
        all_goals first | exact fun x v => rfl | exact trivial
      case hop =>
        refine ⟨?_, ?_, ?_, ?_, ?_, ?_, ?_, ?_, ?_, ?_, ?_, trivial⟩
        · refine OpRel.plain rfl fun n L x wx K hn hL hG hdep hK => ?_
          have hL10 : L 10 = false := by cases h10 : L 10 with | false => rfl | true => rw [(hG.2 h10).1 0 (by decide)] at hL; cases hL
          have hP := hG.1 hL10
          clear hdep; go_simp
          exact hK _ _ ⟨fun _ => hP, fun h => by simp [setL, hL10] at h⟩ trivial rfl
        · refine OpRel.plain rfl fun n L x wx K hn hL hG hdep hK => ?_
          have hL10 : L 10 = false := by cases h10 : L 10 with | false => rfl | true => rw [(hG.2 h10).1 1 (by decide)] at hL; cases hL
          have hP := hG.1 hL10
          clear hdep; go_simp
          exact hK _ _ ⟨fun _ => hP, fun h => by simp [setL, hL10] at h⟩ trivial rfl
        · refine OpRel.plain rfl fun n L x wx K hn hL hG hdep hK => ?_
          have h17 : x 17 = _ := (hdep 1 rfl).2 _ rfl
          have hL10 : L 10 = false := by cases h10 : L 10 with | false => rfl | true => rw [(hG.2 h10).1 2 (by decide)] at hL; cases hL
          have hP := hG.1 hL10
          have z := (hP.cell (p := ⟨wr.heap.size, 0, none⟩) hlt4).trans t0
          clear hdep; simp only [h17] at hK; go_simp
          exact hK _ _ ⟨fun _ => hP, fun h => by simp [setL, hL10] at h⟩ trivial rfl
        · refine OpRel.plain rfl fun n L x wx K hn hL hG hdep hK => ?_
          have h16 : x 16 = _ := (hdep 0 rfl).2 _ rfl
          have h18 : x 18 = _ := (hdep 2 rfl).2 _ rfl
          have hL10 : L 10 = false := by cases h10 : L 10 with | false => rfl | true => rw [(hG.2 h10).1 3 (by decide)] at hL; cases hL
          have hP := hG.1 hL10
          clear hdep; simp only [h16, h18] at hK; go_simp
          exact hK _ _ ⟨fun _ => hP, fun h => by simp [setL, hL10] at h⟩ trivial rfl
        · refine OpRel.plain rfl fun n L x wx K hn hL hG hdep hK => ?_
          have h19 : x 19 = _ := (hdep 3 rfl).2 _ rfl
          have hL10 : L 10 = false := by cases h10 : L 10 with | false => rfl | true => rw [(hG.2 h10).1 4 (by decide)] at hL; cases hL
          have hP := hG.1 hL10
          have z : wx.cell? ⟨b, ea, none⟩ = some (.int .u32 (gv : Int)) := by rw [(ownsRow_keep HO4.out hP).cellAt ea (by omega)]; exact hmg
          clear hdep; simp only [h19] at hK; go_simp
          exact hK _ _ ⟨fun _ => hP, fun h => by simp [setL, hL10] at h⟩ trivial rfl
        · refine OpRel.plain rfl fun n L x wx K hn hL hG hdep hK => ?_
          have hL10 : L 10 = false := by cases h10 : L 10 with | false => rfl | true => rw [(hG.2 h10).1 5 (by decide)] at hL; cases hL
          have hP := hG.1 hL10
          clear hdep; go_simp
          exact hK _ _ ⟨fun _ => hP, fun h => by simp [setL, hL10] at h⟩ trivial rfl
        · refine OpRel.plain rfl fun n L x wx K hn hL hG hdep hK => ?_
          have h21 : x 21 = _ := (hdep 5 rfl).2 _ rfl
          have hL10 : L 10 = false := by cases h10 : L 10 with | false => rfl | true => rw [(hG.2 h10).1 6 (by decide)] at hL; cases hL
          have hP := hG.1 hL10
          have z := (hP.cell (p := ⟨wr.heap.size, 1, none⟩) hlt4).trans t1
          clear hdep; simp only [h21] at hK; go_simp
          exact hK _ _ ⟨fun _ => hP, fun h => by simp [setL, hL10] at h⟩ trivial rfl
        · refine OpRel.plain rfl fun n L x wx K hn hL hG hdep hK => ?_
          have h22 : x 22 = _ := (hdep 6 rfl).2 _ rfl
          have hL10 : L 10 = false := by cases h10 : L 10 with | false => rfl | true => rw [(hG.2 h10).1 7 (by decide)] at hL; cases hL
          have hP := hG.1 hL10
          clear hdep; simp only [h22] at hK; go_simp
          (refine (HMO.out _).mono ?_; rintro e w2 ⟨rfl, rfl⟩; exact hK _ _ ⟨fun _ => hP, fun h => by simp [setL, hL10] at h⟩ trivial rfl)
        · refine OpRel.plain rfl fun n L x wx K hn hL hG hdep hK => ?_
          have h20 : x 20 = _ := (hdep 4 rfl).2 _ rfl
          have h23 : x 23 = _ := (hdep 7 rfl).2 _ rfl
          have hL10 : L 10 = false := by cases h10 : L 10 with | false => rfl | true => rw [(hG.2 h10).1 8 (by decide)] at hL; cases hL
          have hP := hG.1 hL10
          clear hdep; simp only [h20, h23] at hK; go_simp
          exact hK _ _ ⟨fun _ => hP, fun h => by simp [setL, hL10] at h⟩ trivial rfl
        · refine OpRel.plain rfl fun n L x wx K hn hL hG hdep hK => ?_
          have h16 : x 16 = _ := (hdep 0 rfl).2 _ rfl
          have h18 : x 18 = _ := (hdep 2 rfl).2 _ rfl
          have hL10 : L 10 = false := by cases h10 : L 10 with | false => rfl | true => rw [(hG.2 h10).1 9 (by decide)] at hL; cases hL
          have hP := hG.1 hL10
          clear hdep; simp only [h16, h18] at hK; go_simp
          exact hK _ _ ⟨fun _ => hP, fun h => by simp [setL, hL10] at h⟩ trivial rfl
        · refine OpRel.plain rfl fun n L x wx K hn hL hG hdep hK => ?_
          have h25 : x 25 = _ := (hdep 9 rfl).2 _ rfl
          have h24 : x 24 = _ := (hdep 8 rfl).2 _ rfl
          have hA : ∀ i, i < 10 → L i = true := fun i hi => match i, hi with | 0, _ => (hdep 0 rfl).1 | 1, _ => (hdep 1 rfl).1 | 2, _ => (hdep 2 rfl).1 | 3, _ => (hdep 3 rfl).1 | 4, _ => (hdep 4 rfl).1 | 5, _ => (hdep 5 rfl).1 | 6, _ => (hdep 6 rfl).1 | 7, _ => (hdep 7 rfl).1 | 8, _ => (hdep 8 rfl).1 | 9, _ => (hdep 9 rfl).1
          have hP := hG.1 hL
          have z := ownsRow_keep HO4.out hP
          have z1 : wx.cell? ⟨b, ea, none⟩ = some (.int .u32 (gv : Int)) := by rw [z.cellAt ea (by omega)]; exact hmg
          have z2 := z.frozenAt ea
          have z3 := z.stored ea (.int .u32 (ov : Int))
          rw [mks_set] at z3
          clear hdep; simp only [h25, h24] at hK; go_simp
          exact hK (.bool false) _ ⟨fun h => by simp [setL] at h, fun _ => ⟨fun i hi => by by_cases h10 : i = 10; subst h10; rfl; simp only [setL, h10, if_false]; exact hA i hi, z3.1, (Chg.of_below hP).trans (Chg.of_grown z3.2)⟩⟩ trivial trivial
      case hend =>
        intro n' L x wx _ hG hh
        obtain ⟨-, ho, hc9⟩ := hG.2 (hh 10 (by decide)).1
        clear hh hG
        have HO9 := Lib.hid ho
        have HB9 := Lib.hid (hc9.below HB4.out (by omega))
        clear ho hc9 t0 t1 hmg horv HMO
        go_wp2_with fail
        go_roundw
        case rel => exact ⟨k + 1, _, by omega, by go_num, HO9, HM2, HB9⟩
        case measure => simp [intOf]; omega
    · obtain rfl : k = l := by omega
      have hml := HM.out
      rw [List.take_of_length_le (by rw [HL.out]; exact Nat.le_refl _)] at hml
      have HM9 := Lib.hid hml
      go_wp2_with fail
      go_ret
      exact ⟨b, M, rfl, by omega, HO.out, HM9.out, HB.out⟩
end Go.Proofs.YtgdggkhdollieaaDoor
