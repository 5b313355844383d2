/-
  The reference's sorting of messages: each is put in its place.
-/
import Derived.Test.YtgdggkhdollieaaSortP
import Derived.Test.YtgdggkhdollieaaMsg
import Derived.Test.YtgdggkhdollieaaStage
import Derived.Test.YtgdggkhdollieaaApp
import Derived.Test.YtgdggkhdollieaaStart
import Derived.Deep.RegionLaw
namespace Go.Proofs.Ytgdggkhdollieaa
open Go.RowKit
set_option linter.unusedVariables false

def sortMsgs (ys : List Tri) : List Tri := if ys.length ≤ 2000 then sortT ys else []
theorem Rd.subT {w : World} {g k cap : Nat} {L : List Tri} (h : Rd w 3 (.slice (some ⟨g, 0, none⟩) k cap) k (tris L)) (j : Nat) (hj : j ≤ k) : Rd w 3 (.slice (some ⟨g, j * 3, none⟩) (k - j) (cap - j)) (k - j) (tris (L.drop j)) := by
  have hl := tri_len_eq h
  obtain ⟨h1, a', cap', hv, h2, h3, h4⟩ := h
  simp only [Value.slice.injEq, true_and] at hv
  obtain ⟨rfl, rfl⟩ := hv
  have hd : tris (L.drop j) = (tris L).drop (j * 3) := by
    have e : L = L.take j ++ L.drop j := (List.take_append_drop j L).symm
    have e2 : tris L = tris (L.take j) ++ tris (L.drop j) := by rw [← tris_append, List.take_append_drop]
    rw [e2, List.drop_left' (by rw [tris_length, List.length_take]; congr 1; omega)]
  have hlen : (tris (L.drop j)).length = (k - j) * 3 := by rw [tris_length, List.length_drop, hl]
  refine ⟨hlen, _, _, rfl, by omega, by omega, ?_⟩
  rcases h4 with h4 | ⟨b, off, hb, hc⟩
  · left; rw [hd, h4]; simp
  · simp only [Option.some.injEq, Addr.mk.injEq, and_true] at hb
    obtain ⟨rfl, rfl⟩ := hb
    refine .inr ⟨g, j * 3, rfl, fun i hi => ?_⟩
    have := hc (j * 3 + i) (by rw [tris_length, hl]; rw [hlen] at hi; omega)
    rw [Nat.zero_add] at this
    rw [this, hd, List.getElem?_drop]
theorem Rd.noneT {w : World} {a : Option Addr} {n : Nat} {L : List Tri} (hn : n = 0) (hl : L.length = 0) : Rd w 3 (.slice a n 0) n (tris L) := by
  subst hn
  obtain rfl := List.eq_nil_of_length_eq_zero hl
  exact ⟨rfl, a, 0, rfl, Nat.le_refl _, by decide, .inl rfl⟩
theorem row_takeT {w : World} {base g k cap : Nat} {e : TypeId} {L : List Tri} (h : w.ownsRow base e 3 (.slice (some ⟨g, 0, none⟩) k cap) k (tris L)) (j : Nat) (hj : j ≤ k) : w.ownsRow base e 3 (.slice (some ⟨g, 0, none⟩) j cap) j (tris (L.take j)) := by
  have hl : L.length = k := by have := h.1; rw [tris_length] at this; omega
  refine ⟨by rw [tris_length, List.length_take]; congr 1; omega, ?_⟩
  rcases h.2 with ⟨h2, _⟩ | ⟨g', cap', cur, hv, hb, hg, hn, hm, hs, ht⟩
  · simp at h2
  · simp only [Value.slice.injEq, Option.some.injEq, Addr.mk.injEq, and_true, true_and] at hv
    obtain ⟨rfl, rfl⟩ := hv
    refine .inr ⟨g, cap, cur, rfl, hb, hg, by omega, hm, hs, ?_⟩
    have e2 : tris L = tris (L.take j) ++ tris (L.drop j) := by rw [← tris_append, List.take_append_drop]
    have e3 : cur.toList.take (j * 3) = (cur.toList.take (k * 3)).take (j * 3) := by rw [List.take_take]; congr 1; omega
    rw [e3, ht, e2, List.take_left' (by rw [tris_length, List.length_take]; congr 1; omega)]
theorem own_some {w : World} {base s n : Nat} {e : TypeId} {v : Value} {cs : List Value} (h : w.ownsRow base e s v n cs) (hv : v ≠ .slice none 0 0) : ∃ g cap, v = .slice (some ⟨g, 0, none⟩) n cap ∧ base ≤ g ∧ g < w.heap.size ∧ n ≤ cap ∧ cap ≤ 9223372036854775807 := by
  rcases h.2 with ⟨h2, _⟩ | ⟨g, cap, cur, rfl, hb, hg, hn, hm, hs, ht⟩
  · exact absurd h2 hv
  · exact ⟨g, cap, rfl, hb, (Array.getElem?_eq_some_iff.1 hg).1, hn, by unfold maxLen at hm; omega⟩
theorem own_self {base b n c s : Nat} {w : World} {e : TypeId} {cs : List Value} (h : w.ownsRow base e s (.slice (some ⟨b, 0, none⟩) n c) n cs) : w.ownsRow b e s (.slice (some ⟨b, 0, none⟩) n c) n cs := by
  refine ⟨h.1, ?_⟩
  rcases h.2 with h2 | ⟨g, cap, cur, hv, hb, hg, r⟩
  · exact .inl h2
  · have hgb : g = b := by simp only [Value.slice.injEq, Option.some.injEq, Addr.mk.injEq] at hv; exact hv.1.1.symm
    subst hgb
    exact .inr ⟨g, cap, cur, hv, Nat.le_refl _, hg, r⟩
theorem cells_new3 (w : World) (a b c : Int) : ∀ j u, (tris [(a, b, c)])[j]? = some u → (w.alloc (.cells #[.int .i64 a, .int .i64 b, .int .i64 c] 33)).cell? ((⟨w.heap.size, 0, none⟩ : Addr).add j) = some u := by
  intro j u hu
  rw [add_lit', Nat.zero_add, cell_of_row _ _ _ _ _ _ (heap_alloc_new w (.cells #[.int .i64 a, .int .i64 b, .int .i64 c] 33))]
  simpa [tris] using hu
section
variable {P : Program}
theorem step_append_run {w w' : World} {ops : Array Oper} {o : Oper} {a : Act} {K : Act → World → Prop} {Q : Exit → Act → World → Prop} {E : Prop} (hw : Region.wanted o (yielded ops a.tmps) = true)
    (s x : Operand) (t : TypeId) (ho : o.op = .call { callee := .builtin .append, args := #[s, x], argTypes := #[t, t] }) (v y v' : Value) (hs : a.eval s = v) (hx : a.eval x = y)
    (hrun : (Builtin.append_ #[t, t] o.type #[v, y]).run P w = .ok v' w') (h : K (a.put o.dst v') w') :
    if Region.wanted o (yielded ops a.tmps) = true then Oper.wp P o a w K Q else E := by
  rw [if_pos hw]
  exact wp_append_run s x t ho v y v' hs hx hrun h
end

set_option maxRecDepth 100000 in
set_option maxHeartbeats 16000000 in
theorem specSortMessages_any (w : World) (va : Value) (ys : List Tri) (ha : Rd w 3 va ys.length (tris ys)) : Calls Try.prog 19 #[va] w (RetMessageS w (sortMsgs ys)) := by
  have HR := Lib.hid ha
  obtain ⟨a, ca, rfl, hca, hma⟩ := ha.form
  clear ha
  by_cases hs : ys.length ≤ 2000
  · rw [sortMsgs, if_pos hs]
    have HT : Hid (ys.take ys.length = ys) := Lib.hid (List.take_of_length_le (Nat.le_refl _))
    have HTL : Hid (∀ k, k ≤ ys.length → (ys.take k).length = k) := Lib.hid fun k hk => by rw [List.length_take]; omega
    have HTS : Hid (∀ k, k < ys.length → ys.take (k + 1) = ys.take k ++ [ys.getD k triZ]) := Lib.hid fun k hk => triTake_snoc ys k hk
    have HSL : Hid ((sortT ys).length = ys.length) := Lib.hid (sortT_length ys)
    generalize hn : ys.length = n at *
    clear hn
    have hs' : decide ((n : Int) ≤ 2000) = true := by simp; omega
    obtain ⟨i0, hi, hz0, hz1, hz2⟩ := info_parts infoMessage
    have Hi := Lib.hid hi; have Hz0 := Lib.hid hz0; have Hz1 := Lib.hid hz1; have Hz2 := Lib.hid hz2; clear hi hz0 hz1 hz2
    have HO := Lib.hid (World.ownsRow_made (size := 3) (e := 33) (base := w.heap.size) w #[] 0 (Nat.le_refl _) (by decide) rfl)
    have HB : Hid (Below w.heap.size w (w.alloc (.cells #[] 33))) := Lib.hid (by go_grown)
    go_enter Try.func19, Try.ntmps19
    go_wp2_with fail
    generalize (w.alloc (.cells #[] 33)) = w1 at *
    go_loopw [3, 4] (fun s i wr => ∃ (k g cap : Nat), k ≤ n ∧ i = .int .i64 k ∧ s = .slice (some ⟨g, 0, none⟩) k cap ∧ w.heap.size ≤ g ∧ k ≤ cap ∧ cap ≤ 9223372036854775807 ∧ Hid (wr.ownsRow g 33 3 (.slice (some ⟨g, 0, none⟩) k cap) k (tris (sortT (ys.take k)))) ∧ Hid (Below w.heap.size w wr)) (fun _ i _ => n - (intOf i).toNat)
    case atStart => exact ⟨0, w.heap.size, 0, Nat.zero_le _, rfl, rfl, Nat.le_refl _, Nat.le_refl _, by omega, by simpa [sortT, tris] using HO, HB⟩
    case round =>
      clear HO HB
      obtain ⟨k, g, cap, hk, rfl, rfl, hwg, hkc, hcm, HO, HB⟩ := hrel
      by_cases hlt : k < n
      · obtain ⟨b1, o1, rfl, hb1, c0, c1, c2⟩ := HR.out.tri hlt
        have hb1r : b1 < wr.heap.size := by have := HB.out.size; omega
        have HLL : Hid ((sortT (ys.take k)).length = k) := Lib.hid (by rw [sortT_length]; exact HTL.out k (by omega))
        have HINS : Hid (∀ j, j ≤ k → (0 < j → TLe ((sortT (ys.take k)).getD (j - 1) triZ) (ys.getD k triZ)) → (∀ i, j ≤ i → i < k → ¬ TLe ((sortT (ys.take k)).getD i triZ) (ys.getD k triZ)) → sortT (ys.take (k + 1)) = (sortT (ys.take k)).take j ++ ys.getD k triZ :: (sortT (ys.take k)).drop j) := Lib.hid fun j hj h1 h2 => by
          rw [HTS.out k hlt]
          exact sortT_ins (by rw [HTL.out k (by omega)]; exact hj) h1 (fun i hi1 hi2 => h2 i hi1 (by rwa [HTL.out k (by omega)] at hi2))
        have hgl0 : g < wr.heap.size := (HO.out.lt _ rfl).2
        generalize sortT (ys.take k) = L at *
        generalize ys.getD k triZ = x at *
        obtain ⟨x0, x1, x2⟩ := x
        simp only at c0 c1 c2
        have hkn : (k : Int) < (n : Int) := by omega
        go_wp2_with fail
        go_loopw [5] (fun i wv => ∃ j : Nat, j ≤ k ∧ i = .int .i64 j ∧ Hid (Below wr.heap.size wr wv) ∧ Hid (∀ i, j ≤ i → i < k → ¬ TLe (L.getD i triZ) (x0, x1, x2))) (fun i _ => (intOf i).toNat)
        case atStart => exact ⟨k, Nat.le_refl _, rfl, Lib.hid (Below.refl _ _), Lib.hid fun i h1 h2 => absurd h2 (by omega)⟩
        case round =>
          obtain ⟨j, hj, rfl, HBV, HJ⟩ := hrel
          obtain ⟨wv, hwv⟩ : ∃ wv : World, wv = wr := ⟨_, rfl⟩
          subst hwv
          by_cases hj0 : 0 < j
          · have t6 : decide (0 < j) = true := by simp; omega
            obtain ⟨q, hq⟩ : ∃ q, j = q + 1 := ⟨j - 1, by omega⟩
            have HQ := Lib.hid hq
            have hqk : q < k := by omega
            have hrd := Rd.of_own (ownsRow_keep HO.out HBV.out)
            obtain ⟨b2, o2, e2, hb2, d0, d1, d2⟩ := hrd.tri hqk
            simp only [Option.some.injEq, Addr.mk.injEq, and_true] at e2
            obtain ⟨rfl, rfl⟩ := e2
            rw [Nat.zero_add] at d0 d1 d2
            have hcb : ∀ wx, Calls Try.prog 59 #[.agg #[.int .i64 x0, .int .i64 x1, .int .i64 x2], .agg #[.int .i64 (L.getD q triZ).1, .int .i64 (L.getD q triZ).2.1, .int .i64 (L.getD q triZ).2.2]] wx fun e w' => e = .returned (.bool (tBefore (x0, x1, x2) (L.getD q triZ))) ∧ Below wx.heap.size wx w' := fun wx => l9Before_any _ _ _ _ _ _ wx
            have hbv : tBefore (x0, x1, x2) (L.getD q triZ) = true ↔ ¬ TLe (L.getD q triZ) (x0, x1, x2) := tBefore_iff _ _
            have HBVI := Lib.hid hbv
            generalize tBefore (x0, x1, x2) (L.getD q triZ) = bv at *
            have HCB := Lib.hid hcb; clear hcb hbv hrd
            generalize (L.getD q triZ).1 = r0 at *
            generalize (L.getD q triZ).2.1 = r1 at *
            generalize (L.getD q triZ).2.2 = r2 at *
            have hwk : IntKind.i64.wrap ((j : Int) - 1) = (q : Int) := by rw [IntWalk.i64_in _ (by omega)]; omega
            have htk : (j : Int) - 1 = (q : Int) := by omega
            have hki : (q : Int) < (k : Int) := by omega
            have hb1v : b1 < wv.heap.size := by have := HBV.out.size; omega
            have HBW := Lib.hid (HB.out.tr HBV.out)
            have g0 := fun p => GrownW.cell (B := wv.heap.size) ((HBW.out.cell (p := ⟨b1, o1 + k * 3, none⟩) hb1).trans c0) hb1v p
            have g1 := fun p => GrownW.cell (B := wv.heap.size) ((HBW.out.cell (p := ⟨b1, o1 + k * 3 + 1, none⟩) hb1).trans c1) hb1v p
            have g2 := fun p => GrownW.cell (B := wv.heap.size) ((HBW.out.cell (p := ⟨b1, o1 + k * 3 + 2, none⟩) hb1).trans c2) hb1v p
            have g3 := fun p => GrownW.cell (B := wv.heap.size) d0 hb2 p
            have g4 := fun p => GrownW.cell (B := wv.heap.size) d1 hb2 p
            have g5 := fun p => GrownW.cell (B := wv.heap.size) d2 hb2 p
            clear d0 d1 d2 hq HBW
            go_wp2_with fail
            refine wp_region_grown wv.heap.size (by kernel_rfl) (by kernel_rfl) ?_
            repeat (go_big_quiet_step ((go_at_call 59; exact GrownW.call (Nat.le_refl _) (HCB.out _))))
            refine wpQuiet_done ?_
            intro w9 hb9
            replace HBV := Lib.hid (HBV.out.tr hb9)
            clear hb9 g0 g1 g2 g3 g4 g5 hwk htk hki t6 hb1v HCB hb2
            cases bv
            · have HEX : Hid (0 < j → TLe (L.getD (j - 1) triZ) (x0, x1, x2)) := Lib.hid fun _ => by
                rw [show j - 1 = q by have := HQ.out; omega]
                exact Classical.not_not.1 fun h => by have := HBVI.out.2 h; cases this
              obtain ⟨wv, hwv⟩ : ∃ wv : World, wv = w9 := ⟨_, rfl⟩
              subst hwv
              clear HQ HBVI
              have hjk : j ≤ k := hj
              have hins := HINS.out j hjk HEX.out HJ.out
              have HIN := Lib.hid hins
              clear hins HJ HEX HINS
              have hOv := ownsRow_keep HO.out HBV.out
              have hgl : g < wv.heap.size := (hOv.lt _ rfl).2
              have HBW := Lib.hid (HB.out.tr HBV.out)
              have HLIT := Lib.hid (World.ownsRow_made (size := 3) (e := 33) (base := wv.heap.size) wv #[] 0 (Nat.le_refl _) (by decide) rfl)
              have hal : Below wv.heap.size wv (wv.alloc (.cells #[] 33)) := (Below.refl _ _).alloc (Nat.le_refl _) _
              have HO2 := Lib.hid (ownsRow_keep hOv hal)
              replace HBW := Lib.hid (HBW.out.tr hal)
              have RT := Lib.hid (fun (hc : ¬ cap = j) => Rd.subT (Rd.of_own HO2.out) j hjk)
              have RN := Lib.hid (fun (hc : cap = j) => (show Rd (wv.alloc (.cells #[] 33)) 3 (.slice (some ⟨g, 0, none⟩) (k - j) 0) (k - j) (tris (L.drop j)) from Rd.noneT (by omega) (by rw [List.length_drop, HLL.out]; omega)))
              have hdl : (L.drop j).length = k - j := by rw [List.length_drop, HLL.out]
              have HDL := Lib.hid hdl
              clear hdl hOv hal HBV HO HB
              have hsz1 : (wv.alloc (.cells #[] 33)).heap.size = wv.heap.size + 1 := by simp
              have HSZ1 := Lib.hid hsz1; clear hsz1
              by_cases hcj : cap = j
              · obtain rfl : k = j := by omega
                obtain rfl : k = cap := hcj.symm
                have RTT : Hid (Rd (wv.alloc (.cells #[] 33)) 3 (.slice (some ⟨g, 0, none⟩) 0 0) 0 (tris (L.drop k))) := Lib.hid (Rd.noneT rfl (by rw [List.length_drop, HLL.out]; omega))
                have HDL0 : Hid ((L.drop k).length = 0) := Lib.hid (by rw [HDL.out]; omega)
                clear RT RN HDL
                go_wp2_with (at_builtin; refine wpList_pushAllB rfl _ _ 28 33 rfl (.agg #[.int .i64 0, .int .i64 0, .int .i64 0]) 3 24 Try.underlying28 infoMessage rfl (by decide) (by decide) wv.heap.size _ 0 [] HLIT.out rfl _ 0 (tris (L.drop k)) RTT.out rfl (tris_one _) (by omega) (by omega) (by rw [HSZ1.out]; omega) ?_; intro v' w5 hown5 hbel5 hne5)
                rw [Nat.zero_add, List.nil_append] at hown5
                have hvn : v' ≠ .slice none 0 0 := fun e => by have := (hne5.1 e).1; simp at this
                obtain ⟨tb, tc, hve, htb, htbl, htc⟩ := own_some hown5 hvn
                subst hve
                have HT5 := Lib.hid hown5
                have HO5 := Lib.hid (own_block HO2.out (hbel5.block g hgl))
                have hlt5 : wv.heap.size < w5.heap.size := by have := hbel5.size; have := HSZ1.out; omega
                have HB5 := Lib.hid (HBW.out.trans (hbel5.mono (by have := hbel5.size; have := HBW.out.size; have := HSZ1.out; omega)))
                clear hown5 hbel5 hne5 hvn RTT HLIT HO2 HBW HSZ1
                have hal : Below w5.drew.heap.size w5.drew (w5.drew.alloc (.cells #[.int .i64 x0, .int .i64 x1, .int .i64 x2] 33)) := (Below.refl _ _).alloc (Nat.le_refl _) _
                have hOA := row_takeT (ownsRow_keep (w := w5.drew) HO5.out hal) k hjk
                have hTA := ownsRow_keep (w := w5.drew) HT5.out hal
                have hsA : (w5.drew.alloc (.cells #[.int .i64 x0, .int .i64 x1, .int .i64 x2] 33)).heap.size = w5.heap.size + 1 := by simp
                have HBA := Lib.hid (HB5.out.drew.trans (hal.mono HB5.out.size))
                obtain ⟨v9, w9, hr9, ho9, hg9, hn9, hb9⟩ := run_append_own_at (P := Try.prog) _ g 28 28 33 i0 (.agg #[.int .i64 0, .int .i64 0, .int .i64 0]) 3 24 Try.underlying28 Hi.out Hz0.out Hz1.out Hz2.out rfl (by decide) _ k _ hOA ⟨w5.heap.size, 0, none⟩ 1 1 (tris [(x0, x1, x2)]) rfl (cells_new3 w5.drew x0 x1 x2) (tris_one _) (by unfold maxLen; omega) (by omega) (by rw [hsA]; omega)
                have hT9 := row_kept hTA hg9 (fun q hq e => by simp only [Value.ownBlock, Option.some.injEq] at hq e; omega)
                have hne9 : v9 ≠ .slice none 0 0 := fun e => by have := (hn9.1 e).1; simp at this
                obtain ⟨v10, w10, hr10, ho10, hg10, hn10, hb10⟩ := run_append_own_at (P := Try.prog) _ g 28 28 33 i0 (.agg #[.int .i64 0, .int .i64 0, .int .i64 0]) 3 24 Try.underlying28 Hi.out Hz0.out Hz1.out Hz2.out rfl (by decide) _ (k + 1) _ ho9 ⟨tb, 0, none⟩ 0 tc (tris (L.drop k)) (by rw [tris_length, HDL0.out]) (fun q u hq => hT9.cells rfl q u hq) (tris_one _) (by unfold maxLen; omega) (by omega) (by have := hg9.size; rw [hsA] at this; omega)
                have hne10 : v10 ≠ .slice none 0 0 := fun e => hne9 (hn10.1 e).1
                have e10 : k + 1 + 0 = k + 1 := by omega
                rw [e10, ← tris_append, ← tris_append, List.append_assoc, show [(x0, x1, x2)] ++ L.drop k = (x0, x1, x2) :: L.drop k from rfl, ← HIN.out] at ho10
                obtain ⟨g10, c10, hv10, hg10a, hg10b, hc10⟩ := own_some ho10 hne10
                subst hv10
                have HO10 := Lib.hid (own_self ho10)
                have HB10 := Lib.hid ((HBA.out.grown hg9 HBA.out.size (fun q hq => Nat.le_trans hwg (hOA.lt q hq).1)).grown hg10 (HBA.out.grown hg9 HBA.out.size (fun q hq => Nat.le_trans hwg (hOA.lt q hq).1)).size (fun q hq => Nat.le_trans hwg (ho9.lt q hq).1))
                have HR9 := Lib.hid hr9; have HR10 := Lib.hid hr10
                have l0 := (HB5.out.cell (p := ⟨b1, o1 + k * 3, none⟩) hb1).trans c0
                have l1 := (HB5.out.cell (p := ⟨b1, o1 + k * 3 + 1, none⟩) hb1).trans c1
                have l2 := (HB5.out.cell (p := ⟨b1, o1 + k * 3 + 2, none⟩) hb1).trans c2
                clear hr9 hr10 ho9 ho10 hg9 hg10 hn9 hn10 hb9 hb10 hOA hTA hT9 hal hsA HBA HT5 HO5 hne9 hne10 e10 c0 c1 c2
                go_wp2_with fail
                go_region_law (first
                  | (refine step_append_run rfl _ _ 28 rfl _ _ v9 rfl rfl HR9.out ?_)
                  | (refine step_append_run rfl _ _ 28 rfl _ _ _ rfl rfl HR10.out ?_))
                all_goals
                  go_wp2_with fail
                  go_roundw
                  case rel => exact ⟨k + 1, g10, c10, by omega, by go_num, rfl, by omega, hc10.1, hc10.2, HO10, HB10⟩
                  case measure => simp [intOf]; omega
              · have RTT := Lib.hid (RT.out hcj)
                have hjc : j ≤ cap := by omega
                clear RT RN
                go_wp2_with (at_builtin; refine wpList_pushAllB rfl _ _ 28 33 rfl (.agg #[.int .i64 0, .int .i64 0, .int .i64 0]) 3 24 Try.underlying28 infoMessage rfl (by decide) (by decide) wv.heap.size _ 0 [] HLIT.out rfl _ (k - j) (tris (L.drop j)) RTT.out rfl (tris_one _) (by omega) (by omega) (by rw [HSZ1.out]; omega) ?_; intro v' w5 hown5 hbel5 hne5)
                rw [Nat.zero_add, List.nil_append] at hown5
                have hvn : v' ≠ .slice none 0 0 := fun e => by have := (hne5.1 e).1; simp at this
                obtain ⟨tb, tc, hve, htb, htbl, htc⟩ := own_some hown5 hvn
                subst hve
                have HT5 := Lib.hid hown5
                have HO5 := Lib.hid (own_block HO2.out (hbel5.block g hgl))
                have hlt5 : wv.heap.size < w5.heap.size := by have := hbel5.size; have := HSZ1.out; omega
                have HB5 := Lib.hid (HBW.out.trans (hbel5.mono (by have := hbel5.size; have := HBW.out.size; have := HSZ1.out; omega)))
                clear hown5 hbel5 hne5 hvn RTT HLIT HO2 HBW HSZ1
                have hal : Below w5.drew.heap.size w5.drew (w5.drew.alloc (.cells #[.int .i64 x0, .int .i64 x1, .int .i64 x2] 33)) := (Below.refl _ _).alloc (Nat.le_refl _) _
                have hOA := row_takeT (ownsRow_keep (w := w5.drew) HO5.out hal) j hjk
                have hTA := ownsRow_keep (w := w5.drew) HT5.out hal
                have hsA : (w5.drew.alloc (.cells #[.int .i64 x0, .int .i64 x1, .int .i64 x2] 33)).heap.size = w5.heap.size + 1 := by simp
                have HBA := Lib.hid (HB5.out.drew.trans (hal.mono HB5.out.size))
                obtain ⟨v9, w9, hr9, ho9, hg9, hn9, hb9⟩ := run_append_own_at (P := Try.prog) _ g 28 28 33 i0 (.agg #[.int .i64 0, .int .i64 0, .int .i64 0]) 3 24 Try.underlying28 Hi.out Hz0.out Hz1.out Hz2.out rfl (by decide) _ j _ hOA ⟨w5.heap.size, 0, none⟩ 1 1 (tris [(x0, x1, x2)]) rfl (cells_new3 w5.drew x0 x1 x2) (tris_one _) (by unfold maxLen; omega) (by omega) (by rw [hsA]; omega)
                have hT9 := row_kept hTA hg9 (fun q hq e => by simp only [Value.ownBlock, Option.some.injEq] at hq e; omega)
                have hne9 : v9 ≠ .slice none 0 0 := fun e => by have := (hn9.1 e).1; simp at this
                obtain ⟨v10, w10, hr10, ho10, hg10, hn10, hb10⟩ := run_append_own_at (P := Try.prog) _ g 28 28 33 i0 (.agg #[.int .i64 0, .int .i64 0, .int .i64 0]) 3 24 Try.underlying28 Hi.out Hz0.out Hz1.out Hz2.out rfl (by decide) _ (j + 1) _ ho9 ⟨tb, 0, none⟩ (k - j) tc (tris (L.drop j)) (by rw [tris_length, HDL.out]) (fun q u hq => hT9.cells rfl q u hq) (tris_one _) (by unfold maxLen; omega) (by omega) (by have := hg9.size; rw [hsA] at this; omega)
                have hne10 : v10 ≠ .slice none 0 0 := fun e => hne9 (hn10.1 e).1
                have e10 : j + 1 + (k - j) = k + 1 := by omega
                rw [e10, ← tris_append, ← tris_append, List.append_assoc, show [(x0, x1, x2)] ++ L.drop j = (x0, x1, x2) :: L.drop j from rfl, ← HIN.out] at ho10
                obtain ⟨g10, c10, hv10, hg10a, hg10b, hc10⟩ := own_some ho10 hne10
                subst hv10
                have HO10 := Lib.hid (own_self ho10)
                have HB10 := Lib.hid ((HBA.out.grown hg9 HBA.out.size (fun q hq => Nat.le_trans hwg (hOA.lt q hq).1)).grown hg10 (HBA.out.grown hg9 HBA.out.size (fun q hq => Nat.le_trans hwg (hOA.lt q hq).1)).size (fun q hq => Nat.le_trans hwg (ho9.lt q hq).1))
                have HR9 := Lib.hid hr9; have HR10 := Lib.hid hr10
                have l0 := (HB5.out.cell (p := ⟨b1, o1 + k * 3, none⟩) hb1).trans c0
                have l1 := (HB5.out.cell (p := ⟨b1, o1 + k * 3 + 1, none⟩) hb1).trans c1
                have l2 := (HB5.out.cell (p := ⟨b1, o1 + k * 3 + 2, none⟩) hb1).trans c2
                clear hr9 hr10 ho9 ho10 hg9 hg10 hn9 hn10 hb9 hb10 hOA hTA hT9 hal hsA HBA HT5 HO5 hne9 hne10 e10 c0 c1 c2
                go_wp2_with fail
                go_region_law (first
                  | (refine step_append_run rfl _ _ 28 rfl _ _ v9 rfl rfl HR9.out ?_)
                  | (refine step_append_run rfl _ _ 28 rfl _ _ _ rfl rfl HR10.out ?_))
                all_goals
                  go_wp2_with fail
                  go_roundw
                  case rel => exact ⟨k + 1, g10, c10, by omega, by go_num, rfl, by omega, hc10.1, hc10.2, HO10, HB10⟩
                  case measure => simp [intOf]; omega
            · have HN := Lib.hid (HBVI.out.1 rfl)
              clear HBVI
              go_wp2_with fail
              go_roundw
              case rel => exact ⟨q, by omega, by first | rfl | (have := HQ.out; congr 1; omega), HBV, Lib.hid fun i h1 h2 => by
                have := HQ.out
                by_cases e : i = q
                · subst e; exact HN.out
                · exact HJ.out i (by omega) h2⟩
              case measure => have := HQ.out; simp [intOf]; omega
          · have t6 : decide (0 < j) = false := by simp; omega
            have HEX : Hid (0 < j → TLe (L.getD (j - 1) triZ) (x0, x1, x2)) := Lib.hid fun h => absurd h hj0
            go_wp2_with fail
            refine wp_region_grown wv.heap.size (by kernel_rfl) (by kernel_rfl) ?_
            repeat (go_big_quiet_step (fail))
            refine wpQuiet_done ?_
            intro w9 hb9
            replace HBV := Lib.hid (HBV.out.tr hb9)
            obtain ⟨wv, hwv⟩ : ∃ wv : World, wv = w9 := ⟨_, rfl⟩
            subst hwv
            clear hb9 t6 hj0
            have hjk : j ≤ k := hj
            have hins := HINS.out j hjk HEX.out HJ.out
            have HIN := Lib.hid hins
            clear hins HJ HEX HINS
            have hOv := ownsRow_keep HO.out HBV.out
            have hgl : g < wv.heap.size := (hOv.lt _ rfl).2
            have HBW := Lib.hid (HB.out.tr HBV.out)
            have HLIT := Lib.hid (World.ownsRow_made (size := 3) (e := 33) (base := wv.heap.size) wv #[] 0 (Nat.le_refl _) (by decide) rfl)
            have hal : Below wv.heap.size wv (wv.alloc (.cells #[] 33)) := (Below.refl _ _).alloc (Nat.le_refl _) _
            have HO2 := Lib.hid (ownsRow_keep hOv hal)
            replace HBW := Lib.hid (HBW.out.tr hal)
            have RT := Lib.hid (fun (hc : ¬ cap = j) => Rd.subT (Rd.of_own HO2.out) j hjk)
            have RN := Lib.hid (fun (hc : cap = j) => (show Rd (wv.alloc (.cells #[] 33)) 3 (.slice (some ⟨g, 0, none⟩) (k - j) 0) (k - j) (tris (L.drop j)) from Rd.noneT (by omega) (by rw [List.length_drop, HLL.out]; omega)))
            have hdl : (L.drop j).length = k - j := by rw [List.length_drop, HLL.out]
            have HDL := Lib.hid hdl
            clear hdl hOv hal HBV HO HB
            have hsz1 : (wv.alloc (.cells #[] 33)).heap.size = wv.heap.size + 1 := by simp
            have HSZ1 := Lib.hid hsz1; clear hsz1
            by_cases hcj : cap = j
            · obtain rfl : k = j := by omega
              obtain rfl : k = cap := hcj.symm
              have RTT : Hid (Rd (wv.alloc (.cells #[] 33)) 3 (.slice (some ⟨g, 0, none⟩) 0 0) 0 (tris (L.drop k))) := Lib.hid (Rd.noneT rfl (by rw [List.length_drop, HLL.out]; omega))
              have HDL0 : Hid ((L.drop k).length = 0) := Lib.hid (by rw [HDL.out]; omega)
              clear RT RN HDL
              go_wp2_with (at_builtin; refine wpList_pushAllB rfl _ _ 28 33 rfl (.agg #[.int .i64 0, .int .i64 0, .int .i64 0]) 3 24 Try.underlying28 infoMessage rfl (by decide) (by decide) wv.heap.size _ 0 [] HLIT.out rfl _ 0 (tris (L.drop k)) RTT.out rfl (tris_one _) (by omega) (by omega) (by rw [HSZ1.out]; omega) ?_; intro v' w5 hown5 hbel5 hne5)
              rw [Nat.zero_add, List.nil_append] at hown5
              have hvn : v' ≠ .slice none 0 0 := fun e => by have := (hne5.1 e).1; simp at this
              obtain ⟨tb, tc, hve, htb, htbl, htc⟩ := own_some hown5 hvn
              subst hve
              have HT5 := Lib.hid hown5
              have HO5 := Lib.hid (own_block HO2.out (hbel5.block g hgl))
              have hlt5 : wv.heap.size < w5.heap.size := by have := hbel5.size; have := HSZ1.out; omega
              have HB5 := Lib.hid (HBW.out.trans (hbel5.mono (by have := hbel5.size; have := HBW.out.size; have := HSZ1.out; omega)))
              clear hown5 hbel5 hne5 hvn RTT HLIT HO2 HBW HSZ1
              have hal : Below w5.drew.heap.size w5.drew (w5.drew.alloc (.cells #[.int .i64 x0, .int .i64 x1, .int .i64 x2] 33)) := (Below.refl _ _).alloc (Nat.le_refl _) _
              have hOA := row_takeT (ownsRow_keep (w := w5.drew) HO5.out hal) k hjk
              have hTA := ownsRow_keep (w := w5.drew) HT5.out hal
              have hsA : (w5.drew.alloc (.cells #[.int .i64 x0, .int .i64 x1, .int .i64 x2] 33)).heap.size = w5.heap.size + 1 := by simp
              have HBA := Lib.hid (HB5.out.drew.trans (hal.mono HB5.out.size))
              obtain ⟨v9, w9, hr9, ho9, hg9, hn9, hb9⟩ := run_append_own_at (P := Try.prog) _ g 28 28 33 i0 (.agg #[.int .i64 0, .int .i64 0, .int .i64 0]) 3 24 Try.underlying28 Hi.out Hz0.out Hz1.out Hz2.out rfl (by decide) _ k _ hOA ⟨w5.heap.size, 0, none⟩ 1 1 (tris [(x0, x1, x2)]) rfl (cells_new3 w5.drew x0 x1 x2) (tris_one _) (by unfold maxLen; omega) (by omega) (by rw [hsA]; omega)
              have hT9 := row_kept hTA hg9 (fun q hq e => by simp only [Value.ownBlock, Option.some.injEq] at hq e; omega)
              have hne9 : v9 ≠ .slice none 0 0 := fun e => by have := (hn9.1 e).1; simp at this
              obtain ⟨v10, w10, hr10, ho10, hg10, hn10, hb10⟩ := run_append_own_at (P := Try.prog) _ g 28 28 33 i0 (.agg #[.int .i64 0, .int .i64 0, .int .i64 0]) 3 24 Try.underlying28 Hi.out Hz0.out Hz1.out Hz2.out rfl (by decide) _ (k + 1) _ ho9 ⟨tb, 0, none⟩ 0 tc (tris (L.drop k)) (by rw [tris_length, HDL0.out]) (fun q u hq => hT9.cells rfl q u hq) (tris_one _) (by unfold maxLen; omega) (by omega) (by have := hg9.size; rw [hsA] at this; omega)
              have hne10 : v10 ≠ .slice none 0 0 := fun e => hne9 (hn10.1 e).1
              have e10 : k + 1 + 0 = k + 1 := by omega
              rw [e10, ← tris_append, ← tris_append, List.append_assoc, show [(x0, x1, x2)] ++ L.drop k = (x0, x1, x2) :: L.drop k from rfl, ← HIN.out] at ho10
              obtain ⟨g10, c10, hv10, hg10a, hg10b, hc10⟩ := own_some ho10 hne10
              subst hv10
              have HO10 := Lib.hid (own_self ho10)
              have HB10 := Lib.hid ((HBA.out.grown hg9 HBA.out.size (fun q hq => Nat.le_trans hwg (hOA.lt q hq).1)).grown hg10 (HBA.out.grown hg9 HBA.out.size (fun q hq => Nat.le_trans hwg (hOA.lt q hq).1)).size (fun q hq => Nat.le_trans hwg (ho9.lt q hq).1))
              have HR9 := Lib.hid hr9; have HR10 := Lib.hid hr10
              have l0 := (HB5.out.cell (p := ⟨b1, o1 + k * 3, none⟩) hb1).trans c0
              have l1 := (HB5.out.cell (p := ⟨b1, o1 + k * 3 + 1, none⟩) hb1).trans c1
              have l2 := (HB5.out.cell (p := ⟨b1, o1 + k * 3 + 2, none⟩) hb1).trans c2
              clear hr9 hr10 ho9 ho10 hg9 hg10 hn9 hn10 hb9 hb10 hOA hTA hT9 hal hsA HBA HT5 HO5 hne9 hne10 e10 c0 c1 c2
              go_wp2_with fail
              go_region_law (first
                | (refine step_append_run rfl _ _ 28 rfl _ _ v9 rfl rfl HR9.out ?_)
                | (refine step_append_run rfl _ _ 28 rfl _ _ _ rfl rfl HR10.out ?_))
              all_goals
                go_wp2_with fail
                go_roundw
                case rel => exact ⟨k + 1, g10, c10, by omega, by go_num, rfl, by omega, hc10.1, hc10.2, HO10, HB10⟩
                case measure => simp [intOf]; omega
            · have RTT := Lib.hid (RT.out hcj)
              have hjc : j ≤ cap := by omega
              clear RT RN
              go_wp2_with (at_builtin; refine wpList_pushAllB rfl _ _ 28 33 rfl (.agg #[.int .i64 0, .int .i64 0, .int .i64 0]) 3 24 Try.underlying28 infoMessage rfl (by decide) (by decide) wv.heap.size _ 0 [] HLIT.out rfl _ (k - j) (tris (L.drop j)) RTT.out rfl (tris_one _) (by omega) (by omega) (by rw [HSZ1.out]; omega) ?_; intro v' w5 hown5 hbel5 hne5)
              rw [Nat.zero_add, List.nil_append] at hown5
              have hvn : v' ≠ .slice none 0 0 := fun e => by have := (hne5.1 e).1; simp at this
              obtain ⟨tb, tc, hve, htb, htbl, htc⟩ := own_some hown5 hvn
              subst hve
              have HT5 := Lib.hid hown5
              have HO5 := Lib.hid (own_block HO2.out (hbel5.block g hgl))
              have hlt5 : wv.heap.size < w5.heap.size := by have := hbel5.size; have := HSZ1.out; omega
              have HB5 := Lib.hid (HBW.out.trans (hbel5.mono (by have := hbel5.size; have := HBW.out.size; have := HSZ1.out; omega)))
              clear hown5 hbel5 hne5 hvn RTT HLIT HO2 HBW HSZ1
              have hal : Below w5.drew.heap.size w5.drew (w5.drew.alloc (.cells #[.int .i64 x0, .int .i64 x1, .int .i64 x2] 33)) := (Below.refl _ _).alloc (Nat.le_refl _) _
              have hOA := row_takeT (ownsRow_keep (w := w5.drew) HO5.out hal) j hjk
              have hTA := ownsRow_keep (w := w5.drew) HT5.out hal
              have hsA : (w5.drew.alloc (.cells #[.int .i64 x0, .int .i64 x1, .int .i64 x2] 33)).heap.size = w5.heap.size + 1 := by simp
              have HBA := Lib.hid (HB5.out.drew.trans (hal.mono HB5.out.size))
              obtain ⟨v9, w9, hr9, ho9, hg9, hn9, hb9⟩ := run_append_own_at (P := Try.prog) _ g 28 28 33 i0 (.agg #[.int .i64 0, .int .i64 0, .int .i64 0]) 3 24 Try.underlying28 Hi.out Hz0.out Hz1.out Hz2.out rfl (by decide) _ j _ hOA ⟨w5.heap.size, 0, none⟩ 1 1 (tris [(x0, x1, x2)]) rfl (cells_new3 w5.drew x0 x1 x2) (tris_one _) (by unfold maxLen; omega) (by omega) (by rw [hsA]; omega)
              have hT9 := row_kept hTA hg9 (fun q hq e => by simp only [Value.ownBlock, Option.some.injEq] at hq e; omega)
              have hne9 : v9 ≠ .slice none 0 0 := fun e => by have := (hn9.1 e).1; simp at this
              obtain ⟨v10, w10, hr10, ho10, hg10, hn10, hb10⟩ := run_append_own_at (P := Try.prog) _ g 28 28 33 i0 (.agg #[.int .i64 0, .int .i64 0, .int .i64 0]) 3 24 Try.underlying28 Hi.out Hz0.out Hz1.out Hz2.out rfl (by decide) _ (j + 1) _ ho9 ⟨tb, 0, none⟩ (k - j) tc (tris (L.drop j)) (by rw [tris_length, HDL.out]) (fun q u hq => hT9.cells rfl q u hq) (tris_one _) (by unfold maxLen; omega) (by omega) (by have := hg9.size; rw [hsA] at this; omega)
              have hne10 : v10 ≠ .slice none 0 0 := fun e => hne9 (hn10.1 e).1
              have e10 : j + 1 + (k - j) = k + 1 := by omega
              rw [e10, ← tris_append, ← tris_append, List.append_assoc, show [(x0, x1, x2)] ++ L.drop j = (x0, x1, x2) :: L.drop j from rfl, ← HIN.out] at ho10
              obtain ⟨g10, c10, hv10, hg10a, hg10b, hc10⟩ := own_some ho10 hne10
              subst hv10
              have HO10 := Lib.hid (own_self ho10)
              have HB10 := Lib.hid ((HBA.out.grown hg9 HBA.out.size (fun q hq => Nat.le_trans hwg (hOA.lt q hq).1)).grown hg10 (HBA.out.grown hg9 HBA.out.size (fun q hq => Nat.le_trans hwg (hOA.lt q hq).1)).size (fun q hq => Nat.le_trans hwg (ho9.lt q hq).1))
              have HR9 := Lib.hid hr9; have HR10 := Lib.hid hr10
              have l0 := (HB5.out.cell (p := ⟨b1, o1 + k * 3, none⟩) hb1).trans c0
              have l1 := (HB5.out.cell (p := ⟨b1, o1 + k * 3 + 1, none⟩) hb1).trans c1
              have l2 := (HB5.out.cell (p := ⟨b1, o1 + k * 3 + 2, none⟩) hb1).trans c2
              clear hr9 hr10 ho9 ho10 hg9 hg10 hn9 hn10 hb9 hb10 hOA hTA hT9 hal hsA HBA HT5 HO5 hne9 hne10 e10 c0 c1 c2
              go_wp2_with fail
              go_region_law (first
                | (refine step_append_run rfl _ _ 28 rfl _ _ v9 rfl rfl HR9.out ?_)
                | (refine step_append_run rfl _ _ 28 rfl _ _ _ rfl rfl HR10.out ?_))
              all_goals
                go_wp2_with fail
                go_roundw
                case rel => exact ⟨k + 1, g10, c10, by omega, by go_num, rfl, by omega, hc10.1, hc10.2, HO10, HB10⟩
                case measure => simp [intOf]; omega
      · obtain rfl : k = n := by omega
        have h9 := HO.out
        rw [HT.out] at h9
        have HO9 := Lib.hid ((Ow.of_row h9).mono hwg (Nat.le_refl _))
        clear h9
        go_wp2_with fail
        go_ret
        exact ⟨_, rfl, by unfold OwMessageS; rw [HSL.out]; exact HO9.out, HB.out⟩
  · rw [sortMsgs, if_neg hs]
    clear HR
    generalize ys.length = n at *
    have hs' : decide ((n : Int) ≤ 2000) = false := by simp; omega
    have h0 : 0 < n := by omega
    go_enter Try.func19, Try.ntmps19
    go_wp2_with fail
    refine wp_loop_rounds 1 ?_
    rw [rounds_succ]
    go_wp2_with fail
    go_ret
    exact ⟨_, rfl, Ow.nil _ _ _ _ _ _, (Below.refl _ _).alloc (Nat.le_refl _) _⟩
end Go.Proofs.Ytgdggkhdollieaa
