/-
  Frames one behind the other: ScanFrames, the reference's function.
-/
import Derived.Test.YtdflpildopefaaaReadF
import Derived.Test.YtdflpildopefaaaScanP
import Derived.Test.YtdflpildopefaaaIntSS
namespace Go.Proofs.Ytdflpildopefaaa
open Go.RowKit
set_option linter.unusedVariables false

/-- What ScanFrames hands back. -/
def scanB (xs : List Int) : List (List Int) := if bytesOk xs = true then (scan xs).1 else []
def scanN (xs : List Int) : Int := if bytesOk xs = true then ((scan xs).2 : Int) else -1
theorem scanB_yes {xs : List Int} (h : bytesOk xs = true) : scanB xs = (scan xs).1 := by rw [scanB, if_pos h]
theorem scanN_yes {xs : List Int} (h : bytesOk xs = true) : scanN xs = ((scan xs).2 : Int) := by rw [scanN, if_pos h]
theorem scanB_no {xs : List Int} (h : bytesOk xs = false) : scanB xs = [] := by rw [scanB, if_neg (by simp [h])]
theorem scanN_no {xs : List Int} (h : bytesOk xs = false) : scanN xs = -1 := by rw [scanN, if_neg (by simp [h])]
def RetS (w : World) (xs : List Int) (e : Ending) (w' : World) : Prop :=
  ∃ v, e = .returned (.tuple #[v, .int .i64 (scanN xs)]) ∧ OwIntSS w.heap.size w'.heap.size w' v (scanB xs) ∧ Below w.heap.size w w'
theorem RetS.no {w w' : World} {xs : List Int} (h : bytesOk xs = false) (hb : Below w.heap.size w w') {v : Value} (ho : OwIntSS w.heap.size w'.heap.size w' v []) : RetS w xs (.returned (.tuple #[v, .int .i64 (-1)])) w' :=
  ⟨_, by rw [scanN_no h], by rw [scanB_no h]; exact ho, hb⟩
theorem RetS.yes {w w' : World} {xs : List Int} {k : Nat} (h : bytesOk xs = true) (hg : Got xs k) (hf : frameAt xs (scanTo xs k).2 = none) (hb : Below w.heap.size w w') {v : Value} (ho : OwIntSS w.heap.size w'.heap.size w' v (scanTo xs k).1) : RetS w xs (.returned (.tuple #[v, .int .i64 ((scanTo xs k).2 : Int)])) w' := by
  have e := hg.done hf
  exact ⟨_, by rw [scanN_yes h, e], by rw [scanB_yes h, e]; exact ho, hb⟩
theorem OwIntSS.form {lo hi : Nat} {w : World} {v : Value} {xss : List (List Int)} (h : OwIntSS lo hi w v xss) : ∃ a c, v = .slice a xss.length c := by
  obtain ⟨a, c, hv, _, _⟩ := h.rd.form; exact ⟨a, c, hv⟩
theorem Got.len {xs : List Int} {k : Nat} (h : Got xs k) : (scanTo xs k).1.length ≤ xs.length := by obtain ⟨h1, h2, h3⟩ := h; omega

theorem wpList_pushRow {P : Program} {w : World} {ops : Array Oper} {rest : List Oper} {o : Oper} {a : Act} {Q : Exit → Act → World → Prop} (hw : Region.wanted o (yielded ops a.tmps) = true) (s x : Operand) (t : TypeId)
    (ho : o.op = .call { callee := .builtin .append, args := #[s, x], argTypes := #[t, t] })
    (ht : P.underlying t = some (.slice 23)) (hinfo : (P.info? 23).map (fun i => (i.zero, i.size, i.bytes)) = some (some (.slice none 0 0), 1, 24))
    (lo S : Nat) (v u : Value) (xss : List (List Int)) (xs : List Int) (hown : OwIntSS lo S w v xss) (hu : OwIntS S w.heap.size w u xs) (hu1 : u.oneCell' = true) (hs : a.eval s = v) (hx : a.eval x = .slice (some ⟨w.heap.size, 0, none⟩) 1 1)
    (hn : xss.length ≤ 1099511627776) (hlo : lo ≤ S) (hS : S ≤ w.heap.size)
    (h : ∀ v' w', OwIntSS lo w'.heap.size w' v' (xss ++ [xs]) → Below lo w w' → (∃ a c, v' = .slice a (xss.length + 1) c) → wpList P ops Q rest (a.put o.dst v') w') : wpList P ops Q (o :: rest) a (w.alloc (.cells #[u] 23)) := by
  refine wpList_step fun K hK => ?_
  rw [if_pos hw]
  exact wp_pushRow s x t ho ht hinfo lo S v u xss xs hown hu hu1 hs hx hn hlo hS fun v' w' h1 h2 h3 => hK _ _ (h v' w' h1 h2 h3)

set_option maxRecDepth 100000 in
set_option maxHeartbeats 2000000 in
theorem specScanFrames_any (w : World) (va : Value) (xs : List Int) (ha : Rd w 1 va xs.length (ints xs)) (hs : xs.length ≤ 1099511627776) :
    Calls Try.prog 31 #[va] w (RetS w xs) := by
  have C := Lib.hid fun wx h => specBytesValid_any wx va xs h
  have HR := Lib.hid ha
  have CR := Lib.hid fun (wx : World) (p : Nat) (h : Rd wx 1 va xs.length (ints xs)) (hp : p ≤ xs.length) => specReadFrame_any wx va xs (p : Int) h hs ⟨by omega, by omega⟩
  obtain ⟨a, c, rfl, hc, hm⟩ := ha.form
  clear ha
  by_cases hok : bytesOk xs = true
  · have HOK := Lib.hid hok
    have HRF : Hid (∀ p : Nat, readF xs (p : Int) = frameAt xs p) := Lib.hid fun p => readF_at hok
    rw [hok] at C
    have HY := Lib.hid fun (w' : World) k h1 h2 h3 v h4 => @RetS.yes w w' xs k hok h1 h2 h3 v h4
    have HSU := Lib.hid fun k (h : Got xs k) b q hf => @Got.succ xs k h b q hf
    have HST := Lib.hid fun k b q hf => @scanTo_some xs k b q hf
    have HFL := Lib.hid fun p b q hf => @frameAt_length xs p b q hf
    clear hok
    generalize hn : xs.length = n at *
    have HN := Lib.hid hn; clear hn
    go_enter Try.func31, Try.ntmps31
    go_wp2_with fail
    refine (C.out _ (HR.out.keep ((Below.refl _ _).alloc (Nat.le_refl _) _))).mono ?_
    rintro e w1 ⟨rfl, hb1⟩
    have hb : Below w.heap.size w (w.alloc (.cells #[] 23)) := (Below.refl _ _).alloc (Nat.le_refl _) _
    have HO0 : Hid (OwIntSS w.heap.size w1.heap.size w1 (.slice (some ⟨w.heap.size, 0, none⟩) 0 0) []) := Lib.hid ((OwIntSS.empty (lo := w.heap.size) (hi := (w.alloc (.cells #[] 23)).heap.size) (Nat.le_refl _) (by simp)).keep hb1 |>.mono (Nat.le_refl _) hb1.size)
    have HB0 := Lib.hid (hb.tr hb1); clear hb hb1 C
    go_wp2_with fail
    go_loopw [4, 5] (fun v i wr => ∃ k : Nat, i = .int .i64 ((scanTo xs k).2 : Int) ∧ Hid (Got xs k) ∧ Hid (OwIntSS w.heap.size wr.heap.size wr v (scanTo xs k).1) ∧ Hid (Below w.heap.size w wr)) (fun _ i _ => n - (intOf i).toNat)
    case atStart => exact ⟨0, rfl, Lib.hid (Got.zero _), HO0, HB0⟩
    case round =>
      clear HO0 HB0
      obtain ⟨k, rfl, HG, HO, HB⟩ := hrel
      obtain ⟨a0, c0, ev⟩ := HO.out.form
      subst ev
      have hgl : (scanTo xs k).2 ≤ n := by have := HG.out.2.2; rw [HN.out] at this; exact this
      have hgm : (scanTo xs k).1.length ≤ n := by have := HG.out.len; rw [HN.out] at this; exact this
      have CRk := CR.out wr (scanTo xs k).2 (HR.out.keep HB.out) hgl
      rw [HRF.out] at CRk
      cases hf : frameAt xs (scanTo xs k).2 with
      | none =>
        rw [hf] at CRk
        have HE := Lib.hid (HY.out (k := k))
        have HF := Lib.hid hf
        replace CRk := Lib.hid CRk
        generalize hp : (scanTo xs k).2 = p at *
        have HP := Lib.hid hp; clear hp hf
        go_wp2_with fail
        refine CRk.out.mono ?_
        rintro e w2 ⟨v2, rfl, ho2, hb2⟩
        have e1 : rfNext none = 0 := rfl
        simp only [e1, Option.isSome_none]
        have HO2 := Lib.hid (((HO.out.keep hb2).mono (Nat.le_refl _) hb2.size))
        have HB2 := Lib.hid (HB.out.trans (hb2.mono HB.out.size))
        obtain ⟨a3, c3, rfl, _, _⟩ := ho2.rd.form
        clear ho2 hb2 CRk e1
        go_wp2_with fail
        go_ret2
        exact HE.out _ HG.out HF.out HB2.out _ HO2.out
      | some f =>
        obtain ⟨body, q⟩ := f
        rw [hf] at CRk
        have HFLk := HFL.out _ _ _ hf
        have HSUk := Lib.hid (HSU.out k HG.out body q hf)
        have HSTk := Lib.hid (HST.out k body q hf)
        replace CRk := Lib.hid CRk
        clear hf
        obtain ⟨f1, f2, f3, f4, f5⟩ := HFLk
        have e1 : rfNext (some (body, q)) = (q : Int) := rfl
        have e2 : rfBody (some (body, q)) = body := rfl
        generalize hp : (scanTo xs k).2 = p at *
        have HP := Lib.hid hp; clear hp
        have HQ : Hid ((scanTo xs (k + 1)).2 = q) := Lib.hid (by rw [HSTk.out])
        have HBD : Hid ((scanTo xs (k + 1)).1 = (scanTo xs k).1 ++ [body]) := Lib.hid (by rw [HSTk.out])
        generalize hss : (scanTo xs k).1 = ss at *
        have HSS := Lib.hid hss; clear hss
        go_wp2_with fail
        refine CRk.out.mono ?_
        rintro e w2 ⟨v2, rfl, ho2, hb2⟩
        simp only [e1, Option.isSome_some]
        rw [e2] at ho2
        obtain ⟨a3, c3, rfl, _, _⟩ := ho2.rd.form
        have HU := Lib.hid ho2
        have HO2 := Lib.hid (HO.out.keep hb2)
        have HB2 := Lib.hid (HB.out.trans (hb2.mono HB.out.size))
        have hz2 := hb2.size
        have hzr := HB.out.size
        clear ho2 hb2 CRk e1 e2 HO
        go_wp2_with (at_builtin; refine wpList_pushRow rfl _ _ 30 rfl Try.underlying30 infoRow w.heap.size wr.heap.size _ (.slice a3 body.length c3) ss body HO2.out HU.out rfl rfl rfl (by omega) hzr hz2 ?_; rintro v5 w5 hown5 hbel5 ⟨a5, c5, rfl⟩; have HO5 := Lib.hid hown5; have HB5 := Lib.hid (HB2.out.trans hbel5); clear hown5 hbel5)
        go_roundw
        case rel =>
          refine ⟨k + 1, by rw [HQ.out, f5]; go_num, HSUk, ?_, HB5⟩
          rw [HBD.out]; exact HO5
        case measure => simp [intOf]; omega
  · have hok : bytesOk xs = false := by simpa using hok
    have HY := Lib.hid fun (w' : World) h v h4 => @RetS.no w w' xs hok h v h4
    rw [hok] at C
    clear hok CR
    go_enter Try.func31, Try.ntmps31
    go_wp2_with fail
    refine (C.out _ (HR.out.keep ((Below.refl _ _).alloc (Nat.le_refl _) _))).mono ?_
    rintro e w1 ⟨rfl, hb1⟩
    have hb : Below w.heap.size w (w.alloc (.cells #[] 23)) := (Below.refl _ _).alloc (Nat.le_refl _) _
    have HO0 : Hid (OwIntSS w.heap.size w1.heap.size w1 (.slice (some ⟨w.heap.size, 0, none⟩) 0 0) []) := Lib.hid ((OwIntSS.empty (lo := w.heap.size) (hi := (w.alloc (.cells #[] 23)).heap.size) (Nat.le_refl _) (by simp)).keep hb1 |>.mono (Nat.le_refl _) hb1.size)
    have HB0 := Lib.hid (hb.tr hb1); clear hb hb1 C
    go_wp2_with fail
    go_ret2
    exact HY.out _ HB0.out _ HO0.out
end Go.Proofs.Ytdflpildopefaaa
