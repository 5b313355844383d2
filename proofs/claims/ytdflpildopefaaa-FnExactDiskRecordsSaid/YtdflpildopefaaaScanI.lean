/-
  Frames one behind the other: ScanFrames, the program's function (a range over a function).
-/
import Derived.Test.YtdflpildopefaaaScanS
import Derived.Test.YtdflpildopefaaaRowS
import Derived.RangeFuncNested
import Derived.RangeFuncBound
import Derived.RangeFuncCalls
import Derived.RangeFuncLeaves
import Derived.RangeFuncBox
import Derived.Shelf.Abstract
import Derived.Shelf.RegionOpen
import Derived.OwnWalkIn
import Derived.TacticsInMore
import Derived.LoopNIn
import Derived.LoopIn
namespace Go.Proofs.Ytdflpildopefaaa
open Go.RowKit Go.Shelf
set_option linter.unusedVariables false
attribute [local go_sem] Oper.semAt_some

/-! A step in a round that is no defer statement is a step as everywhere. -/
theorem wpIn_of_wp {P : Program} {l n : Nat} {o : Oper} {a : Act} {w : World} {K : Act → World → Prop} {Q : Exit → Act → World → Prop} (hd : ∀ c, o.op ≠ .defer c) (h : o.wp P a w K Q) : o.wpIn (Fence.wide.inRound l) n P a w K Q := by
  refine ⟨fun _ _ => trivial, ?_⟩
  show o.uponIn _ _ _ _ _ _ ((Oper.semAt (some l) a.eval o).run P w)
  rw [Oper.semAt_eq (some l) _ _ hd]
  unfold Oper.wp at h
  generalize (execOp a.eval o).run P w = r at *
  cases r with
  | ok nx w' =>
    cases nx <;> simp only [Oper.upon] at h <;> simp only [Oper.uponIn]
    case enter f args =>
      refine ⟨fun hh => (by cases hh), CallsIn.inRound l ((callsIn_wide (n := n - 1)).2 (h.mono fun e w'' he => ?_))⟩
      cases e <;> exact he
    case row row args =>
      refine ⟨fun hh => (by cases hh), fun c cs _ => ?_⟩
      obtain ⟨v, w'', hr, hs⟩ := h c cs
      exact ⟨v, w'', hr, stepsIn_wide.2 hs⟩
    all_goals first | exact h | exact h.elim
  | halt x w' => cases x <;> simp only [Oper.upon] at h <;> simp only [Oper.uponIn] <;> first | exact h | exact h.elim
theorem wpAnyIn_of_wpAny {P : Program} {l n : Nat} {md : Region.Mode} {ops : Array Oper} {Q : Exit → Act → World → Prop} (hd : ∀ (i : Nat) o, ops[i]? = some o → ∀ c, o.op ≠ .defer c) (hQ : ¬ LetsOut Q) :
    ∀ (fuel : Nat) (listed : Array Bool) (a : Act) (w : World), wpAny P md ops Q fuel listed a w → wpAnyIn (Fence.wide.inRound l) n P md ops Q fuel listed a w
  | 0, _, _, _, h => h
  | fuel + 1, listed, a, w, h => by
    refine ⟨h.1, fun i hi => ?_⟩
    have h2 := h.2 i hi
    unfold wpOp at h2
    unfold wpOpIn
    cases ho : ops[i]? with
    | none => simp only [ho] at h2 ⊢; exact wpAnyIn_of_wpAny hd hQ fuel _ _ _ h2
    | some o =>
      simp only [ho] at h2 ⊢
      split
      · rename_i hw
        simp only [hw, if_true] at h2
        rcases h2 with h2 | h2
        · exact wpIn_of_wp (hd i o ho) (Oper.wp_mono (fun a w hk => wpAnyIn_of_wpAny hd hQ fuel _ a w hk) h2)
        · exact absurd h2.2 hQ
      · rename_i hw
        simp only [hw] at h2
        exact ⟨fun _ _ => trivial, wpAnyIn_of_wpAny hd hQ fuel _ _ _ h2⟩
def noDeferB (ops : Array Oper) : Bool := ops.toList.all fun o => match o.op with | .defer _ => false | _ => true
theorem noDefer {ops : Array Oper} (h : noDeferB ops = true) : ∀ (i : Nat) o, ops[i]? = some o → ∀ c, o.op ≠ .defer c := by
  intro i o ho c hc
  simp only [noDeferB, List.all_eq_true] at h
  have := h o (by rw [← Array.getElem?_toList] at ho; exact List.mem_of_getElem? ho)
  rw [hc] at this; cases this
theorem step_pushRowK {P : Program} {w : World} {ops : Array Oper} {o : Oper} {a : Act} {K : Act → World → Prop} {Q : Exit → Act → World → Prop} {E : Prop} (hw : Region.wanted o (yielded ops a.tmps) = true) (s x : Operand) (t : TypeId)
    (ho : o.op = .call { callee := .builtin .append, args := #[s, x], argTypes := #[t, t] })
    (ht : P.underlying t = some (.slice 23)) (hinfo : (P.info? 23).map (fun i => (i.zero, i.size, i.bytes)) = some (some (.slice none 0 0), 1, 24))
    (lo S : Nat) (v u : Value) (xss : List (List Int)) (xs : List Int) (hown : OwIntSS lo S w v xss) (hu : OwIntS S w.heap.size w u xs) (hu1 : u.oneCell' = true) (hs : a.eval s = v) (hx : a.eval x = .slice (some ⟨w.heap.size, 0, none⟩) 1 1)
    (hn : xss.length ≤ 1099511627776) (hlo : lo ≤ S) (hS : S ≤ w.heap.size)
    (h : ∀ v' w', OwIntSS lo w'.heap.size w' v' (xss ++ [xs]) → Below lo w w' → (∃ a c, v' = .slice a (xss.length + 1) c) → Oth w w' → K (a.put o.dst v') w') :
    if Region.wanted o (yielded ops a.tmps) = true then Oper.wp P o a (w.alloc (.cells #[u] 23)) K Q else E := by
  rw [if_pos hw]
  exact wp_pushRowK s x t ho ht hinfo lo S v u xss xs hown hu hu1 hs hx hn hlo hS h

/-- A frame that has come: the value of its record, the record, the place behind it. -/
abbrev FrX (w0 : World) : Type := { x : Value × List Int × Nat // Rd w0 1 x.1 x.2.1.length (ints x.2.1) ∧ x.2.1.length ≤ 100 ∧ x.2.2 ≤ 2000 }
abbrev encFr (w0 : World) (x : FrX w0) : Array Value := #[x.1.1, .int .i64 (x.1.2.2 : Int)]
def bodsF {w0 : World} (l : List (FrX w0)) : List (List Int) := l.map (·.1.2.1)
def lastF {w0 : World} (l : List (FrX w0)) : Nat := (l.getLast?.map (·.1.2.2)).getD 0
theorem bodsF_snoc {w0 : World} (l : List (FrX w0)) (x : FrX w0) : bodsF (l ++ [x]) = bodsF l ++ [x.1.2.1] := by simp [bodsF]
theorem lastF_snoc {w0 : World} (l : List (FrX w0)) (x : FrX w0) : lastF (l ++ [x]) = x.1.2.2 := by simp [lastF]
def SF {w0 : World} (xs : List Int) (ys : List (FrX w0)) : Prop := ∃ k, Got xs k ∧ frameAt xs (scanTo xs k).2 = none ∧ bodsF ys = (scanTo xs k).1 ∧ lastF ys = (scanTo xs k).2
/-- What a round keeps: all that was there at the start; the list's box. -/
def KpS (n₀ B : Nat) (W W' : World) : Prop := Below n₀ W W' ∧ W'.heap[B]? = W.heap[B]?

theorem framesOf_any (w : World) (a : Option Addr) (n c : Nat) : Calls Try.prog 67 #[.slice a n c] w fun e w' => e = .returned (.func (.func 80) #[] #[.pointer (some ⟨w.heap.size, 0, none⟩)]) ∧ w' = w.alloc (.cells #[.slice a n c] 23) := by
  go_enter Try.func67, Try.ntmps67
  go_wp2_with fail
  go_ret
  exact ⟨rfl, rfl⟩

set_option maxRecDepth 100000 in
set_option maxHeartbeats 4000000 in
theorem frames_stops (w : World) (va : Value) (xs : List Int) (hR : Rd w 1 va xs.length (ints xs)) (hok : bytesOk xs = true) (n : Nat) (hn : 1 ≤ n) (B : Nat) (W0 : World) (hb : Below w.heap.size w W0)
    (hbox : W0.heap[B]? = some (.cells #[va] 23 (0, 0))) :
    SeqStopsK Fence.wide n Try.prog 80 #[.pointer (some ⟨B, 0, none⟩)] (encFr w) (KpS w.heap.size B) (SF xs) (fun _ => True) xs.length W0 := fun l J Jx W hW hJ hJx hY h0 => by
  have HRA := Lib.hid hR
  obtain ⟨a, c, rfl, hc, hm⟩ := hR.form
  have CF := Lib.hid fun wx (p : Nat) (h : Rd wx 1 (.slice a xs.length c) xs.length (ints xs)) (hp : p ≤ xs.length) => frameAt_any wx (.slice a xs.length c) xs (p : Int) h hok ⟨by omega, by have := (bytesOk_rng hok).1; omega⟩
  have HRF : Hid (∀ p : Nat, readF xs (p : Int) = frameAt xs p) := Lib.hid fun p => readF_at hok
  have hl2 := (bytesOk_rng hok).1
  have HSU := Lib.hid fun k (h : Got xs k) b q hf => @Got.succ xs k h b q hf
  have HST := Lib.hid fun k b q hf => @scanTo_some xs k b q hf
  have HFL := Lib.hid fun p b q hf => @frameAt_length xs p b q hf
  have HY := Lib.hid hY; have HJ := Lib.hid hJ
  have HB0 := Lib.hid (hb.trans (hW.mono hb.size))
  have HX0 := Lib.hid ((hW.block B (box_lt hbox)).trans hbox)
  have HJ0 := Lib.hid h0
  have HWS := hW.size
  clear hY hJ hJx hb hW hbox h0 hR hok
  have HLE : Hid (∀ k, Got xs k → (scanTo xs k).2 ≤ xs.length ∧ (scanTo xs k).1.length ≤ (scanTo xs k).2) := Lib.hid fun k ⟨h1, h2, h3⟩ => ⟨h3, by omega⟩
  generalize hln : xs.length = ln at *
  have HLN := Lib.hid hln; clear hln
  refine callsIn_of_wp Try.func80 rfl trivial ?_ rfl
  simp only [Try.ntmps80, List.size_toArray, List.length_cons, List.length_nil, Nat.reduceAdd, Nat.reduceSub, Array.replicate_succ, Array.replicate_zero, List.push_toArray, List.append_toArray, List.nil_append, List.cons_append]
  gi_wp2
  gi_loopw [3] (fun p wr => ∃ (k : Nat) (pre : List (FrX w)), p = .int .i64 ((scanTo xs k).2 : Int) ∧ Hid (Got xs k ∧ bodsF pre = (scanTo xs k).1 ∧ lastF pre = (scanTo xs k).2) ∧ Hid (J pre wr) ∧ Hid (Below w.heap.size w wr) ∧ Hid (wr.heap[B]? = some (.cells #[.slice a ln c] 23 (0, 0))))
    (fun p _ => ln - (intOf p).toNat)
  case atStart => exact ⟨0, [], rfl, Lib.hid ⟨Got.zero _, rfl, rfl⟩, HJ0, HB0, HX0⟩
  case round =>
    clear HJ0 HB0 HX0
    obtain ⟨k, pre, rfl, HG, HJp, HB, HX⟩ := hrel
    have hle := HLE.out k HG.out.1
    have CFk := CF.out wr (scanTo xs k).2 (HRA.out.keep HB.out) hle.1
    rw [HRF.out] at CFk
    have hcb := box_cell HX.out 0 _ rfl
    cases hf : frameAt xs (scanTo xs k).2 with
    | none =>
      rw [hf] at CFk
      have HF := Lib.hid hf
      replace CFk := Lib.hid CFk
      generalize hp : (scanTo xs k).2 = p at *
      have HP := Lib.hid hp; clear hp hf
      have e1 : rfNext none = 0 := rfl
      have e2 : rfBody none = [] := rfl
      gi_wp2
      refine ⟨trivial, ((callsIn_wide (n := n - 1)).2 CFk.out).mono ?_⟩
      rintro e w2 ⟨v2, rfl, hv2, hb2⟩
      have hr2 := hv2 _ (by rw [HLN.out]; exact HRA.out.keep HB.out)
      obtain ⟨a3, c3, rfl, _, _⟩ := hr2.form
      simp only [e1, e2, Option.isSome_none]
      have HJ2 := Lib.hid (HJ.out pre wr w2 none HJp.out ⟨hb2.os, hb2.tape, hb2.output, hb2.size, fun k hk _ => hb2.block k hk⟩ (fun r h => by cases h))
      clear hv2 hb2 hr2 CFk e1 e2
      gi_wp2
      refine ⟨fun _ h => (by cases h), ?_⟩
      gi_wp2
      refine bodyPost_ret (results_none rfl _ _ _) rfl ?_
      exact ⟨⟨_, rfl⟩, .inl ⟨pre, ⟨k, HG.out.1, by rw [HP.out]; exact HF.out, HG.out.2.1, by rw [HG.out.2.2, HP.out]⟩, HJ2.out⟩⟩
    | some f =>
      obtain ⟨body, q⟩ := f
      rw [hf] at CFk
      have HFLk := HFL.out _ _ _ hf
      have HSUk := Lib.hid (HSU.out k HG.out.1 body q hf)
      have HSTk := Lib.hid (HST.out k body q hf)
      replace CFk := Lib.hid CFk
      clear hf
      obtain ⟨f1, f2, f3, f4, -⟩ := HFLk
      have e1 : rfNext (some (body, q)) = (q : Int) := rfl
      have e2 : rfBody (some (body, q)) = body := rfl
      have HQ : Hid ((scanTo xs (k + 1)).2 = q) := Lib.hid (by rw [HSTk.out])
      have HBD : Hid ((scanTo xs (k + 1)).1 = (scanTo xs k).1 ++ [body]) := Lib.hid (by rw [HSTk.out])
      have HLEN : Hid (pre.length < ln) := Lib.hid (by
        have h1 : pre.length = (scanTo xs k).1.length := by rw [← HG.out.2.1]; simp [bodsF]
        omega)
      clear HSTk
      generalize hp : (scanTo xs k).2 = p at *
      have HP := Lib.hid hp; clear hp
      gi_wp2
      refine ⟨trivial, ((callsIn_wide (n := n - 1)).2 CFk.out).mono ?_⟩
      rintro e w2 ⟨v2, rfl, hv2, hb2⟩
      rw [e2] at hv2
      have hr2 := hv2 w (by rw [HLN.out]; exact HRA.out)
      obtain ⟨a3, c3, rfl, _, _⟩ := hr2.form
      simp only [e1, Option.isSome_some]
      have HJ2 := HJ.out pre wr w2 none HJp.out ⟨hb2.os, hb2.tape, hb2.output, hb2.size, fun k hk _ => hb2.block k hk⟩ (fun r h => by cases h)
      obtain ⟨fn, tmps, assign, bod, hy, hRR⟩ := HY.out pre ⟨(.slice a3 body.length c3, body, q), hr2, f1, show q ≤ 2000 by omega⟩ w2 HJ2 HLEN.out
      replace HJ2 := Lib.hid HJ2
      dsimp only [encFr] at hy
      have HB2 := Lib.hid (HB.out.trans (hb2.mono HB.out.size))
      have HX2 := Lib.hid (box_keep HX.out hb2)
      have HRR := Lib.hid hRR
      clear hv2 hb2 CFk hRR
      gi_wp2
      refine HRR.out.mono ?_
      rintro e W3 (⟨rfl, hJ3, hk3, hx3⟩ | ⟨rfl, hJx3⟩)
      · have HB3 := Lib.hid (HB2.out.trans hk3)
        have HX3 := Lib.hid (hx3.trans HX2.out)
        have HJ3 := Lib.hid hJ3
        clear hk3 hx3 hJ3
        gi_wp2
        go_roundw
        case rel =>
          refine ⟨k + 1, _, by rw [HQ.out], Lib.hid ⟨HSUk.out, ?_, ?_⟩, HJ3, HB3, HX3⟩
          · rw [bodsF_snoc, HG.out.2.1, HBD.out]
          · rw [lastF_snoc, HQ.out]
        case measure => simp [intOf]; omega
      · have HJX := Lib.hid hJx3
        clear hJx3
        gi_wp2
        refine bodyPost_ret (results_none rfl _ _ _) rfl ?_
        exact ⟨⟨_, rfl⟩, .inr ⟨_, trivial, HJX.out⟩⟩

def Cel (w w' : World) : Prop := ∀ (k : Nat) cs t f, w.heap[k]? = some (.cells cs t f) → w'.heap[k]? = some (.cells cs t f)
theorem Ow.cells {lo hi : Nat} {w w' : World} {e : TypeId} {size n : Nat} {v : Value} {cs : List Value} (h : Ow lo hi w e size v n cs) (hk : Cel w w') : Ow lo hi w' e size v n cs := by
  rcases h with h | ⟨h1, g, cap, cur, rfl, hb, hh, hg, r⟩
  · exact .inl h
  · exact .inr ⟨h1, g, cap, cur, rfl, hb, hh, hk _ _ _ _ hg, r⟩
theorem OwIntSS.cells {lo hi : Nat} {w w' : World} {v : Value} {xss : List (List Int)} (h : OwIntSS lo hi w v xss) (hk : Cel w w') : OwIntSS lo hi w' v xss := by
  rcases h with h | ⟨g, cap, vs, A, M, rfl, h⟩
  · exact .inl h
  · refine .inr ⟨g, cap, vs, A, M, rfl, h.glo, h.ghi, ?_, fun i hi => ?_, h.apart⟩
    · refine ⟨h.row.1, ?_⟩
      rcases h.row.2 with h2 | ⟨g', cap', cur, e, hb, hg, r⟩
      · exact .inl h2
      · exact .inr ⟨g', cap', cur, e, hb, hk _ _ _ _ hg, r⟩
    · obtain ⟨h1, u, hu, ho⟩ := h.each i hi
      exact ⟨h1, u, hu, ho.cells hk⟩
theorem cel_turn {B : Nat} {W W' : World} {row : Option Nat} (hg : W.grownBy W' row) (hr : ∀ r, row = some r → B ≤ r ∧ ∃ o : Obj, W.heap[r]? = some o ∧ o.isCells = false) : Cel W W' := by
  intro k cs t f hk
  refine (hg.block k (box_lt hk) ?_).trans hk
  intro e
  obtain ⟨_, o, ho, hc⟩ := hr k e.symm
  rw [hk] at ho; cases ho; cases hc

set_option maxRecDepth 100000 in
set_option maxHeartbeats 4000000 in
theorem implScanFrames_any (w : World) (va : Value) (xs : List Int) (ha : Rd w 1 va xs.length (ints xs)) (hs : xs.length ≤ 1099511627776) :
    Calls Try.prog 33 #[va] w (RetS w xs) := by
  have C := Lib.hid (implBytesValid_any w va xs ha)
  have HR := Lib.hid ha
  obtain ⟨a, c, rfl, hc, hm⟩ := ha.form
  clear ha
  by_cases hok : bytesOk xs = true
  · have HST := Lib.hid fun W0 B n hn hb hbox => frames_stops w _ xs HR.out hok n hn B W0 hb hbox
    have HY := Lib.hid fun (w' : World) k h1 h2 h3 v h4 => @RetS.yes w w' xs k hok h1 h2 h3 v h4
    have hl2 := (bytesOk_rng hok).1
    rw [hok] at C
    clear hok
    generalize hln : xs.length = ln at *
    have HLN := Lib.hid hln; clear hln
    refine (callsIn_wide (n := 3)).1 ?_
    refine callsIn_of_wp_marks Try.func33 rfl trivial ?_ rfl
    simp only [Try.ntmps33, List.size_toArray, List.length_cons, List.length_nil, Nat.reduceAdd, Nat.reduceSub, Array.replicate_succ, Array.replicate_zero, List.push_toArray, List.append_toArray, List.nil_append, List.cons_append]
    gi_wp2
    refine ⟨trivial, ((callsIn_wide (n := 2)).2 C.out).mono ?_⟩
    rintro e w1 ⟨rfl, hb1⟩
    have HB1 := Lib.hid hb1
    have hs1 := hb1.size
    clear hb1 C
    gi_wp2
    refine ⟨trivial, ((callsIn_wide (n := 2)).2 (framesOf_any _ a ln c)).mono ?_⟩
    rintro e w2 ⟨rfl, rfl⟩
    gi_wp2
    have X1 : Hid ((((w1.alloc (.cells #[.slice none 0 0] 30)).alloc (.cells #[.int .i64 0] 3)).alloc (.cells #[.slice a ln c] 23)).heap[w1.heap.size]? = some (.cells #[.slice none 0 0] 30 (0, 0))) := Lib.hid (box_alloc (box_alloc (heap_alloc_new w1 _) _) _)
    have X2 : Hid ((((w1.alloc (.cells #[.slice none 0 0] 30)).alloc (.cells #[.int .i64 0] 3)).alloc (.cells #[.slice a ln c] 23)).heap[w1.heap.size + 1]? = some (.cells #[.int .i64 0] 3 (0, 0))) := Lib.hid (box_alloc (by have := heap_alloc_new (w1.alloc (.cells #[.slice none 0 0] 30)) (.cells #[.int .i64 0] 3); simpa using this) _)
    have X3 : Hid ((((w1.alloc (.cells #[.slice none 0 0] 30)).alloc (.cells #[.int .i64 0] 3)).alloc (.cells #[.slice a ln c] 23)).heap[w1.heap.size + 1 + 1]? = some (.cells #[.slice a ln c] 23 (0, 0))) := Lib.hid (by have := heap_alloc_new ((w1.alloc (.cells #[.slice none 0 0] 30)).alloc (.cells #[.int .i64 0] 3)) (.cells #[.slice a ln c] 23); simpa using this)
    have hsz0 : (((w1.alloc (.cells #[.slice none 0 0] 30)).alloc (.cells #[.int .i64 0] 3)).alloc (.cells #[.slice a ln c] 23)).heap.size = w1.heap.size + 1 + 1 + 1 := by simp
    have HB0 : Hid (Below w.heap.size w (((w1.alloc (.cells #[.slice none 0 0] 30)).alloc (.cells #[.int .i64 0] 3)).alloc (.cells #[.slice a ln c] 23))) := Lib.hid (((HB1.out.alloc hs1 _).alloc (by simp; omega) _).alloc (by simp; omega) _)
    generalize (((w1.alloc (.cells #[.slice none 0 0] 30)).alloc (.cells #[.int .i64 0] 3)).alloc (.cells #[.slice a ln c] 23)) = W0 at *
    refine wpIn_rangeFunc_ownG rfl (by omega) (gf := 80) (lb := #[.pointer (some ⟨w1.heap.size + 1 + 1, 0, none⟩)]) rfl trivial (enters_of Try.func80 (by kernel_rfl) rfl)
      (HST.out W0 (w1.heap.size + 1 + 1) 2 (by omega) HB0.out X3.out) (fun h k => ⟨h.1.trans k.1, k.2.trans h.2⟩) ?hKb (Below.refl _ _) (fun _ => rfl)
      (fun pre W => (∃ v, W.heap[w1.heap.size]? = some (.cells #[v] 30 (0, 0)) ∧ OwIntSS W0.heap.size W.heap.size W v (bodsF pre)) ∧ W.heap[w1.heap.size + 1]? = some (.cells #[.int .i64 (lastF pre : Int)] 3 (0, 0)) ∧ Below w.heap.size w W ∧ W0.heap.size ≤ W.heap.size)
      (fun _ _ _ => False) ?hI (fun _ _ _ _ _ hs _ _ => hs) ⟨⟨_, X1.out, OwIntSS.nil _ _ _⟩, X2.out, HB0.out, Nat.le_refl _⟩
      (fun x => { tmps := #[.slice a ln c, undef, .slice none 0 0, .int .i64 0, .pointer (some ⟨w1.heap.size, 0, none⟩), .pointer (some ⟨w1.heap.size + 1, 0, none⟩), x.1.1, .int .i64 (x.1.2.2 : Int), .slice a ln c, .bool true, .bool false, .slice a ln c, .func (.func 80) #[] #[.pointer (some ⟨w1.heap.size + 1 + 1, 0, none⟩)], x.1.1, .int .i64 (x.1.2.2 : Int), undef, undef, undef, undef, undef, undef, undef, undef], defers := [] }) ?assign ?body ?done ?stop
    case hKb =>
      intro W l o o' hl h h1 h2
      exact ⟨belowK_b (w := W0) (by omega) W l o o' hl h h1 h2, World.putObj_heap_other (by omega)⟩
    case hI =>
      rintro s A B row ⟨⟨v, h1, h2⟩, h3, h4, h5⟩ hg hr
      have hc := cel_turn hg hr
      exact ⟨⟨v, hc _ _ _ _ h1, (h2.cells hc).mono (Nat.le_refl _) hg.size⟩, hc _ _ _ _ h3, h4.grown hg h4.size (fun k e => by have := (hr k e).1; omega), Nat.le_trans h5 hg.size⟩
    case assign =>
      intro l x W K hK
      gi_wp2
      exact hK
    case body =>
      rintro l pre ⟨⟨vx, body, q⟩, hrx, hlx, hqx⟩ W ⟨⟨v, Y1, ho⟩, Y2, hB, hW0⟩ hlt
      dsimp only at hrx hlx hqx
      obtain ⟨ax, cx, rfl, hx1, hx2⟩ := hrx.form
      obtain ⟨a0, c0, rfl⟩ := ho.form
      dsimp only
      have HRX := Lib.hid (hrx.keep hB)
      have HO := Lib.hid ho; have HB := Lib.hid hB; have HY1 := Lib.hid Y1; have HY2 := Lib.hid Y2
      have HBS := Lib.hid (bodsF_snoc pre ⟨(.slice ax body.length cx, body, q), hrx, hlx, hqx⟩)
      have HLS := Lib.hid (lastF_snoc pre ⟨(.slice ax body.length cx, body, q), hrx, hlx, hqx⟩)
      have hbl : (bodsF pre).length ≤ 2000 := by simp only [bodsF, List.length_map]; omega
      have c1 := box_cell Y1 0 _ rfl
      have fin : ∀ (w3 w5 : World) (v5 : Value), Hid (Below W.heap.size W w3) → Hid (OwIntSS W0.heap.size w5.heap.size w5 v5 (bodsF pre ++ [body])) → Hid (Below W0.heap.size w3 w5) → Hid (Oth w3 w5) →
          Hid (w5.heap[w1.heap.size]? = some (.cells #[.slice a0 (bodsF pre).length c0] 30 (0, 0))) → Hid (w5.heap[w1.heap.size + 1]? = some (.cells #[.int .i64 (lastF pre : Int)] 3 (0, 0))) →
          KeepsFrom W0.heap.size W ((w5.setCell ⟨w1.heap.size, 0, none⟩ v5).setCell ⟨w1.heap.size + 1, 0, none⟩ (.int .i64 (q : Int))) ∧
          KpS w.heap.size (w1.heap.size + 1 + 1) W ((w5.setCell ⟨w1.heap.size, 0, none⟩ v5).setCell ⟨w1.heap.size + 1, 0, none⟩ (.int .i64 (q : Int))) ∧
          ((∃ v, ((w5.setCell ⟨w1.heap.size, 0, none⟩ v5).setCell ⟨w1.heap.size + 1, 0, none⟩ (.int .i64 (q : Int))).heap[w1.heap.size]? = some (.cells #[v] 30 (0, 0)) ∧ OwIntSS W0.heap.size ((w5.setCell ⟨w1.heap.size, 0, none⟩ v5).setCell ⟨w1.heap.size + 1, 0, none⟩ (.int .i64 (q : Int))).heap.size ((w5.setCell ⟨w1.heap.size, 0, none⟩ v5).setCell ⟨w1.heap.size + 1, 0, none⟩ (.int .i64 (q : Int))) v (bodsF (pre ++ [⟨(.slice ax body.length cx, body, q), hrx, hlx, hqx⟩]))) ∧
            ((w5.setCell ⟨w1.heap.size, 0, none⟩ v5).setCell ⟨w1.heap.size + 1, 0, none⟩ (.int .i64 (q : Int))).heap[w1.heap.size + 1]? = some (.cells #[.int .i64 (lastF (pre ++ [⟨(.slice ax body.length cx, body, q), hrx, hlx, hqx⟩]) : Int)] 3 (0, 0)) ∧
            Below w.heap.size w ((w5.setCell ⟨w1.heap.size, 0, none⟩ v5).setCell ⟨w1.heap.size + 1, 0, none⟩ (.int .i64 (q : Int))) ∧ W0.heap.size ≤ ((w5.setCell ⟨w1.heap.size, 0, none⟩ v5).setCell ⟨w1.heap.size + 1, 0, none⟩ (.int .i64 (q : Int))).heap.size) := by
        intro w3 w5 v5 h3 ho5 h5 hot z1 z2
        have g3 := h3.out.size; have g5 := h5.out.size
        have hC : Chg w1.heap.size (w1.heap.size + 2) w5 ((w5.setCell ⟨w1.heap.size, 0, none⟩ v5).setCell ⟨w1.heap.size + 1, 0, none⟩ (.int .i64 (q : Int))) :=
          (Chg.setCell (p := ⟨w1.heap.size, 0, none⟩) (by simp) (by simp) _).trans (Chg.setCell (p := ⟨w1.heap.size + 1, 0, none⟩) (by simp) (by simp) _)
        have hA : Chg w1.heap.size (W0.heap.size - 1) w5 ((w5.setCell ⟨w1.heap.size, 0, none⟩ v5).setCell ⟨w1.heap.size + 1, 0, none⟩ (.int .i64 (q : Int))) := hC.mono (Nat.le_refl _) (by omega)
        have hs5 : ((w5.setCell ⟨w1.heap.size, 0, none⟩ v5).setCell ⟨w1.heap.size + 1, 0, none⟩ (.int .i64 (q : Int))).heap.size = w5.heap.size := by simp [World.setCell]
        have hbW : Below w.heap.size W ((w5.setCell ⟨w1.heap.size, 0, none⟩ v5).setCell ⟨w1.heap.size + 1, 0, none⟩ (.int .i64 (q : Int))) :=
          ((h3.out.mono (by omega)).trans (h5.out.mono (by omega))).trans (hC.belowB hs1 (by omega))
        refine ⟨⟨by omega, fun k o hk1 hk2 hk3 => ?_⟩, ⟨hbW, ?_⟩, ⟨v5, ?_, ?_⟩, ?_, HB.out.trans hbW, by omega⟩
        · have e1 : w3.heap[k]? = some o := (h3.out.block k (box_lt hk2)).trans hk2
          have e2 := hot.out k o e1 (fun cs t f e => by subst e; cases hk3)
          exact (hC.block k (box_lt e2) (by omega)).trans e2
        · have hlt3 : w1.heap.size + 1 + 1 < W.heap.size := by omega
          rw [hC.block _ (by omega) (by omega), h5.out.block _ (by omega), h3.out.block _ (by omega)]
        · exact box_other (box_set z1.out 0 v5) ⟨w1.heap.size + 1, 0, none⟩ _ (by simp)
        · rw [HBS.out, hs5]; exact ho5.out.chg hC (.inl (by omega))
        · rw [HLS.out]; exact box_set (box_other z2.out ⟨w1.heap.size, 0, none⟩ _ (by simp)) 0 _
      clear Y1 Y2 ho hB
      gi_wp2
      refine wpIn_region_any (by kernel_rfl) (wpAnyIn_of_wpAny (noDefer (by kernel_rfl)) (by rintro ⟨_, _, h⟩; exact h) _ _ _ _ ?_)
      change wpAny _ _ _ _ _ _ _ (World.drew _)
      refine wpAny_take (i := 1) (v := .slice ax body.length cx) rfl (by kernel_rfl) (by kernel_rfl) (by kernel_rfl) (fun _ _ _ h => h) (.inl ⟨by rfl, fun w => by go_simp⟩) ?_
      refine wpAny_ready (rs := [0, 2]) (by kernel_rfl) (by simp) ?_
      refine AllReady.cons rfl (fun K hK => ?_) (AllReady.cons rfl (fun K hK => ?_) AllReady.nil)
      · go_simp
        refine hK _ _ ?_; clear hK K
        refine wpAny_ready (rs := [2]) (by kernel_rfl) (by simp) ?_
        refine AllReady.cons rfl (fun K hK => ?_) AllReady.nil
        go_simp
        refine (cloneInt_any _ _ body (HRX.out.keep ((Below.refl W.heap.size W).drew)) (by omega)).mono ?_
        rintro e w3 ⟨v3, rfl, ho3, hb3⟩
        obtain ⟨a3, c3, rfl, _, _⟩ := ho3.rd.form
        have HO3 := Lib.hid ho3
        have HB3 : Hid (Below W.heap.size W w3) := Lib.hid ((Below.refl W.heap.size W).drew.trans hb3)
        have hz3 := HB3.out.size
        have HZ1 := Lib.hid (box_keep HY1.out HB3.out)
        have c3' := box_cell HZ1.out 0 _ rfl
        have c4' := box_cell (box_alloc HZ1.out (.cells #[.slice a3 body.length c3] 23)) 0 _ rfl
        clear ho3 hb3
        refine hK _ _ ?_; clear hK K
        refine wpAny_ready (rs := [3]) (by kernel_rfl) (by simp) ?_
        refine AllReady.cons rfl (fun K hK => ?_) AllReady.nil
        go_simp
        refine hK _ _ ?_; clear hK K
        refine wpAny_ready (rs := [4]) (by kernel_rfl) (by simp) ?_
        refine AllReady.cons rfl (fun K hK => ?_) AllReady.nil
        refine step_pushRowK rfl _ _ 30 rfl Try.underlying30 infoRow W0.heap.size W.heap.size _ (.slice a3 body.length c3) (bodsF pre) body (HO.out.keep HB3.out) HO3.out rfl rfl rfl (by omega) hW0 hz3 ?_
        rintro v5 w5 hown5 hbel5 ⟨a5, c5, rfl⟩ hoth
        have HO5 := Lib.hid hown5; have HBL := Lib.hid hbel5; have HOT := Lib.hid hoth
        have HZ5 := Lib.hid ((hbel5.block w1.heap.size (by omega)).trans HZ1.out)
        have HZ6 := Lib.hid ((hbel5.block (w1.heap.size + 1) (by omega)).trans (box_keep HY2.out HB3.out))
        have hz5 := hbel5.size
        have k5 := box_cell HZ5.out 0 _ rfl; have f5 := box_frozen HZ5.out 0
        have k6 := box_cell HZ6.out 0 _ rfl; have f6 := box_frozen HZ6.out 0
        clear hown5 hbel5 hoth
        refine hK _ _ ?_; clear hK K
        refine wpAny_ready (rs := [5]) (by kernel_rfl) (by simp) ?_
        refine AllReady.cons rfl (fun K hK => ?_) AllReady.nil
        go_simp
        refine hK _ _ ?_; clear hK K
        refine wpAny_done (by kernel_rfl) ?_ _
        gi_wp2
        exact fin w3 w5 _ HB3 HO5 HBL HOT HZ5 HZ6
      · go_simp
        refine (cloneInt_any _ _ body (HRX.out.keep ((Below.refl W.heap.size W).drew)) (by omega)).mono ?_
        rintro e w3 ⟨v3, rfl, ho3, hb3⟩
        obtain ⟨a3, c3, rfl, _, _⟩ := ho3.rd.form
        have HO3 := Lib.hid ho3
        have HB3 : Hid (Below W.heap.size W w3) := Lib.hid ((Below.refl W.heap.size W).drew.trans hb3)
        have hz3 := HB3.out.size
        have HZ1 := Lib.hid (box_keep HY1.out HB3.out)
        have c3' := box_cell HZ1.out 0 _ rfl
        have c4' := box_cell (box_alloc HZ1.out (.cells #[.slice a3 body.length c3] 23)) 0 _ rfl
        clear ho3 hb3
        refine hK _ _ ?_; clear hK K
        refine wpAny_ready (rs := [0, 3]) (by kernel_rfl) (by simp) ?_
        refine AllReady.cons rfl (fun K hK => ?_) (AllReady.cons rfl (fun K hK => ?_) AllReady.nil)
        · go_simp
          refine hK _ _ ?_; clear hK K
          refine wpAny_ready (rs := [3]) (by kernel_rfl) (by simp) ?_
          refine AllReady.cons rfl (fun K hK => ?_) AllReady.nil
          go_simp
          refine hK _ _ ?_; clear hK K
          refine wpAny_ready (rs := [4]) (by kernel_rfl) (by simp) ?_
          refine AllReady.cons rfl (fun K hK => ?_) AllReady.nil
          refine step_pushRowK rfl _ _ 30 rfl Try.underlying30 infoRow W0.heap.size W.heap.size _ (.slice a3 body.length c3) (bodsF pre) body (HO.out.keep HB3.out) HO3.out rfl rfl rfl (by omega) hW0 hz3 ?_
          rintro v5 w5 hown5 hbel5 ⟨a5, c5, rfl⟩ hoth
          have HO5 := Lib.hid hown5; have HBL := Lib.hid hbel5; have HOT := Lib.hid hoth
          have HZ5 := Lib.hid ((hbel5.block w1.heap.size (by omega)).trans HZ1.out)
          have HZ6 := Lib.hid ((hbel5.block (w1.heap.size + 1) (by omega)).trans (box_keep HY2.out HB3.out))
          have hz5 := hbel5.size
          have k5 := box_cell HZ5.out 0 _ rfl; have f5 := box_frozen HZ5.out 0
          have k6 := box_cell HZ6.out 0 _ rfl; have f6 := box_frozen HZ6.out 0
          clear hown5 hbel5 hoth
          refine hK _ _ ?_; clear hK K
          refine wpAny_ready (rs := [5]) (by kernel_rfl) (by simp) ?_
          refine AllReady.cons rfl (fun K hK => ?_) AllReady.nil
          go_simp
          refine hK _ _ ?_; clear hK K
          refine wpAny_done (by kernel_rfl) ?_ _
          gi_wp2
          exact fin w3 w5 _ HB3 HO5 HBL HOT HZ5 HZ6
        · go_simp
          refine hK _ _ ?_; clear hK K
          refine wpAny_ready (rs := [0]) (by kernel_rfl) (by simp) ?_
          refine AllReady.cons rfl (fun K hK => ?_) AllReady.nil
          go_simp
          refine hK _ _ ?_; clear hK K
          refine wpAny_ready (rs := [4]) (by kernel_rfl) (by simp) ?_
          refine AllReady.cons rfl (fun K hK => ?_) AllReady.nil
          refine step_pushRowK rfl _ _ 30 rfl Try.underlying30 infoRow W0.heap.size W.heap.size _ (.slice a3 body.length c3) (bodsF pre) body (HO.out.keep HB3.out) HO3.out rfl rfl rfl (by omega) hW0 hz3 ?_
          rintro v5 w5 hown5 hbel5 ⟨a5, c5, rfl⟩ hoth
          have HO5 := Lib.hid hown5; have HBL := Lib.hid hbel5; have HOT := Lib.hid hoth
          have HZ5 := Lib.hid ((hbel5.block w1.heap.size (by omega)).trans HZ1.out)
          have HZ6 := Lib.hid ((hbel5.block (w1.heap.size + 1) (by omega)).trans (box_keep HY2.out HB3.out))
          have hz5 := hbel5.size
          have k5 := box_cell HZ5.out 0 _ rfl; have f5 := box_frozen HZ5.out 0
          have k6 := box_cell HZ6.out 0 _ rfl; have f6 := box_frozen HZ6.out 0
          clear hown5 hbel5 hoth
          refine hK _ _ ?_; clear hK K
          refine wpAny_ready (rs := [5]) (by kernel_rfl) (by simp) ?_
          refine AllReady.cons rfl (fun K hK => ?_) AllReady.nil
          go_simp
          refine hK _ _ ?_; clear hK K
          refine wpAny_done (by kernel_rfl) ?_ _
          gi_wp2
          exact fin w3 w5 _ HB3 HO5 HBL HOT HZ5 HZ6
    case done =>
      rintro D ys W hD ⟨k, hg, hf, hbo, hla⟩ ⟨⟨v, Y1, ho⟩, Y2, hB, hW0⟩ hK
      obtain ⟨a0, c0, rfl⟩ := ho.form
      have k5 := box_cell Y1 0 _ rfl
      have k6 := box_cell Y2 0 _ rfl
      have HO := Lib.hid ho; have HB := Lib.hid hB
      clear ho hB Y1 Y2
      gi_wp2
      refine wpIn_wide.2 ?_
      go_quiet (fail)
      gi_wp2
      refine ⟨by simp, .inl ⟨_, _, rfl, run_takeDeferred (w := W.drewN nq) hK, ?_⟩⟩
      have hbk : Below w.heap.size W ((W.drewN nq).putObj D (.deferred none)) := (Below.refl _ _ |>.drewN' nq).trans (belowK_b (w := W0) (by omega) (W.drewN nq) D _ _ hD hK rfl rfl)
      have hcl : Cel W ((W.drewN nq).putObj D (.deferred none)) := fun i cs t f hi => by
        refine (World.putObj_heap_other (w := W.drewN nq) (r := D) (fun e => ?_)).trans hi
        subst e; rw [hK] at hi; cases hi
      have h9 := HO.out.cells hcl
      rw [hbo] at h9
      have hww : w.heap.size ≤ W0.heap.size := by omega
      have h10 := h9.mono hww hbk.size
      exact ⟨_, results_tmp2 (t := 2) (u := 3) rfl _ _ _, HY.out _ k hg hf (HB.out.trans hbk) _ h10⟩
    case stop =>
      rintro D c pre W _ _ h _
      exact h.elim
  · have hok : bytesOk xs = false := by simpa using hok
    have HY := Lib.hid fun (w' : World) h v h4 => @RetS.no w w' xs hok h v h4
    rw [hok] at C
    clear hok
    go_enter Try.func33, Try.ntmps33
    go_wp2_with fail
    refine C.out.mono ?_
    rintro e w1 ⟨rfl, hb1⟩
    have HB0 := Lib.hid hb1; clear hb1 C
    go_wp2_with fail
    go_ret2
    exact HY.out _ HB0.out _ (OwIntSS.nil _ _ _)
end Go.Proofs.Ytdflpildopefaaa
