/-
  The program's least costs: the least that waits first.
-/
import Derived.Test.YtgdggkhdollieaaDoorQueue
import Derived.Test.YtgdggkhdollieaaDoorFill
import Derived.Test.YtgdggkhdollieaaDoorCosts
import Derived.Test.YtgdggkhdollieaaDoorLists
namespace Go.Proofs.YtgdggkhdollieaaDoor
open Go.RowKit
set_option linter.unusedVariables false

def prT (ys : List Tri) : List (Nat × Nat) := ys.map fun e => (e.2.1.toNat, e.2.2.toNat)
theorem prT_length (ys : List Tri) : (prT ys).length = ys.length := by simp [prT]
theorem prT_getD {ys : List Tri} {j : Nat} (hj : j < ys.length) : (prT ys).getD j (0, 0) = ((ys.getD j triZ).2.1.toNat, (ys.getD j triZ).2.2.toNat) := by
  simp [prT, List.getD_eq_getElem?_getD, hj]
theorem prT_mem {ys : List Tri} {v b x : Nat} (h : costR ys v b x) : (b, x) ∈ prT (bucket ys (v : Int)) := by
  obtain ⟨e, he, e1, e2, e3⟩ := h
  simp only [prT, List.mem_map]
  exact ⟨e, bucket_mem.2 ⟨he, e1⟩, by rw [e2, e3]; simp⟩
def mMeas (w : World) (B d n ly : Nat) : Nat := sliceLen ((w.cell? ⟨B, 0, none⟩).getD undef) + (ly + 1) * unset (rowI w d n)
theorem mMeas_eq {w : World} {lo B g cap d n ly c : Nat} {L : List (Nat × Nat)} {D : List Int} {e : TypeId} (h : HeapS lo B g cap w L) (hr : w.ownsRow d e 1 (.slice (some ⟨d, 0, none⟩) n c) n (ints D)) (hl : D.length = n) : mMeas w B d n ly = L.length + (ly + 1) * unset D := by
  unfold mMeas
  rw [h.cell, rowI_eq hr hl]; rfl
theorem HeapS.one (w : World) (c v : Nat) : HeapS w.heap.size (w.heap.size + 1) w.heap.size 1 ((w.alloc (.cells #[.int .i64 c, .int .i64 v] 58)).alloc (.cells #[.slice (some ⟨w.heap.size, 0, none⟩) 1 1] 60)) [(c, v)] := by
  have h1 := box_alloc (heap_alloc_new w (.cells #[.int .i64 c, .int .i64 v] 58)) (.cells #[.slice (some ⟨w.heap.size, 0, none⟩) 1 1] 60)
  have h2 := heap_alloc_new (w.alloc (.cells #[.int .i64 c, .int .i64 v] 58)) (.cells #[.slice (some ⟨w.heap.size, 0, none⟩) 1 1] 60)
  simp only [World.size_alloc] at h2
  refine ⟨⟨by simp, .inr ⟨_, 1, _, rfl, Nat.le_refl _, h2, Nat.le_refl _, by decide, rfl, rfl⟩⟩, ⟨rfl, by simp [prs], .inr ⟨_, 1, _, rfl, Nat.le_refl _, h1, Nat.le_refl _, by decide, rfl, rfl⟩⟩, by omega, by omega⟩
theorem HeapS.other {lo B g cap d : Nat} {w w' : World} {L : List (Nat × Nat)} (h : HeapS lo B g cap w L) (hg : w.grownBy w' (some d)) (hd : d < lo) : HeapS lo B g cap w' L := by
  have h1 := h.lt; have h2 := h.lo2
  exact ⟨ownsRow_lift (lo2 := 0) h.box (hg.block B h1.2.2 (by intro e; injection e with e; omega)), h.row.lift (hg.block g h1.2.1 (by intro e; injection e with e; omega)), h.ne, h.lob⟩

set_option maxRecDepth 100000 in
set_option maxHeartbeats 16000000 in
theorem leastCosts_any (w : World) (q n s : Nat) (bk : Nat → Value) (ys : List Tri) (hO : w.ownsRow q 23 1 (.slice (some ⟨q, 0, none⟩) n n) n (outs bk n)) (hF : Fam (q + 1) w 34 bk (fun j : Nat => bucket ys (j : Int)))
    (hE : ∀ e ∈ ys, ∃ a b x : Nat, e.1 = (a : Int) ∧ e.2.1 = (b : Int) ∧ e.2.2 = (x : Int) ∧ a < n ∧ b < n ∧ a ≠ b ∧ x ≤ 20) (hs : s < n) (hn : n ≤ 16) (hl : ys.length ≤ 1000) :
    Calls Tryd.prog 15 #[.slice (some ⟨q, 0, none⟩) n n, .int .i64 s] w fun e w' => ∃ D, IsDist (costR ys) n s D ∧ RetI w D e w' := by
  have hq : q < w.heap.size := (hO.lt q rfl).2
  have HO := Lib.hid hO; have HF := Lib.hid hF; have HE := Lib.hid hE
  have HDJ0 := Lib.hid (Dij.start (R := costR ys) hs fun u v x ⟨e, he, e1, e2, _⟩ => by
    obtain ⟨a, b, z, h1, h2, h3, h4, h5, h6⟩ := hE e he
    exact ⟨by omega, by omega⟩)
  have HIR : Hid (∀ v b x, costR ys v b x → b ≠ v) := Lib.hid fun v b x ⟨e, he, e1, e2, _⟩ => by
    obtain ⟨a, b, z, h1, h2, h3, h4, h5, h6⟩ := hE e he
    omega
  have HPM := Lib.hid fun v b x => prT_mem (ys := ys) (v := v) (b := b) (x := x)
  have HLY : Hid (∀ v, (bucket ys v).length ≤ ys.length) := Lib.hid fun v => bucket_len ys v
  have hu0 : unset (List.replicate n (-1 : Int)) ≤ n := by have := unset_le (List.replicate n (-1 : Int)); simpa using this
  clear hO hF hE
  generalize hly : ys.length = ly at *
  have hmul : (ly + 1) * unset (List.replicate n (-1 : Int)) ≤ 1001 * 16 := Nat.mul_le_mul (by omega) (by omega)
  have CU := Lib.hid (unknowns_any w n (by omega))
  clear hly hu0
  generalize List.replicate n (-1 : Int) = D0 at *
  generalize hmu0 : (ly + 1) * unset D0 = mu0 at *
  have HMU0 := Lib.hid hmu0; clear hmu0
  go_enter Tryd.func15, Tryd.ntmps15
  go_wp2_with fail
  refine CU.out.mono ?_
  rintro e w1 ⟨rfl, ho, hb⟩
  have hsz1 : w.heap.size < w1.heap.size := (ho.lt _ rfl).2
  have HS0 := Lib.hid (HeapS.one w1 0 s)
  have hal : Below w1.heap.size w1 ((w1.alloc (.cells #[.int .i64 0, .int .i64 s] 58)).alloc (.cells #[.slice (some ⟨w1.heap.size, 0, none⟩) 1 1] 60)) := by go_grown
  have HC0 := Lib.hid (ownsRow_keep ho hal)
  have HB0 := Lib.hid (hb.tr hal)
  clear ho hb hal CU
  go_wp2_with fail
  have HS1 : Hid (HeapS w1.heap.size (w1.heap.size + 1) w1.heap.size 1 ((w1.alloc (.cells #[.int .i64 0, .int .i64 s] 58)).alloc (.cells #[.slice (some ⟨w1.heap.size, 0, none⟩) 1 1] 60)) [(0, s)]) := HS0
  clear HS0
  generalize ((w1.alloc (.cells #[.int .i64 0, .int .i64 s] 58)).alloc (.cells #[.slice (some ⟨w1.heap.size, 0, none⟩) 1 1] 60)) = w2 at *
  obtain ⟨B, hB⟩ : ∃ B, B = w1.heap.size + 1 := ⟨_, rfl⟩
  rw [← hB] at HS1 ⊢
  obtain ⟨lo, hlo⟩ : ∃ lo, lo = w1.heap.size := ⟨_, rfl⟩
  rw [← hlo] at HS1 hsz1
  clear hlo hB
  obtain ⟨d, hd⟩ : ∃ d, d = w.heap.size := ⟨_, rfl⟩
  rw [← hd] at HC0 hsz1 hq ⊢
  have HDE := Lib.hid hd; clear hd
  go_loopw [8] (fun _ wr => ∃ (D : List Int) (HL : List (Nat × Nat)) (g cap : Nat), HL.length + (ly + 1) * unset D ≤ 20000 ∧ Hid (wr.ownsRow d 3 1 (.slice (some ⟨d, 0, none⟩) n n) n (ints D)) ∧ Hid (HeapS lo B g cap wr HL) ∧ Hid (IsHeap HL HL.length) ∧ Hid (Dij (costR ys) n s D HL fun _ _ _ => False) ∧ Hid (Below w.heap.size w wr)) (fun _ wr => mMeas wr B d n ly)
  case atStart => exact ⟨D0, [(0, s)], _, _, by rw [HMU0.out]; simp; omega, HC0, HS1, Lib.hid fun k h0 h1 => by simp at h1; omega, HDJ0, HB0⟩
  case round =>
    clear HC0 HS1 HDJ0 HB0 HMU0 hmul
    obtain ⟨D, HL, g, cap, hlen, HC, HS, HH, HDJ, HB⟩ := hrel
    have HDL := Lib.hid HDJ.out.len
    have HM0 := Lib.hid (mMeas_eq (ly := ly) HS.out HC.out HDL.out)
    have hcell := HS.out.cell
    by_cases h0 : HL.length = 0
    · obtain rfl : HL = [] := List.eq_nil_of_length_eq_zero h0
      have HO9 := Lib.hid ((Ow.of_row HC.out).mono (show w.heap.size ≤ d by have := HDE.out; omega) (Nat.le_refl _))
      have HLN := Lib.hid (len_any wr (some ⟨g, 0, none⟩) 0 cap)
      have hc0 : wr.cell? ⟨B, 0, none⟩ = some (.slice (some ⟨g, 0, none⟩) 0 cap) := hcell
      clear hcell
      go_wp2_with fail
      refine HLN.out.mono ?_
      rintro e w3 ⟨rfl, rfl⟩
      go_wp2_with fail
      go_ret
      exact ⟨D, HDJ.out.dist, _, rfl, by rw [HDL.out]; exact HO9.out, HB.out⟩
    · obtain ⟨m, hm⟩ : ∃ m, HL.length = m + 1 := ⟨HL.length - 1, by omega⟩
      have HPO := Lib.hid (heapPop_any wr lo B g cap m HL HS.out HH.out hm (by omega))
      have HLN := Lib.hid (len_any wr (some ⟨g, 0, none⟩) (m + 1) cap)
      have hlt := HS.out.lt
      have hlo2 := HS.out.lo2
      rw [hm] at hcell HM0 hlen
      have t0 : decide (((m + 1 : Nat) : Int) > 0) = true := by simp
      clear h0 hm HS HH
      go_wp2_with fail
      refine HLN.out.mono ?_
      rintro e w3 ⟨rfl, rfl⟩
      clear HLN
      go_wp2_with fail
      refine HPO.out.mono ?_
      rintro e w4 ⟨c, v, L', rfl, hs4, hh4, hl4, hm4, hle4, hop4⟩
      clear HPO hcell t0
      have hdj4 := HDJ.out.perm hm4
      have hvn := (hdj4.hway c v (by simp)).1
      have hcb := hdj4.hbnd c v (by simp)
      have HC4 : w4.ownsRow d 3 1 (.slice (some ⟨d, 0, none⟩) n n) n (ints D) := ownsRow_lift (lo2 := 0) HC.out (hop4.below.block d (by omega))
      have HB4 := HB.out.trans (hop4.below.mono (show w.heap.size ≤ lo by have := HDE.out; omega))
      have hal : Below w4.heap.size w4 (w4.alloc (.cells #[.int .i64 c, .int .i64 v] 58)) := (Below.refl _ _).alloc (Nat.le_refl _) _
      have BP := Lib.hid (heap_alloc_new w4 (.cells #[.int .i64 c, .int .i64 v] 58))
      have HS5 := Lib.hid (hs4.keep hal)
      have HC5 := Lib.hid (ownsRow_keep HC4 hal)
      have HB5 := Lib.hid (HB4.tr hal)
      have hpg : w4.heap.size ≠ g := by have := hs4.lt; omega
      have hpB : w4.heap.size ≠ B := by have := hs4.lt; omega
      have hpd : w4.heap.size ≠ d := by have := (HC4.lt d rfl).2; omega
      have hdx : (w4.alloc (.cells #[.int .i64 c, .int .i64 v] 58)).cell? ⟨d, v, none⟩ = some (.int .i64 (D.getD v 0)) := by
        rw [HC5.out.cellAt v (by omega)]; exact ints_get D v (by rw [HDL.out]; exact hvn)
      have hta := ta_reached (.int .i64 c) (.int .i64 v)
      have HH4 := Lib.hid hh4
      have HDJ4 := Lib.hid hdj4
      have HLE : Hid (∀ c' v', (c', v') ∈ L' → c ≤ c') := Lib.hid fun c' v' hmem => by have := hle4 _ hmem; unfold CvLe at this; simp only at this; omega
      have HL4 := Lib.hid hl4
      clear hs4 hh4 hl4 hm4 hle4 hop4 hdj4 HC4 HB4 hal HC HB HDJ hlt
      by_cases hd1 : D.getD v 0 = -1
      · have hset := HDJ4.out.settle hd1 HLE.out (prT (bucket ys (v : Int))) (fun b x hr => HPM.out v b x hr) (fun b x hr => HIR.out v b x hr)
        have hst := HC5.out.stored v (.int .i64 (c : Int))
        rw [ints_set] at hst
        have fz := HC5.out.frozenAt v
        rw [hd1] at hdx
        have HDJ6 := Lib.hid hset.1; have HSC := Lib.hid hset.2.1; have HUN := Lib.hid hset.2.2
        have HC6 := Lib.hid hst.1
        have HS6 := Lib.hid (HS5.out.other hst.2 (by omega))
        have HB6 := Lib.hid (HB5.out.grown hst.2 HB5.out.size (fun k hk => by injection hk with hk; have := HDE.out; omega))
        have BP6 := Lib.hid ((hst.2.block _ (box_lt BP.out) (by intro e; injection e with e; omega)).trans BP.out)
        obtain ⟨a0, c0, hbk, -, -, -⟩ := HF.out.form v
        obtain ⟨n0, hn0⟩ : ∃ n0, (bucket ys (v : Int)).length = n0 := ⟨_, rfl⟩
        have HBR : Hid (Rd w 3 (bk v) (bucket ys (v : Int)).length (tris (bucket ys (v : Int)))) := Lib.hid (Rd.of_own (HF.out.own v))
        have hly := HLY.out (v : Int)
        have HEB : Hid (∀ j, j < n0 → ∃ b x : Nat, (bucket ys (v : Int)).getD j triZ = ((v : Int), (b : Int), (x : Int)) ∧ b < n ∧ x ≤ 20 ∧ costR ys v b x ∧ (prT (bucket ys (v : Int))).getD j (0, 0) = (b, x)) := Lib.hid fun j hj => by
          rw [← hn0] at hj
          have h1 := prT_getD hj
          have h2 := bucket_mem.1 (triD_mem hj)
          obtain ⟨a, b, x, e1, e2, e3, e4, e5, e6, e7⟩ := HE.out _ h2.1
          have e8 := h2.2
          generalize (bucket ys (v : Int)).getD j triZ = y at *
          obtain ⟨y0, y1, y2⟩ := y
          simp only at e1 e2 e3 e8 h1
          subst e2; subst e3; subst e8
          exact ⟨b, x, rfl, e5, e7, ⟨_, h2.1, rfl, rfl, rfl⟩, by rw [h1]; simp⟩
        have HPL : Hid ((prT (bucket ys (v : Int))).length = n0) := Lib.hid (by rw [prT_length]; exact hn0)
        rw [hbk] at HBR
        rw [hn0] at hbk hly HBR
        have k6 : ((w4.alloc (.cells #[.int .i64 c, .int .i64 v] 58)).setCell ⟨d, v, none⟩ (.int .i64 c)).cell? ⟨q, v, none⟩ = some (.slice a0 n0 c0) := by
          rw [HB6.out.cell (p := ⟨q, v, none⟩) (show q < w.heap.size by have := HDE.out; omega), HO.out.cellAt v (by omega), outs_get hvn, hbk]
        clear hset hst HC5 HS5 HB5 BP HDJ4 hbk hd1 hn0
        generalize bucket ys (v : Int) = BK at *
        generalize prT BK = Ls at *
        generalize D.set v (c : Int) = D' at *
        generalize hud : unset D = ud at *
        generalize hud' : unset D' = ud' at *
        have HUD' := Lib.hid hud'; clear hud hud'
        have hun := HUN.out
        have hmm : (ly + 1) * ud = (ly + 1) * ud' + (ly + 1) := by rw [← hun, Nat.mul_add, Nat.mul_one]
        go_wp2_with fail
        obtain ⟨p, hp⟩ : ∃ p, p = w4.heap.size := ⟨_, rfl⟩
        rw [← hp] at BP6 hpg hpB hpd ⊢
        generalize ((w4.alloc (.cells #[.int .i64 c, .int .i64 v] 58)).setCell ⟨d, v, none⟩ (.int .i64 c)) = w6 at *
        clear hp hdx fz k6 hta
        go_loopw [52] (fun i wv => ∃ (j : Nat) (H2 : List (Nat × Nat)) (g2 cap2 : Nat), j ≤ n0 ∧ i = .int .i64 j ∧ H2.length ≤ m + j ∧ p ≠ g2 ∧ Hid (wv.ownsRow d 3 1 (.slice (some ⟨d, 0, none⟩) n n) n (ints D')) ∧ Hid (HeapS lo B g2 cap2 wv H2) ∧ Hid (IsHeap H2 H2.length) ∧ Hid (Dij (costR ys) n s D' H2 fun a b x => a = v ∧ (b, x) ∈ Ls.drop j) ∧ Hid (wv.heap[p]? = some (.cells #[.int .i64 c, .int .i64 v] 58 (0, 0))) ∧ Hid (Below w.heap.size w wv)) (fun i _ => n0 - (intOf i).toNat)
        case atStart => exact ⟨0, L', g, cap, Nat.zero_le _, rfl, by rw [HL4.out]; omega, hpg, HC6, HS6, HH4, HDJ6, BP6, HB6⟩
        case round =>
          clear HC6 HS6 HDJ6 BP6 HB6
          obtain ⟨j, H2, g2, cap2, hj, rfl, hl2, hpg2, HC, HS, HH, HDJ, BP, HB⟩ := hrel
          by_cases hjl : j < n0
          · obtain ⟨b1, o1, rfl, hb1, q0, q1, q2⟩ := (HBR.out.keep HB.out).tri hjl
            obtain ⟨b, x, hy, hbn, hx20, hcr, hlj⟩ := HEB.out j hjl
            rw [hy] at q0 q1 q2
            simp only at q0 q1 q2
            have hal : Below wr.heap.size wr (wr.alloc (.cells #[.int .i64 v, .int .i64 b, .int .i64 x] 34)) := (Below.refl _ _).alloc (Nat.le_refl _) _
            have HCa := Lib.hid (ownsRow_keep HC.out hal)
            have HSa := Lib.hid (HS.out.keep hal)
            have BPa := Lib.hid (box_keep BP.out hal)
            have HBa := Lib.hid (HB.out.tr hal)
            have hps := box_lt BPa.out
            have k0 := box_cell BPa.out 0 _ rfl
            have kc : (wr.alloc (.cells #[.int .i64 v, .int .i64 b, .int .i64 x] 34)).cell? ⟨d, b, none⟩ = some (.int .i64 (D'.getD b 0)) := by
              rw [HCa.out.cellAt b (by omega)]; exact ints_get D' b (by rw [HDJ.out.len]; exact hbn)
            have hjL : j < Ls.length := by rw [HPL.out]; exact hjl
            have HLJ := Lib.hid hlj; have HCR := Lib.hid hcr
            clear hy hal hlj hcr HC HS BP HB
            by_cases hdb : D'.getD b 0 = -1
            · have HPU2 := Lib.hid (HDJ.out.push HSC.out hjL HLJ.out hbn hdb HCR.out hx20)
              have HPU := Lib.hid (heapPush_any _ lo B g2 cap2 H2 (c + x) b HSa.out HH.out (by omega))
              have hci : ((c + x : Nat) : Int) = (c : Int) + (x : Int) := by omega
              rw [hci] at HPU
              rw [hdb] at kc
              clear hci HDJ HLJ HCR hdb
              go_wp2_with fail
              refine HPU.out.mono ?_
              rintro e w8 ⟨rfl, g3, cap3, H3, hs3, hh3, hl3, hm3, hop3, hgg⟩
              have hlo3 := HDE.out
              have HC8 := Lib.hid (ownsRow_lift (lo2 := 0) HCa.out (hop3.below.block d (by omega)))
              have HS8 := Lib.hid hs3; have HH8 := Lib.hid hh3
              have HDJ8 := Lib.hid (HPU2.out.perm fun y => (hm3 y).symm)
              have BP8 := Lib.hid ((hop3.block p hps hpB hpg2).trans BPa.out)
              have HB8 := Lib.hid (HBa.out.trans (hop3.below.mono (by omega)))
              have hpg3 : p ≠ g3 := by rcases hgg with e | e <;> omega
              have hl8 : H3.length ≤ m + (j + 1) := by omega
              clear hs3 hh3 hl3 hm3 hop3 hgg HPU HPU2 HCa HSa BPa HBa k0 kc q0 q1 q2 hlo3
              go_wp2_with fail
              go_roundw
              case rel => exact ⟨j + 1, H3, g3, cap3, by omega, by go_num, hl8, hpg3, HC8, HS8, HH8, HDJ8, BP8, HB8⟩
              case measure => simp [intOf]; omega
            · have hdb' : (D'.getD b 0 == -1) = false := by simpa using hdb
              have HDJ8 := Lib.hid (HDJ.out.skip HSC.out hjL HLJ.out hbn hdb)
              clear hdb HDJ HLJ HCR
              generalize D'.getD b 0 = db at *
              go_wp2_with fail
              go_roundw
              case rel => exact ⟨j + 1, H2, g2, cap2, by omega, by go_num, by omega, hpg2, HCa, HSa, HH, HDJ8, BPa, HBa⟩
              case measure => simp [intOf]; omega
          · obtain rfl : j = n0 := by omega
            have HDJ9 := Lib.hid (HDJ.out.fin (by rw [HPL.out]; exact Nat.le_refl _))
            have HM2 := Lib.hid (mMeas_eq (ly := ly) HS.out HC.out HDJ.out.len)
            clear HDJ BP
            go_wp2_with fail
            go_roundw
            case rel => exact ⟨D', H2, g2, cap2, by rw [HUD'.out]; omega, HC, HS, HH, HDJ9, HB⟩
            case measure => rw [HM2.out, HUD'.out, HM0.out]; omega
      · have hdx' : (D.getD v 0 == -1) = false := by simpa using hd1
        have HDJ5 := Lib.hid (HDJ4.out.old hd1)
        have HM1 := Lib.hid (mMeas_eq (ly := ly) HS5.out HC5.out HDL.out)
        generalize D.getD v 0 = dv at *
        clear HDJ4 hd1
        go_wp2_with fail
        go_roundw
        case rel => exact ⟨D, L', g, cap, by rw [HL4.out]; omega, HC5, HS5, HH4, HDJ5, HB5⟩
        case measure => rw [HM1.out, HM0.out, HL4.out]; omega
end Go.Proofs.YtgdggkhdollieaaDoor
