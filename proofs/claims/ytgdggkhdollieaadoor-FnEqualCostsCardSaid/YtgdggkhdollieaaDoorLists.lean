/-
  The program's lists of edges from each vertex.
-/
import Derived.Test.YtgdggkhdollieaaDoorFam
import Derived.Test.YtgdggkhdollieaaDoorSortP
import Derived.Test.YtgdggkhdollieaaDoorStage
import Derived.Test.YtgdggkhdollieaaDoorHeapX
namespace Go.Proofs.YtgdggkhdollieaaDoor
open Go.RowKit
set_option linter.unusedVariables false

def outs (bk : Nat → Value) (n : Nat) : List Value := (List.range n).map bk
theorem outs_get {bk : Nat → Value} {n k : Nat} (h : k < n) : (outs bk n)[k]? = some (bk k) := by simp [outs, h]
theorem outs_set {bk : Nat → Value} {n k : Nat} (h : k < n) (v : Value) : (outs bk n).set k v = outs (fun j => if j = k then v else bk j) n := by
  apply List.ext_getElem?
  intro i
  by_cases hi : i < n
  · by_cases e : i = k
    · subst e; simp [outs, hi]
    · have : ¬ k = i := fun h => e h.symm
      simp [outs, hi, e, this]
  · simp [outs, Nat.le_of_not_lt hi]
theorem outs_start (n : Nat) : List.replicate n (Value.slice none 0 0) = outs (fun _ => .slice none 0 0) n := by
  apply List.ext_getElem?
  intro i
  by_cases hi : i < n
  · simp [outs, hi]
  · simp [outs, Nat.le_of_not_lt hi]
theorem infoEdge1 : (Tryd.prog.info? 34).map (fun i => (i.zero, i.size, i.bytes)) = some (some (.agg #[.int .i64 0, .int .i64 0, .int .i64 0]), 3, 24) := by kernel_rfl
theorem infoEdgeRow : (Tryd.prog.info? 23).map (fun i => (i.zero, i.size, i.bytes)) = some (some (.slice none 0 0), 1, 24) := by kernel_rfl
theorem makeS_eq {P : Program} {t e : TypeId} {z : Value} {bytes n : Nat} (ht : P.underlying t = some (.slice e)) (hinfo : (P.info? e).map (fun i => (i.zero, i.size, i.bytes)) = some (some z, 1, bytes)) (hby : bytes ≤ 64) (hn : n ≤ 1099511627776) (hz : z.cells = #[z]) :
    ∃ A : Array Value, A.size = n ∧ A.toList = List.replicate n z ∧ ∀ w : World, (Instr.makeSlice t (.int .i64 (n : Int)) (.int .i64 (n : Int))).run P w = .ok (.slice (some ⟨w.heap.size, 0, none⟩) n n) (w.alloc (.cells A e)) := by
  obtain ⟨i, hi, h0, h1, h2⟩ := info_parts hinfo
  refine ⟨madeCells z.cells (n * 1), by simp [size_madeCells], by rw [hz, Nat.mul_one]; simpa using toList_madeCells_one z n, fun w => ?_⟩
  have hb' : (i.bytes : Int) * (n : Int) ≤ 281474976710656 := by
    rw [h2]
    have : bytes * n ≤ 64 * 1099511627776 := Nat.mul_le_mul hby hn
    have h3 : ((bytes * n : Nat) : Int) ≤ 281474976710656 := by omega
    rwa [Int.natCast_mul] at h3
  have hr := run_make (P := P) w t e i z ht hi h0 .i64 .i64 n n (by omega) (Int.le_refl _) hb' (by omega)
  simp only [Int.toNat_natCast, h1] at hr
  exact hr
theorem rowS_of_heap {w : World} {q n : Nat} {A : Array Value} {e : TypeId} {L : List Value} (h : w.heap[q]? = some (.cells A e (0, 0))) (hs : A.size = n) (hn : n ≤ maxLen) (hl : A.toList = L) : w.ownsRow q e 1 (.slice (some ⟨q, 0, none⟩) n n) n L :=
  ⟨by rw [← hl]; simp [hs], .inr ⟨q, n, A, rfl, Nat.le_refl _, h, Nat.le_refl _, hn, by simp [hs], by rw [← hl, List.take_of_length_le (by simp [hs])]⟩⟩
theorem bucketN_step {ys : List Tri} {k yn : Nat} {y0 y1 y2 : Int} (hk : k < ys.length) (hy : ys.getD k triZ = (y0, y1, y2)) (he : y0 = (yn : Int)) : (fun j : Nat => bucket (ys.take (k + 1)) (j : Int)) = fun j => if j = yn then bucket (ys.take k) yn ++ [(y0, y1, y2)] else bucket (ys.take k) j := by
  funext j
  rw [triTake_snoc ys k hk, hy]
  split
  · rename_i e; subst e; rw [← he]; exact bucket_yes (y := (y0, y1, y2))
  · rename_i e; exact bucket_no (y := (y0, y1, y2)) (by simp only; omega)
theorem cell_three_new (w : World) (a b c : Value) (t : TypeId) : ∀ j u, [a, b, c][j]? = some u → (w.alloc (.cells #[a, b, c] t)).cell? ((⟨w.heap.size, 0, none⟩ : Addr).add j) = some u := by
  intro j u hu
  rw [add_litP, cell_of_row _ _ _ _ _ _ (heap_alloc_new w (.cells #[a, b, c] t))]
  simpa using hu

set_option maxRecDepth 100000 in
set_option maxHeartbeats 16000000 in
theorem lists_any (w : World) (p0 : Option Addr) (c nn : Nat) (ys : List Tri) (hr : Rd w 3 (.slice p0 ys.length c) ys.length (tris ys)) (hok : ∀ e ∈ ys, 0 ≤ e.1 ∧ e.1 < (nn : Int)) (hn : nn ≤ 16) (hl : ys.length ≤ 1000) :
    Calls Tryd.prog 16 #[.agg #[.int .i64 nn, .slice p0 ys.length c]] w fun e w' => ∃ q bk, e = .returned (.slice (some ⟨q, 0, none⟩) nn nn) ∧ w.heap.size ≤ q ∧ w'.ownsRow q 23 1 (.slice (some ⟨q, 0, none⟩) nn nn) nn (outs bk nn) ∧ Fam (q + 1) w' 34 bk (fun j : Nat => bucket ys (j : Int)) ∧ Below w.heap.size w w' := by
  have HR := Lib.hid hr; clear hr
  have HOK : Hid (∀ k, k < ys.length → 0 ≤ (ys.getD k triZ).1 ∧ (ys.getD k triZ).1 < (nn : Int)) := Lib.hid fun k hk => hok _ (triD_mem hk)
  have HBS := Lib.hid fun k yn y0 y1 y2 hk hy he => bucketN_step (ys := ys) (k := k) (yn := yn) (y0 := y0) (y1 := y1) (y2 := y2) hk hy he
  have HT : Hid (ys.take ys.length = ys) := Lib.hid (List.take_of_length_le (Nat.le_refl _))
  have HBL : Hid (∀ k x, (bucket (ys.take k) x).length ≤ 1000) := Lib.hid fun k x => Nat.le_trans (bucket_len _ _) (by rw [List.length_take]; omega)
  have hF0 : (fun j : Nat => bucket (ys.take 0) (j : Int)) = fun _ => [] := by funext j; rfl
  have HF0 := Lib.hid hF0
  clear hok hF0
  generalize hL : ys.length = l at *
  clear hL
  obtain ⟨i0, hi, hz0, hz1, hz2⟩ := info_parts infoEdge1
  have Hi := Lib.hid hi; have Hz0 := Lib.hid hz0; have Hz1 := Lib.hid hz1; have Hz2 := Lib.hid hz2; clear hi hz0 hz1 hz2
  obtain ⟨A, hA1, hA2, hmk⟩ := makeS_eq (P := Tryd.prog) (t := 41) (n := nn) Tryd.underlying41 infoEdgeRow (by decide) (by omega) rfl
  rw [outs_start] at hA2
  have HA1 := Lib.hid hA1; have HA2 := Lib.hid hA2; clear hA1 hA2
  have X := heap_alloc_new w (.cells #[.int .i64 nn, .slice p0 l c] 25)
  have k0 := box_cell X 0 _ rfl; have k1 := box_cell X 1 _ rfl
  have k2 : ((w.alloc (.cells #[.int .i64 nn, .slice p0 l c] 25)).alloc (.cells A 23)).cell? ⟨w.heap.size, 1, none⟩ = some (.slice p0 l c) := box_cell (box_alloc X _) 1 _ rfl
  have Q := heap_alloc_new (w.alloc (.cells #[.int .i64 nn, .slice p0 l c] 25)) (.cells A 23)
  simp only [World.size_alloc] at Q
  have HO0 := Lib.hid (rowS_of_heap Q HA1.out (by unfold maxLen; omega) HA2.out)
  have HB0 : Hid (Below w.heap.size w ((w.alloc (.cells #[.int .i64 nn, .slice p0 l c] 25)).alloc (.cells A 23))) := Lib.hid (by go_grown)
  obtain ⟨gb, hgb⟩ : ∃ gb, gb = w.heap.size := ⟨_, rfl⟩
  obtain ⟨q, hq⟩ : ∃ q, q = w.heap.size + 1 := ⟨_, rfl⟩
  have HF1 : Hid (Fam (q + 1) ((w.alloc (.cells #[.int .i64 nn, .slice p0 l c] 25)).alloc (.cells A 23)) 34 (fun _ : Nat => .slice none 0 0) fun j : Nat => bucket (ys.take 0) (j : Int)) := Lib.hid (by rw [HF0.out]; exact Fam.start _ _ _)
  rw [← hq] at HO0
  have HQ : Hid (gb = w.heap.size ∧ q = w.heap.size + 1) := Lib.hid ⟨hgb, hq⟩
  clear X Q
  go_enter Tryd.func16, Tryd.ntmps16
  go_wp2_with fail
  rw [← hq, ← hgb]
  clear hmk k0 k1 k2 hq hgb
  generalize ((w.alloc (.cells #[.int .i64 nn, .slice p0 l c] 25)).alloc (.cells A 23)) = w0 at *
  go_loopw [12] (fun i wr => ∃ (k : Nat) (bk : Nat → Value), k ≤ l ∧ i = .int .i64 k ∧ Hid (wr.ownsRow q 23 1 (.slice (some ⟨q, 0, none⟩) nn nn) nn (outs bk nn)) ∧ Hid (Fam (q + 1) wr 34 bk (fun j : Nat => bucket (ys.take k) (j : Int))) ∧ Hid (Below w.heap.size w wr)) (fun i _ => l - (intOf i).toNat)
  case atStart => exact ⟨0, _, Nat.zero_le _, rfl, HO0, HF1, HB0⟩
  case round =>
    clear HO0 HF1 HB0
    obtain ⟨k, bk, hk, rfl, HO, HF, HB⟩ := hrel
    by_cases hlt : k < l
    · obtain ⟨b1, o1, rfl, hb1, q0, q1, q2⟩ := (HR.out.keep HB.out).tri hlt
      obtain ⟨⟨y0, y1, y2⟩, hy⟩ : ∃ y, ys.getD k triZ = y := ⟨_, rfl⟩
      have hyr := HOK.out k hlt
      rw [hy] at q0 q1 q2 hyr
      simp only at q0 q1 q2 hyr
      obtain ⟨yn, hyn⟩ := Int.eq_ofNat_of_zero_le hyr.1
      have hynn : yn < nn := by omega
      have HBU := Lib.hid (HBS.out k yn y0 y1 y2 (by have := HR.out.1; rw [tris_length] at this; omega) hy hyn)
      subst hyn
      have hbl := HBL.out k (yn : Int)
      obtain ⟨a0, c0, hbk, -, -, -⟩ := HF.out.form yn
      obtain ⟨n0, hn0⟩ : ∃ n0, (bucket (ys.take k) (yn : Int)).length = n0 := ⟨_, rfl⟩
      rw [hn0] at hbk hbl
      have HBK := Lib.hid hbk; have HN0 := Lib.hid hn0
      clear hy hyr hbk hn0
      have hlw : q + 1 ≤ wr.heap.size := (HO.out.lt q rfl).2
      have hal1 : Below wr.heap.size wr (wr.alloc (.cells #[.int .i64 yn, .int .i64 y1, .int .i64 y2] 34)) := (Below.refl _ _).alloc (Nat.le_refl _) _
      have HO1 := Lib.hid (ownsRow_keep HO.out hal1)
      have HF1 := Lib.hid (HF.out.keep hal1)
      have HB1 := Lib.hid (HB.out.tr hal1)
      have BX := Lib.hid (heap_alloc_new wr (.cells #[.int .i64 yn, .int .i64 y1, .int .i64 y2] 34))
      have HPB : Hid ((bk yn).ownBlock ≠ some wr.heap.size) := Lib.hid fun e => by have := (HF.out.lt yn _ e).2; omega
      have hsz1 : (wr.alloc (.cells #[.int .i64 yn, .int .i64 y1, .int .i64 y2] 34)).heap.size = wr.heap.size + 1 := by simp
      have HSZ1 := Lib.hid hsz1
      obtain ⟨p, hp⟩ : ∃ p, p = wr.heap.size := ⟨_, rfl⟩
      clear hal1 hsz1 HO HF HB
      go_wp2_with fail
      rw [← hp] at BX HPB HSZ1 hlw ⊢
      clear hp
      generalize (wr.alloc (.cells #[.int .i64 yn, .int .i64 y1, .int .i64 y2] 34)) = w1 at *
      obtain ⟨wd, hwd⟩ : ∃ wd, wd = w1.drew := ⟨_, rfl⟩
      have HD : Hid (wd.ownsRow q 23 1 (.slice (some ⟨q, 0, none⟩) nn nn) nn (outs bk nn) ∧ Fam (q + 1) wd 34 bk (fun j : Nat => bucket (ys.take k) (j : Int)) ∧ Below w.heap.size w wd ∧ wd.heap[p]? = some (.cells #[.int .i64 yn, .int .i64 y1, .int .i64 y2] 34 (0, 0)) ∧ wd.heap.size = p + 1) := Lib.hid (by
        rw [hwd]
        exact ⟨HO1.out, ⟨HF1.out.own, HF1.out.apart⟩, HB1.out.drew, BX.out, HSZ1.out⟩)
      have HWD := Lib.hid hwd
      clear hwd HO1 HF1 HB1 BX HSZ1
      obtain ⟨ho1, hf1, hb1', bx1, hszd⟩ := HD.out
      have hal : Below wd.heap.size wd (wd.alloc (.cells #[.int .i64 yn, .int .i64 y1, .int .i64 y2] 34)) := (Below.refl _ _).alloc (Nat.le_refl _) _
      have hoa := ownsRow_keep ho1 hal
      have hfa := hf1.keep hal
      have hba := hb1'.tr hal
      have hszA : (wd.alloc (.cells #[.int .i64 yn, .int .i64 y1, .int .i64 y2] 34)).heap.size = p + 1 + 1 := by simp [hszd]
      have hra := hfa.own yn
      rw [HBK.out, HN0.out] at hra
      have hcn : ∀ j u, [Value.int .i64 yn, .int .i64 y1, .int .i64 y2][j]? = some u → (wd.alloc (.cells #[.int .i64 yn, .int .i64 y1, .int .i64 y2] 34)).cell? ((⟨p + 1, 0, none⟩ : Addr).add j) = some u := by
        rw [← hszd]; exact cell_three_new _ _ _ _ _
      obtain ⟨v9, w9, hr9, ho9, hg9, hn9, hb9⟩ := run_append_own_at (P := Tryd.prog) _ (q + 1) 23 23 34 i0 (.agg #[.int .i64 0, .int .i64 0, .int .i64 0]) 3 24 Tryd.underlying23 Hi.out Hz0.out Hz1.out Hz2.out rfl (by decide) _ n0 _ hra ⟨p + 1, 0, none⟩ 1 1 [.int .i64 yn, .int .i64 y1, .int .i64 y2] rfl hcn (by simp [Value.oneCell']) (by unfold maxLen; omega) (by omega) (by rw [hszA]; omega)
      have ho9' : w9.ownsRow (q + 1) 34 3 v9 (n0 + 1) (tris (bucket (ys.take k) (yn : Int) ++ [((yn : Int), y1, y2)])) := by rw [tris_append]; exact ho9
      obtain ⟨a9, c9, rfl, -, -⟩ := (Rd.of_own ho9').form
      have hgq : some q ≠ (Value.slice a0 n0 c0).ownBlock := fun e => by have := (hra.lt _ e.symm).1; omega
      have hqs : q < (wd.alloc (.cells #[.int .i64 yn, .int .i64 y1, .int .i64 y2] 34)).heap.size := (hoa.lt q rfl).2
      have hfq : ∀ g, q + 1 ≤ g → some g ≠ some q := fun g hg e => by injection e with e; omega
      have hf9 := hfa.put yn (v' := .slice a9 (n0 + 1) c9) (ys := bucket (ys.take k) (yn : Int) ++ [((yn : Int), y1, y2)]) (by rw [List.length_append, HN0.out]; exact ho9') (by rw [HBK.out]; exact hg9) (by rw [HBK.out]; exact hb9)
      have ho10 := ownsRow_lift (lo2 := 0) hoa (hg9.block q hqs hgq)
      have hst := ho10.stored yn (.slice a9 (n0 + 1) c9)
      rw [outs_set hynn] at hst
      have hb9' := hba.grown hg9 hba.size (fun g hg => by have := (hra.lt _ hg).1; have := HQ.out.2; omega)
      have HT10 := Lib.hid hst.1
      have HF10 := Lib.hid (hf9.kept hst.2 (fun r hr => by injection hr with hr; omega))
      have HB10 := Lib.hid (hb9'.grown hst.2 hb9'.size (fun g hg => by injection hg with hg; have := HQ.out.2; omega))
      have HC9 : Hid (w9.cell? ⟨q, yn, none⟩ = some (.slice a0 n0 c0) ∧ w9.frozen? ⟨q, yn, none⟩ = false) := Lib.hid ⟨by rw [ho10.cellAt yn (by omega), outs_get hynn, HBK.out], ho10.frozenAt yn⟩
      have HCQ : Hid (∀ wx, (wx = wd ∨ wx = wd.alloc (.cells #[.int .i64 yn, .int .i64 y1, .int .i64 y2] 34)) → wx.cell? ⟨q, yn, none⟩ = some (.slice a0 n0 c0)) := Lib.hid fun wx hw => by
        rcases hw with rfl | rfl
        · rw [ho1.cellAt yn (by omega), outs_get hynn, HBK.out]
        · rw [hoa.cellAt yn (by omega), outs_get hynn, HBK.out]
      have HPX : Hid (∀ wx, (wx = wd ∨ wx = wd.alloc (.cells #[.int .i64 yn, .int .i64 y1, .int .i64 y2] 34) ∨ wx = w9 ∨ wx = w9.setCell ⟨q, yn, none⟩ (.slice a9 (n0 + 1) c9)) → wx.cell? ⟨p, 0, none⟩ = some (.int .i64 yn) ∧ wx.cell? ⟨p, 1, none⟩ = some (.int .i64 y1) ∧ wx.cell? ⟨p, 2, none⟩ = some (.int .i64 y2)) := Lib.hid fun wx hw => by
        have bA := box_keep bx1 hal
        have b9 : w9.heap[p]? = some (.cells #[.int .i64 yn, .int .i64 y1, .int .i64 y2] 34 (0, 0)) := (hg9.block p (by rw [hszA]; omega) (fun e => HPB.out (by rw [HBK.out]; exact e.symm))).trans bA
        have hb : wx.heap[p]? = some (.cells #[.int .i64 yn, .int .i64 y1, .int .i64 y2] 34 (0, 0)) := by
          rcases hw with e | e | e | e
          · rw [e]; exact bx1
          · rw [e]; exact bA
          · rw [e]; exact b9
          · rw [e]; exact (hst.2.block p (box_lt b9) (by intro e; injection e with e; omega)).trans b9
        exact ⟨box_cell hb 0 _ rfl, box_cell hb 1 _ rfl, box_cell hb 2 _ rfl⟩
      have HR9 := Lib.hid hr9
      have HSZD := Lib.hid hszd
      clear ho1 hf1 hb1' bx1 hszd hal hoa hfa hba hszA hra hcn hr9 ho9 hg9 hn9 hb9 ho9' hgq hqs hfq hf9 ho10 hst hb9' HD HR
      refine wp_region_relA (fun x => { tmps := #[.agg #[.int .i64 nn, .slice (some ⟨b1, o1, none⟩) l c], .pointer (some ⟨gb, 0, none⟩), .slice none 0 0, .slice (some ⟨q, 0, none⟩) nn nn, undef, .pointer (some ⟨p, 0, none⟩), .pointer (some ⟨gb, 0, none⟩), .int .i64 nn, .slice (some ⟨q, 0, none⟩) nn nn, .pointer (some ⟨gb, 1, none⟩), .slice (some ⟨b1, o1, none⟩) l c, .int .i64 l, .int .i64 k, x 13, x 14, x 15, x 16, x 17, x 18, x 19, x 20, x 21, x 22, x 23, x 24, x 25, x 26, x 27, x 28, undef], defers := [] })
        (fun _ L wx => Stg 9 10 12 7 wd (wd.alloc (.cells #[.int .i64 yn, .int .i64 y1, .int .i64 y2] 34)) w9 (w9.setCell ⟨q, yn, none⟩ (.slice a9 (n0 + 1) c9)) L wx) (fun _ _ _ => True)
        (Tl [cst (.slice (some ⟨q, 0, none⟩) nn nn), cst (.pointer (some ⟨p, 0, none⟩)), cst (.int .i64 yn), cst (.slice (some ⟨q, 0, none⟩) nn nn), cst (.pointer (some ⟨p, 0, none⟩)), cst (.int .i64 yn), cst (.pointer (some ⟨q, yn, none⟩)), cst (.slice a0 n0 c0), cst (.agg #[.int .i64 yn, .int .i64 y1, .int .i64 y2]), cst (.slice (some ⟨p + 1, 0, none⟩) 1 1), cst (.slice a9 (n0 + 1) c9), cst (.pointer (some ⟨q, yn, none⟩)), tru]) rfl
        (by kernel_rfl) (by kernel_rfl) (by kernel_rfl) (stab_Tl ?hst) (fun _ _ => trivial) (Stg.start2 HWD.out.symm) ?hput ?hop ?hend
      case hst =>
        simp only [List.mem_cons, List.not_mem_nil, or_false, forall_eq_or_imp, forall_eq]
        refine ⟨?_, ?_, ?_, ?_, ?_, ?_, ?_, ?_, ?_, ?_, ?_, ?_, ?_⟩
        all_goals first | exact stab_cst _ _ | exact stab_tru _
      case hput =>
        refine ⟨?_, ?_, ?_, ?_, ?_, ?_, ?_, ?_, ?_, ?_, ?_, ?_, ?_, trivial⟩
        all_goals first | exact fun x v => rfl | exact trivial
      case hop =>
        refine ⟨?_, ?_, ?_, ?_, ?_, ?_, ?_, ?_, ?_, ?_, ?_, ?_, ?_, trivial⟩
        · refine OpRel.plain rfl fun n L x wx K hn hL hG hdep hK => ?_
          clear hdep; go_simp
          exact hK _ _ (hG.other (by decide)) trivial rfl
        · refine OpRel.plain rfl fun n L x wx K hn hL hG hdep hK => ?_
          clear hdep; go_simp
          exact hK _ _ (hG.other (by decide)) trivial rfl
        · refine OpRel.plain rfl fun n L x wx K hn hL hG hdep hK => ?_
          have h17 : x 17 = _ := (hdep 1 rfl).2 _ rfl
          obtain ⟨z0, z1, z2⟩ := HPX.out wx hG.world
          clear hdep; simp only [h17] at hK; go_simp
          exact hK _ _ (hG.other (by decide)) trivial rfl
        · refine OpRel.plain rfl fun n L x wx K hn hL hG hdep hK => ?_
          clear hdep; go_simp
          exact hK _ _ (hG.other (by decide)) trivial rfl
        · refine OpRel.plain rfl fun n L x wx K hn hL hG hdep hK => ?_
          clear hdep; go_simp
          exact hK _ _ (hG.other (by decide)) trivial rfl
        · refine OpRel.plain rfl fun n L x wx K hn hL hG hdep hK => ?_
          have h20 : x 20 = _ := (hdep 4 rfl).2 _ rfl
          obtain ⟨z0, z1, z2⟩ := HPX.out wx hG.world
          clear hdep; simp only [h20] at hK; go_simp
          exact hK _ _ (hG.other (by decide)) trivial rfl
        · refine OpRel.plain rfl fun n L x wx K hn hL hG hdep hK => ?_
          have h19 : x 19 = _ := (hdep 3 rfl).2 _ rfl
          have h21 : x 21 = _ := (hdep 5 rfl).2 _ rfl
          clear hdep; simp only [h19, h21] at hK; go_simp
          exact hK _ _ (hG.other (by decide)) trivial rfl
        · refine OpRel.plain rfl fun n L x wx K hn hL hG hdep hK => ?_
          have h22 : x 22 = _ := (hdep 6 rfl).2 _ rfl
          have k0 := HCQ.out wx (hG.early hL)
          clear hdep; simp only [h22] at hK; go_simp
          exact hK _ _ (hG.other (by decide)) trivial rfl
        · refine OpRel.plain rfl fun n L x wx K hn hL hG hdep hK => ?_
          obtain ⟨z0, z1, z2⟩ := HPX.out wx hG.world
          clear hdep; go_simp
          exact hK _ _ (hG.other (by decide)) trivial rfl
        · refine OpRel.plain rfl fun n L x wx K hn hL hG hdep hK => ?_
          have h24 : x 24 = _ := (hdep 8 rfl).2 _ rfl
          obtain ⟨hw, hS⟩ := hG.at_a hL (by decide)
          subst hw
          have hsz := HSZD.out
          clear hdep; simp only [h24] at hK; go_simp
          exact hK _ _ hS trivial rfl
        · refine OpRel.plain rfl fun n L x wx K hn hL hG hdep hK => ?_
          have h23 : x 23 = .slice a0 n0 c0 := (hdep 7 rfl).2 _ rfl
          have h25 : x 25 = .slice (some ⟨p + 1, 0, none⟩) 1 1 := (hdep 9 rfl).2 _ rfl
          have l7 := (hdep 7 rfl).1; have l9 := (hdep 9 rfl).1
          obtain ⟨hw, hS⟩ := hG.at_b hL l9 l7 (by decide)
          subst hw
          clear hdep
          exact wp_append_run _ _ 23 rfl (.slice a0 n0 c0) (.slice (some ⟨p + 1, 0, none⟩) 1 1) _ h23 h25 HR9.out (hK _ _ hS trivial rfl)
        · refine OpRel.plain rfl fun n L x wx K hn hL hG hdep hK => ?_
          have h16 : x 16 = _ := (hdep 0 rfl).2 _ rfl
          have h18 : x 18 = _ := (hdep 2 rfl).2 _ rfl
          clear hdep; simp only [h16, h18] at hK; go_simp
          exact hK _ _ (hG.other (by decide)) trivial rfl
        · refine OpRel.plain rfl fun n L x wx K hn hL hG hdep hK => ?_
          have h27 : x 27 = _ := (hdep 11 rfl).2 _ rfl
          have h26 : x 26 = _ := (hdep 10 rfl).2 _ rfl
          have l10 := (hdep 10 rfl).1
          obtain ⟨hw, hS⟩ := hG.at_c hL l10 (by decide)
          subst hw
          obtain ⟨k0, f0⟩ := HC9.out
          clear hdep; simp only [h27, h26] at hK; go_simp
          exact hK undef _ hS trivial trivial
      case hend =>
        intro n L x wx _ hG hh
        have hwe := hG.end (hh 12 (by decide)).1
        subst hwe
        clear hh hG
        go_wp2_with fail
        go_roundw
        case rel =>
          refine ⟨k + 1, _, by omega, by go_num, HT10, Lib.hid ?_, HB10⟩
          have e : (fun j : Nat => bucket (ys.take (k + 1)) (j : Int)) = fun j => if j = yn then bucket (ys.take k) yn ++ [((yn : Int), y1, y2)] else bucket (ys.take k) j := HBU.out
          rw [e]; exact HF10.out
        case measure => simp [intOf]; omega
    · obtain rfl : k = l := by omega
      have hf := HF.out
      rw [HT.out] at hf
      have HF2 := Lib.hid hf
      clear hf HF HBS HOK HBL HR HF0
      go_wp2_with fail
      go_ret
      exact ⟨q, bk, rfl, by have := HQ.out.2; omega, HO.out, HF2.out, HB.out⟩
end Go.Proofs.YtgdggkhdollieaaDoor
