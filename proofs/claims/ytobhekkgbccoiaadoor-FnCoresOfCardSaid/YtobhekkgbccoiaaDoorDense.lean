/-
  Dense graphs that are drawn.
-/
import Derived.Test.YtobhekkgbccoiaaDoorDrawN
namespace Go.Proofs.YtobhekkgbccoiaaDoor
open Go.RowKit
set_option linter.unusedVariables false

set_option maxRecDepth 100000 in
set_option maxHeartbeats 8000000 in
theorem l20Dense_any (W : World) (sv : Value) (bs : List Int) (r : Nat) (lim : Int) (w : World) (h : Drw W sv bs r lim w) (hl : lim ≤ 1000) :
    Calls Tryd.prog 52 #[.pointer (some ⟨r, 0, none⟩)] w fun e w' => ∃ v g, e = .returned v ∧ OwGraph w.heap.size w'.heap.size w' v g ∧ g.2.length ≤ 22 ∧ (-1 ≤ g.1 ∧ g.1 ≤ 17) ∧ Drw W sv bs r (lim + 3000) w' ∧ Chg r (r + 1) w w' := by
  have hr := h.lt
  have HD := Lib.hid (h.keep ((Below.refl _ _).alloc (Nat.le_refl _) (.cells #[.int .i64 0, .slice none 0 0] 30)))
  have HC := Lib.hid ((Chg.refl r (r + 1) w).alloc (.cells #[.int .i64 0, .slice none 0 0] 30))
  have BR := Lib.hid (heap_alloc_new w (.cells #[.int .i64 0, .slice none 0 0] 30))
  clear h
  go_enter Tryd.func52, Tryd.ntmps52
  go_wp2_with fail
  generalize (w.alloc (.cells #[.int .i64 0, .slice none 0 0] 30)) = w0 at *
  refine (pick_any W sv _ _ _ _ _ HD.out (by omega) (by omega) (by omega)).mono ?_
  rintro e w4 ⟨ca, rfl, ca0, ca1, ca2, hd, hg⟩
  replace ca1 := ca1 (by omega)
  replace HD := Lib.hid hd; replace HC := Lib.hid (HC.out.trans hg)
  replace BR := Lib.hid ((hg.block _ (box_lt BR.out) (by omega)).trans BR.out)
  clear hd hg ca2
  obtain ⟨m0, hm0⟩ : ∃ m0 : Int, 3 + ca = m0 := ⟨_, rfl⟩
  have hm : 0 ≤ m0 ∧ m0 ≤ 16 := by omega
  have hwm : IntKind.i64.wrap m0 = m0 := IntWalk.i64_in _ (by omega)
  have hlw4 := HD.out.lt
  go_wp2_with fail
  have HG0 : Hid (GE W sv bs r (lim + 1) w (w4.alloc (.cells #[.int .i64 m0, .slice none 0 0] 30)) w.heap.size w4.heap.size (w4.heap.size + 1) m0 (.slice none 0 0) []) := Lib.hid
    ⟨HD.out.keep ((Below.refl _ _).alloc (Nat.le_refl _) _), HC.out.alloc _, box_alloc BR.out _, heap_alloc_new _ _, Ow.nil _ _ _ _ _ _, by simp, hr, Nat.le_refl _, box_lt BR.out⟩
  clear HD HC BR
  generalize (w4.alloc (.cells #[.int .i64 m0, .slice none 0 0] 30)) = w5 at *
  generalize w4.heap.size = px at *
  refine (pick_any W sv _ _ _ _ _ HG0.out.hd (by omega) (by omega) (by omega)).mono ?_
  rintro e w6 ⟨ck, rfl, ck0, ck1, ck2, hd, hg⟩
  replace ck1 := ck1 (by omega)
  have HG1 := Lib.hid (HG0.out.pick hd hg)
  clear hd hg ck2 HG0
  obtain ⟨kk, rfl⟩ := Int.eq_ofNat_of_zero_le ck0
  go_wp2_with fail
  go_loopw [4] (fun i wr => ∃ (k hi : Nat) (m : Int) (v : Value) (L : List Tri), k ≤ 22 ∧ i = .int .i64 k ∧ (0 ≤ m ∧ m ≤ 16) ∧ L.length + k ≤ 22 ∧ Hid (GE W sv bs r (lim + 2000 - 60 * (k : Int)) w wr w.heap.size px hi m v L)) (fun i _ => (intOf i).toNat)
  case atStart => exact ⟨6 + kk, _, m0, _, [], by omega, by go_num, hm, by simp; omega, Lib.hid (HG1.out.mono (by omega))⟩
  case round =>
    clear HG1 hm hwm
    obtain ⟨k, hi, m, v, L, hk, rfl, hm, hlen, HG⟩ := hrel
    obtain ⟨av, cv, rfl, -, -⟩ := Rd.form HG.out.ho.rd
    have hpl := HG.out.plt
    have kx0 := box_cell HG.out.bx 0 (.int .i64 m) rfl; have kx1 := box_cell HG.out.bx 1 (.slice av L.length cv) rfl
    by_cases hk0 : 0 < k
    · go_wp2_with fail
      have HGD := Lib.hid (HG.out.keep (Below.refl wr.heap.size wr).drew |>.mono (lim' := (lim + 2000 - 60 * (k : Int)) + 4 * ((0 : Nat) : Int)) (by omega))
      have hrp : r < px := by omega
      clear kx0 kx1
      refine wp_region_relA (fun x => { tmps := #[.pointer (some ⟨r, 0, none⟩), undef, .pointer (some ⟨w.heap.size, 0, none⟩), .pointer (some ⟨px, 0, none⟩), .int .i64 (k : Int), .pointer (some ⟨r, 0, none⟩), .int .i64 ca, .int .i64 m0, .agg #[.int .i64 m0, .slice none 0 0], .pointer (some ⟨r, 0, none⟩), .int .i64 (kk : Int), .int .i64 (6 + (kk : Int)), x 12, x 13, x 14, x 15, x 16, x 17, x 18, x 19, x 20, x 21, x 22, x 23, x 24, undef, undef, undef, undef], defers := [] })
        (fun c L' wx => (wr.heap.size ≤ wx.heap.size ∧ ∃ hi' m' v' M, GE W sv bs r ((lim + 2000 - 60 * (k : Int)) + 4 * (c : Int)) w wx w.heap.size px hi' m' v' M ∧ (L' 9 = false → m' = m ∧ v' = .slice av L.length cv ∧ M = L) ∧ (L' 9 = true → (∀ i, i < 8 → L' i = true) ∧ M.length ≤ L.length + 1 ∧ (m' = m ∨ m' = 0)))) (fun _ wx wy => Below wx.heap.size wx wy ∨ (∃ q, (q = r ∨ q = px) ∧ Chg q (q + 1) wx wy ∧ wx.heap.size ≤ wy.heap.size))
        (Tl [cst (.agg #[.int .i64 m, .slice av L.length cv]), cst (.pointer (some ⟨r, 0, none⟩)), cst (.pointer (some ⟨px, 0, none⟩)), cst (.int .i64 m), (fun u _ => ∃ a b c, u = .agg #[.int .i64 a, .int .i64 b, .int .i64 c]), (fun u wx => ∃ vv bb y, u = .tuple #[vv, .bool bb] ∧ OwGraph wr.heap.size wx.heap.size wx vv y ∧ y.2.length ≤ L.length + 1 ∧ (y.1 = m ∨ y.1 = 0)), (fun u wx => ∃ vv bb y, u = .tuple #[vv, .bool bb] ∧ OwGraph wr.heap.size wx.heap.size wx vv y ∧ y.2.length ≤ L.length + 1 ∧ (y.1 = m ∨ y.1 = 0)), (fun u wx => ∃ y, OwGraph wr.heap.size wx.heap.size wx u y ∧ y.2.length ≤ L.length + 1 ∧ (y.1 = m ∨ y.1 = 0)), (fun u _ => ∃ bb, u = .bool bb), tru]) rfl
        (by kernel_rfl) (by kernel_rfl) (by kernel_rfl) ?hT0 (fun _ _ => .inl (Below.refl _ _)) ⟨Nat.le_refl _, _, _, _, _, HGD.out, fun _ => ⟨rfl, rfl, rfl⟩, fun h => by cases h⟩ ?hput ?hop ?hend
      case hT0 =>
        intro i j v wx wy hij hr hv
        have own : ∀ vv y, OwGraph wr.heap.size wx.heap.size wx vv y → OwGraph wr.heap.size wy.heap.size wy vv y := by
          rintro vv y ⟨v1, rfl, ho⟩
          rcases hr with hr | ⟨q, hq, hc, hs⟩
          · exact ⟨v1, rfl, (ho.keep hr).mono (Nat.le_refl _) hr.size⟩
          · exact ⟨v1, rfl, (ho.chg hc (.inl (by rcases hq with rfl | rfl <;> omega))).mono (Nat.le_refl _) hs⟩
        match i with
        | 0 | 1 | 2 | 3 | 4 | 8 | 9 => exact hv
        | 5 | 6 => obtain ⟨vv, bb, y, h1, h2, h3⟩ := hv; exact ⟨vv, bb, y, h1, own _ _ h2, h3⟩
        | 7 => obtain ⟨y, h2, h3⟩ := hv; exact ⟨y, own _ _ h2, h3⟩
        | (n + 10) => trivial
      case hput =>
        refine ⟨?_, ?_, ?_, ?_, ?_, ?_, ?_, ?_, ?_, ?_, trivial⟩
        all_goals first | exact fun x v => rfl | exact trivial
      case hop =>
        refine ⟨?_, ?_, ?_, ?_, ?_, ?_, ?_, ?_, ?_, ?_, trivial⟩
        · refine OpRel.plain rfl fun c L' x wx K hn hL hG hdep hK => ?_
          have hL9 : L' 9 = false := by cases h9 : L' 9 with | false => rfl | true => obtain ⟨_, _, _, _, _, _, _, h8⟩ := hG; rw [(h8 h9).1 0 (by decide)] at hL; cases hL
          obtain ⟨hsz, hi', m', v', M, hge, h90, h91⟩ := hG
          obtain ⟨rfl, rfl, rfl⟩ := h90 hL9
          have z0 := box_cell hge.bx 0 (.int .i64 m') rfl; have z1 := box_cell hge.bx 1 (.slice av M.length cv) rfl
          clear hdep; go_simp
          exact hK _ _ ⟨hsz, _, _, _, _, hge.mono (by omega), fun _ => ⟨rfl, rfl, rfl⟩, fun h => by simp [setL, hL9] at h⟩ (.inl (Below.refl _ _)) rfl
        · refine OpRel.plain rfl fun c L' x wx K hn hL hG hdep hK => ?_
          have hL9 : L' 9 = false := by cases h9 : L' 9 with | false => rfl | true => obtain ⟨_, _, _, _, _, _, _, h8⟩ := hG; rw [(h8 h9).1 1 (by decide)] at hL; cases hL
          obtain ⟨hsz, hi', m', v', M, hge, h90, h91⟩ := hG
          obtain ⟨rfl, rfl, rfl⟩ := h90 hL9
          clear hdep; go_simp
          exact hK _ _ ⟨hsz, _, _, _, _, hge.mono (by omega), fun _ => ⟨rfl, rfl, rfl⟩, fun h => by simp [setL, hL9] at h⟩ (.inl (Below.refl _ _)) rfl
        · refine OpRel.plain rfl fun c L' x wx K hn hL hG hdep hK => ?_
          have hL9 : L' 9 = false := by cases h9 : L' 9 with | false => rfl | true => obtain ⟨_, _, _, _, _, _, _, h8⟩ := hG; rw [(h8 h9).1 2 (by decide)] at hL; cases hL
          obtain ⟨hsz, hi', m', v', M, hge, h90, h91⟩ := hG
          obtain ⟨rfl, rfl, rfl⟩ := h90 hL9
          clear hdep; go_simp
          exact hK _ _ ⟨hsz, _, _, _, _, hge.mono (by omega), fun _ => ⟨rfl, rfl, rfl⟩, fun h => by simp [setL, hL9] at h⟩ (.inl (Below.refl _ _)) rfl
        · refine OpRel.plain rfl fun c L' x wx K hn hL hG hdep hK => ?_
          have h19 : x 19 = _ := (hdep 2 rfl).2 _ rfl
          have hL9 : L' 9 = false := by cases h9 : L' 9 with | false => rfl | true => obtain ⟨_, _, _, _, _, _, _, h8⟩ := hG; rw [(h8 h9).1 3 (by decide)] at hL; cases hL
          obtain ⟨hsz, hi', m', v', M, hge, h90, h91⟩ := hG
          obtain ⟨rfl, rfl, rfl⟩ := h90 hL9
          have z0 := box_cell hge.bx 0 (.int .i64 m') rfl
          clear hdep; simp only [h19] at hK; go_simp
          exact hK _ _ ⟨hsz, _, _, _, _, hge.mono (by omega), fun _ => ⟨rfl, rfl, rfl⟩, fun h => by simp [setL, hL9] at h⟩ (.inl (Below.refl _ _)) rfl
        · refine OpRel.plain rfl fun c L' x wx K hn hL hG hdep hK => ?_
          have h18 : x 18 = _ := (hdep 1 rfl).2 _ rfl
          have h20 : x 20 = _ := (hdep 3 rfl).2 _ rfl
          have hL9 : L' 9 = false := by cases h9 : L' 9 with | false => rfl | true => obtain ⟨_, _, _, _, _, _, _, h8⟩ := hG; rw [(h8 h9).1 4 (by decide)] at hL; cases hL
          obtain ⟨hsz, hi', m', v', M, hge, h90, h91⟩ := hG
          obtain ⟨rfl, rfl, rfl⟩ := h90 hL9
          clear hdep; simp only [h18, h20] at hK; go_simp
          (refine (l20Edge_any W sv bs r _ m' wx hge.hd (by simp at hn; omega) (by omega) (by omega)).mono ?_; rintro e w' ⟨a, b, c, rfl, hd, hg⟩; exact hK _ _ ⟨Nat.le_trans hsz hg.size, _, _, _, _, (hge.pick hd hg).mono (by omega), fun _ => ⟨rfl, rfl, rfl⟩, fun h => by simp [setL, hL9] at h⟩ (.inr ⟨r, .inl rfl, hg, hg.size⟩) ⟨a, b, c, rfl⟩)
        · refine OpRel.plain rfl fun c L' x wx K hn hL hG hdep hK => ?_
          have h17 : x 17 = _ := (hdep 0 rfl).2 _ rfl
          obtain ⟨a, b, c, h21⟩ := (hdep 4 rfl).2 _ rfl
          have hL9 : L' 9 = false := by cases h9 : L' 9 with | false => rfl | true => obtain ⟨_, _, _, _, _, _, _, h8⟩ := hG; rw [(h8 h9).1 5 (by decide)] at hL; cases hL
          obtain ⟨hsz, hi', m', v', M, hge, h90, h91⟩ := hG
          obtain ⟨rfl, rfl, rfl⟩ := h90 hL9
          simp only [h21] at hK
          clear hdep; simp only [h17] at hK; go_simp
          (refine (addEdge_any wx _ (m', M) a b c ⟨_, rfl, hge.ho.rd⟩ (by simp only; omega)).mono ?_; rintro e w' ⟨vv, bb, y, rfl, ho, hyl, hym, hb⟩; obtain ⟨v1, rfl, ho1⟩ := ho; exact hK _ _ ⟨Nat.le_trans hsz hb.size, _, _, _, _, (hge.keep hb).mono (by omega), fun _ => ⟨rfl, rfl, rfl⟩, fun h => by simp [setL, hL9] at h⟩ (.inl hb) ⟨_, bb, y, rfl, ⟨v1, rfl, ho1.mono hsz (Nat.le_refl _)⟩, hyl, hym⟩)
        · refine OpRel.plain rfl fun c L' x wx K hn hL hG hdep hK => ?_
          obtain ⟨vv, bb, y, h22, hy⟩ := (hdep 5 rfl).2 _ rfl
          have hL9 : L' 9 = false := by cases h9 : L' 9 with | false => rfl | true => obtain ⟨_, _, _, _, _, _, _, h8⟩ := hG; rw [(h8 h9).1 6 (by decide)] at hL; cases hL
          obtain ⟨hsz, hi', m', v', M, hge, h90, h91⟩ := hG
          obtain ⟨rfl, rfl, rfl⟩ := h90 hL9
          simp only [h22] at hK
          clear hdep; go_simp
          exact hK _ _ ⟨hsz, _, _, _, _, hge.mono (by omega), fun _ => ⟨rfl, rfl, rfl⟩, fun h => by simp [setL, hL9] at h⟩ (.inl (Below.refl _ _)) ⟨vv, bb, y, rfl, hy⟩
        · refine OpRel.plain rfl fun c L' x wx K hn hL hG hdep hK => ?_
          obtain ⟨vv, bb, y, h16, hy⟩ := (hdep 6 rfl).2 _ rfl
          have hL9 : L' 9 = false := by cases h9 : L' 9 with | false => rfl | true => obtain ⟨_, _, _, _, _, _, _, h8⟩ := hG; rw [(h8 h9).1 7 (by decide)] at hL; cases hL
          obtain ⟨hsz, hi', m', v', M, hge, h90, h91⟩ := hG
          obtain ⟨rfl, rfl, rfl⟩ := h90 hL9
          simp only [h16] at hK
          clear hdep; go_simp
          exact hK _ _ ⟨hsz, _, _, _, _, hge.mono (by omega), fun _ => ⟨rfl, rfl, rfl⟩, fun h => by simp [setL, hL9] at h⟩ (.inl (Below.refl _ _)) ⟨y, hy⟩
        · refine OpRel.plain rfl fun c L' x wx K hn hL hG hdep hK => ?_
          obtain ⟨vv, bb, y, h16, hy⟩ := (hdep 6 rfl).2 _ rfl
          obtain ⟨hsz, hi', m', v', M, hge, h90, h91⟩ := hG
          simp only [h16] at hK
          clear hdep; go_simp
          exact hK _ _ ⟨hsz, _, _, _, _, hge.mono (by omega), fun h => h90 (by simpa [setL] using h), fun h => by have h9 := h91 (by simpa [setL] using h); exact ⟨fun i hi => by by_cases h8 : i = 8; omega; simp only [setL, h8, if_false]; exact h9.1 i hi, h9.2⟩⟩ (.inl (Below.refl _ _)) ⟨bb, rfl⟩
        · refine OpRel.plain rfl fun c L' x wx K hn hL hG hdep hK => ?_
          have hA : ∀ i, i < 8 → L' i = true := fun i hi => match i, hi with | 0, _ => (hdep 0 rfl).1 | 1, _ => (hdep 1 rfl).1 | 2, _ => (hdep 2 rfl).1 | 3, _ => (hdep 3 rfl).1 | 4, _ => (hdep 4 rfl).1 | 5, _ => (hdep 5 rfl).1 | 6, _ => (hdep 6 rfl).1 | 7, _ => (hdep 7 rfl).1
          obtain ⟨y, hy, hyl, hym⟩ := (hdep 7 rfl).2 _ rfl
          obtain ⟨hsz, hi', m', v', M, hge, h90, h91⟩ := hG
          obtain ⟨rfl, rfl, rfl⟩ := h90 hL
          obtain ⟨v1, h23, ho1⟩ := hy
          obtain ⟨a9, c9, rfl, -, -⟩ := Rd.form ho1.rd
          clear hdep
          simp only [h23] at hK
          have z0 := box_cell hge.bx 0 (.int .i64 m') rfl; have z1 := box_cell hge.bx 1 (.slice av M.length cv) rfl; have z2 := box_frozen hge.bx 0; have z3 := box_frozen hge.bx 1
          have hbx := box_set (box_set hge.bx 0 (.int .i64 y.1)) 1 (.slice a9 y.2.length c9)
          go_simp
          have hs2 : Chg px (px + 1) wx ((wx.setCell ⟨px, 0, none⟩ (.int .i64 y.1)).setCell ⟨px, 1, none⟩ (.slice a9 y.2.length c9)) := (Chg.setCell (p := ⟨px, 0, none⟩) (Nat.le_refl _) (Nat.lt_succ_self _) _).trans (Chg.setCell (p := ⟨px, 1, none⟩) (Nat.le_refl _) (Nat.lt_succ_self _) _)
          exact hK (.bool false) _ ⟨Nat.le_trans hsz hs2.size, _, _, _, _, (hge.set (Chg.refl (px + 1) (px + 1) wx) (ho1.mono (by omega) (Nat.le_refl _)) (by simpa using hbx) hs2).mono (by omega), fun h => by simp [setL] at h, fun _ => ⟨fun i hi => by simp only [setL]; rw [if_neg (by omega)]; exact hA i hi, hyl, hym⟩⟩ (.inr ⟨px, .inr rfl, hs2, hs2.size⟩) trivial
      case hend =>
        intro n' L' x wx hn' hG hh
        obtain ⟨hsz, hi', m', v', M, hge, -, h91⟩ := hG
        obtain ⟨-, hml, hmm⟩ := h91 (hh 9 (by decide)).1
        have HG9 := Lib.hid (hge.mono (lim' := (lim + 2000 - 60 * (k : Int)) + 60) (by simp at hn'; omega))
        clear hge hh h91
        go_wp2_with fail
        go_roundw
        case rel => exact ⟨k - 1, _, _, _, _, by omega, by go_num, by omega, by omega, Lib.hid (HG9.out.mono (by omega))⟩
        case measure => simp [intOf]; omega
    · obtain rfl : k = 0 := by omega
      have hlm := HG.out.rlo; have hlp := HG.out.rbl
      go_wp2_with fail
      refine (odd_any W sv _ _ _ 12 _ HG.out.hd (by omega) (by omega) (by omega)).mono ?_
      rintro e wA ⟨b, rfl, -, hd, hg⟩
      have HA := Lib.hid (HG.out.pick hd hg)
      clear hd hg HG kx0 kx1
      cases b
      · skip
        have kx0 := box_cell HA.out.bx 0 (.int .i64 m) rfl; have kx1 := box_cell HA.out.bx 1 (.slice av L.length cv) rfl; have ky0 := box_cell HA.out.br 0 (.int .i64 0) rfl; have ky1 := box_cell HA.out.br 1 (.slice none 0 0) rfl; have fy0 := box_frozen HA.out.br 0; have fy1 := box_frozen HA.out.br 1
        go_wp2_with fail
        have hfin := (HA.out.mono (lim' := lim + 3000) (by omega)).done
        exact bodyPost_ret (v := .agg #[.int .i64 m, .slice av L.length cv]) (by simp [results, Tryd.results52, go_sem, ky0, ky1]) rfl ⟨_, (m, L), rfl, hfin.1, by simp only; omega, ⟨by simp only; omega, by simp only; omega⟩, hfin.2⟩
      · skip
        have hbs := box_set HA.out.bx 0 (.int .i64 1)
        have HF := Lib.hid (HA.out.set (m' := 1) (v' := .slice av L.length cv) (L' := L) (Chg.refl (px + 1) (px + 1) wA) (HA.out.ho.mono (Nat.le_refl _) HA.out.top) (by simpa using hbs) (Chg.setCell (p := ⟨px, 0, none⟩) (Nat.le_refl _) (Nat.lt_succ_self _) (.int .i64 1)))
        have kx0 := box_cell HA.out.bx 0 (.int .i64 m) rfl; have fx0 := box_frozen HA.out.bx 0
        have xx0 := box_cell HF.out.bx 0 (.int .i64 1) rfl; have xx1 := box_cell HF.out.bx 1 (.slice av L.length cv) rfl; have ky0 := box_cell HF.out.br 0 (.int .i64 0) rfl; have ky1 := box_cell HF.out.br 1 (.slice none 0 0) rfl; have fy0 := box_frozen HF.out.br 0; have fy1 := box_frozen HF.out.br 1
        clear hbs
        go_wp2_with fail
        have hfin := (HF.out.mono (lim' := lim + 3000) (by omega)).done
        exact bodyPost_ret (v := .agg #[.int .i64 1, .slice av L.length cv]) (by simp [results, Tryd.results52, go_sem, ky0, ky1]) rfl ⟨_, (1, L), rfl, hfin.1, by simp only; omega, ⟨by simp only; omega, by simp only; omega⟩, hfin.2⟩
set_option maxRecDepth 100000 in
set_option maxHeartbeats 1000000 in
theorem DrawTrianglesAt_any (W : World) (va : Value) (bs : List Int) (hr : Rd W 1 va bs.length (bys bs)) (hg : ∀ x ∈ bs, 0 ≤ x ∧ x ≤ 255) :
    Calls Tryd.prog 25 #[va] W (DrewG W) := by
  have hb0 : Below W.heap.size W (W.alloc (.cells #[.int .i64 0, .slice none 0 0] 30)) := (Below.refl _ _).alloc (Nat.le_refl _) _
  have HO := Lib.hid (open_any W va bs (W.alloc (.cells #[.int .i64 0, .slice none 0 0] 30)) hr hg hb0); clear hr hg
  have BR := Lib.hid (heap_alloc_new W (.cells #[.int .i64 0, .slice none 0 0] 30))
  have hs0 : (W.alloc (.cells #[.int .i64 0, .slice none 0 0] 30)).heap.size = W.heap.size + 1 := by simp
  have HB := Lib.hid hb0; clear hb0
  go_enter Tryd.func25, Tryd.ntmps25
  go_wp2_with fail
  generalize (W.alloc (.cells #[.int .i64 0, .slice none 0 0] 30)) = w0 at *
  refine HO.out.mono ?_
  rintro e w1 ⟨sv, bs', rfl, hd, hb1, hs1⟩
  rw [hs0] at hd hs1
  have HD := Lib.hid hd
  replace BR := Lib.hid (box_keep BR.out hb1); replace HB := Lib.hid (HB.out.tr hb1)
  clear hd HO hb1
  go_wp2_with fail
  refine (l20Dense_any W sv bs' _ _ _ HD.out (by omega)).mono ?_
  rintro e w2 ⟨v, g, rfl, hrd, hlen, hm, hd, hc⟩
  obtain ⟨a, c, rfl, hr, hc1, hc2⟩ := hrd.rd.form
  have HR := Lib.hid hrd
  have hbr := box_lt BR.out
  replace BR := Lib.hid ((hc.block _ hbr (.inl (by omega))).trans BR.out)
  have HB2 := Lib.hid hd.below
  have hsz := hd.below.size
  clear hd hc HD hr HB hrd
  have y0 := box_cell BR.out 0 (.int .i64 0) rfl; have y1 := box_cell BR.out 1 (.slice none 0 0) rfl; have f0 := box_frozen BR.out 0; have f1 := box_frozen BR.out 1
  go_wp2_with fail
  have hK : Chg W.heap.size (W.heap.size + 1) w2 ((w2.setCell ⟨W.heap.size, 0, none⟩ (.int .i64 g.1)).setCell ⟨W.heap.size, 1, none⟩ (.slice a g.2.length c)) := (Chg.setCell (p := ⟨W.heap.size, 0, none⟩) (Nat.le_refl _) (Nat.lt_succ_self _) _).trans (Chg.setCell (p := ⟨W.heap.size, 1, none⟩) (Nat.le_refl _) (Nat.lt_succ_self _) _)
  have HR2 := HR.out.chg hK (.inl (by omega))
  exact bodyPost_ret (v := .agg #[.int .i64 g.1, .slice a g.2.length c]) (by simp [results, Tryd.results25, go_sem, y0, y1]) rfl ⟨a, c, g, rfl, HR2.rd, by omega, hm, ⟨hc1, hc2⟩, hK.below HB2.out (Nat.le_refl _)⟩
set_option maxRecDepth 100000 in
set_option maxHeartbeats 1000000 in
theorem DrawCoresOf_any (W : World) (va : Value) (bs : List Int) (hr : Rd W 1 va bs.length (bys bs)) (hg : ∀ x ∈ bs, 0 ≤ x ∧ x ≤ 255) :
    Calls Tryd.prog 32 #[va] W (DrewG W) := by
  have hb0 : Below W.heap.size W (W.alloc (.cells #[.int .i64 0, .slice none 0 0] 30)) := (Below.refl _ _).alloc (Nat.le_refl _) _
  have HO := Lib.hid (open_any W va bs (W.alloc (.cells #[.int .i64 0, .slice none 0 0] 30)) hr hg hb0); clear hr hg
  have BR := Lib.hid (heap_alloc_new W (.cells #[.int .i64 0, .slice none 0 0] 30))
  have hs0 : (W.alloc (.cells #[.int .i64 0, .slice none 0 0] 30)).heap.size = W.heap.size + 1 := by simp
  have HB := Lib.hid hb0; clear hb0
  go_enter Tryd.func32, Tryd.ntmps32
  go_wp2_with fail
  generalize (W.alloc (.cells #[.int .i64 0, .slice none 0 0] 30)) = w0 at *
  refine HO.out.mono ?_
  rintro e w1 ⟨sv, bs', rfl, hd, hb1, hs1⟩
  rw [hs0] at hd hs1
  have HD := Lib.hid hd
  replace BR := Lib.hid (box_keep BR.out hb1); replace HB := Lib.hid (HB.out.tr hb1)
  clear hd HO hb1
  go_wp2_with fail
  refine (l20Dense_any W sv bs' _ _ _ HD.out (by omega)).mono ?_
  rintro e w2 ⟨v, g, rfl, hrd, hlen, hm, hd, hc⟩
  obtain ⟨a, c, rfl, hr, hc1, hc2⟩ := hrd.rd.form
  have HR := Lib.hid hrd
  have hbr := box_lt BR.out
  replace BR := Lib.hid ((hc.block _ hbr (.inl (by omega))).trans BR.out)
  have HB2 := Lib.hid hd.below
  have hsz := hd.below.size
  clear hd hc HD hr HB hrd
  have y0 := box_cell BR.out 0 (.int .i64 0) rfl; have y1 := box_cell BR.out 1 (.slice none 0 0) rfl; have f0 := box_frozen BR.out 0; have f1 := box_frozen BR.out 1
  go_wp2_with fail
  have hK : Chg W.heap.size (W.heap.size + 1) w2 ((w2.setCell ⟨W.heap.size, 0, none⟩ (.int .i64 g.1)).setCell ⟨W.heap.size, 1, none⟩ (.slice a g.2.length c)) := (Chg.setCell (p := ⟨W.heap.size, 0, none⟩) (Nat.le_refl _) (Nat.lt_succ_self _) _).trans (Chg.setCell (p := ⟨W.heap.size, 1, none⟩) (Nat.le_refl _) (Nat.lt_succ_self _) _)
  have HR2 := HR.out.chg hK (.inl (by omega))
  exact bodyPost_ret (v := .agg #[.int .i64 g.1, .slice a g.2.length c]) (by simp [results, Tryd.results32, go_sem, y0, y1]) rfl ⟨a, c, g, rfl, HR2.rd, by omega, hm, ⟨hc1, hc2⟩, hK.below HB2.out (Nat.le_refl _)⟩
end Go.Proofs.YtobhekkgbccoiaaDoor
