/-
  Joined by program (merge.py): Body7, Body8, Body, Fld, Fld2.
-/
import Derived.Great.BuildSlice
import Derived.Deep.MidRow
import Derived.OrdersHeld
import Derived.Test.YtmfplinbbcoahaaM2
import Derived.Test.YtmfplinbbcoahaaM4
import Derived.Test.YtmfplinbbcoahaaM5
import Derived.Test.YtmfplinbbcoahaaM8
import Derived.Test.YtmfplinbbcoahaaM10
import Derived.Test.YtmfplinbbcoahaaM11
/-
  Chapter 26: a block's body laid, kind by kind, walked (five).
-/
namespace Go.Proofs.Ytmfplinbbcoahaa
open Go.RowKit Go.Sort
set_option linter.unusedVariables false
set_option linter.unusedSimpArgs false

theorem four_zeros : (madeCells (Value.int IntKind.u8 0).cells (4 * 1)).toList = BV [0, 0, 0, 0] := by
  show (madeCells #[Value.int .u8 0] 4).toList = _
  rw [toList_madeCells_one]
  rfl
set_option maxRecDepth 100000 in
set_option maxHeartbeats 8000000 in
theorem body5a_any (v : BlkV) (big : Bool) (w : World) (hv : Blk w v) (hk : v.kind = 5) (hf : SmB v) (hm : mayP v.val = true) (hw : wfB v.val) (hz : vals v.ns = []) :
    Calls Try.prog 48 #[.agg v.cells.toArray, .bool big] w fun e w' => (∃ ad c, e = .returned (.slice ad (bodyB big v.val).length c) ∧ Bs w' ad (bodyB big v.val).length c (bodyB big v.val)) ∧ Below w.heap.size w w' := by
  obtain ⟨z1, z2, z3⟩ := hf.sizes
  obtain ⟨_, hfit, hlink, hifc, hwo, hwn, hlast⟩ := (mayP_iff v.val).1 hm
  obtain ⟨hw1, hw2, hw3, hw4'⟩ := hw
  change 0 ≤ v.link ∧ v.link ≤ 65535 at hlink
  change 0 ≤ v.iface ∧ v.iface ≤ 4294967295 at hifc
  change wrongO (vals v.os) = 0 at hwo
  change wrongO (vals v.ns) = 0 at hwn
  change v.type < 4294967296 at hw1
  change v.snap < 4294967296 at hw2
  change v.time < 18446744073709551616 at hw3
  change v.len < 4294967296 at hw4'
  have HB := Lib.hid (Below.refl w.heap.size w)
  have HV := Lib.hid hv
  have HFIT := Lib.hid hfit
  have HWo := Lib.hid hwo
  have HWn := Lib.hid hwn
  obtain ⟨PO, hPO⟩ : ∃ P, P = putAll big (vals v.os) := ⟨_, rfl⟩
  have hpl : PO.length ≤ 70424 := by rw [hPO, putAll_length]; split <;> omega
  have HPO := Lib.hid hPO
  obtain ⟨L0, hL0⟩ : ∃ L : List UInt8, L = [] := ⟨_, rfl⟩
  have hn0 : L0.length ≤ 0 := by rw [hL0]; exact Nat.le_refl _
  have HL0 := Lib.hid hL0
  obtain ⟨PN, hPN⟩ : ∃ P, P = putAll big (vals v.ns) := ⟨_, rfl⟩
  have HPN := Lib.hid hPN
  obtain ⟨pn, hpn⟩ : ∃ n, n = PN.length := ⟨_, rfl⟩
  have hpnb : pn ≤ 70424 := by rw [hpn, hPN, putAll_length]; split <;> omega
  have HDN := Lib.hid hpn
  have HP0 : Hid (pn = 0) := Lib.hid (by rw [hpn, hPN, hz]; rfl)
  obtain ⟨Z4, hZ4⟩ : ∃ Z : List UInt8, Z = [0, 0, 0, 0] := ⟨_, rfl⟩
  have HZ4 := Lib.hid hZ4
  have HDL : Hid (4 = Z4.length) := Lib.hid (by rw [hZ4]; rfl)
  have HNB : Hid (namesB big (vals v.ns) = Z4) := Lib.hid (by rw [hz, hZ4]; rfl)
  clear hz hZ4 hPN hpn
  clear hv hf hm hfit hwo hwn hlast hPO hL0
  go_enter Try.func48, Try.ntmps48
  go_wp2_with (first
    | ((with_reducible refine sl 2 ?_); go_must (refine wpL_box rfl 27 (.tmp 0) rfl v.cells.toArray rfl ?_); intro w1 hg1 hb1; have hz1 := lt_of_block hg1; obtain ⟨w4, hw4⟩ : ∃ w4, w4 = ((w1.alloc (.cells #[.bool big] 4)).alloc (.cells #[.slice none 0 0] 24)).alloc (.cells #[.func (.func 76) #[] #[.pointer (some ⟨w1.heap.size + 1, 0, none⟩), .pointer (some ⟨w1.heap.size, 0, none⟩)]] 97) := ⟨_, rfl⟩; have h14 := body_prelude w1 big; rw [← hw4] at h14; have HG := Lib.hid ((h14.1.block _ hz1).trans hg1); have H6 := Lib.hid h14.2.2; have ho4 := h14.2.1; rw [← HL0.out] at ho4; have HO := Lib.hid ho4; clear ho4; have HB' := Lib.hid ((HB.out.trans hb1).trans (h14.1.mono (by omega))); clear HB; have HB := HB'; clear HB'; have HW4 := Lib.hid hw4; obtain ⟨c0, c1, c2, c3, c4, c5, c6, c7, c8, c9, c10⟩ := blk_cells HG.out; have m6 := cell_of_one H6.out; unfold numF at m6; obtain ⟨ad5, k5, h51, h52, h53, _, _, _, h57⟩ := HO.out; have m5 := cell_of_one h51; have m3 := cell_of_one h53; have f5 := free_of_one h51; have H51 := Lib.hid h51; have H52 := Lib.hid h52; have H53 := Lib.hid h53; have H57 := Lib.hid h57; clear h51 h52 h53 h57; clear hg1 hb1 hw4 h14; simp only [PT])
    | ((with_reducible refine sl 14 ?_); rw [← HW4.out]; clear HW4)
    | (go_at_call 80; (with_reducible show Calls _ _ #[Value.slice v.nad _ _, _] _ _); go_must (refine (optPut_any v.nad v.nn v.nc v.ns big _ (HV.out.2.1.below (HB.out.trans (Below.mono bup HB.out.size))) (by omega)).mono ?_); intro e w20 hr; rw [HWn.out] at hr; rw [← HPN.out] at hr; rw [← HDN.out] at hr; rw [HP0.out] at hr; obtain ⟨hb, h3⟩ := hr; rcases h3 with ⟨h3, _⟩ | ⟨_, ad20, c20, rfl, ho20⟩; exact absurd rfl h3;  have ho := HO.out.below hb; have hk : Kb (w1.heap.size + 3) (w1.heap.size + 1) _ w20 := Kb.of_below (hb.mono H57.out); clear ho20; clear c0 c1 c2 c3 c4 c5 c6 c7 c8 c9 c10 m6 m5 m3 f5 H51 H52 H53 H57; have HG' := Lib.hid (Kb.block hk (by omega) (by omega) HG.out); clear HG; have HG := HG'; clear HG'; have H6' := Lib.hid (Kb.block hk (by omega) (by omega) H6.out); clear H6; have H6 := H6'; clear H6'; have HB' := Lib.hid (Kb.below HB.out hk (by omega) (by omega)); clear HB; have HB := HB'; clear HB'; clear HO; have HO := Lib.hid ho; obtain ⟨c0, c1, c2, c3, c4, c5, c6, c7, c8, c9, c10⟩ := blk_cells HG.out; have m6 := cell_of_one H6.out; unfold numF at m6; obtain ⟨ad5, k5, h51, h52, h53, _, _, _, h57⟩ := HO.out; have m5 := cell_of_one h51; have m3 := cell_of_one h53; have f5 := free_of_one h51; have H51 := Lib.hid h51; have H52 := Lib.hid h52; have H53 := Lib.hid h53; have H57 := Lib.hid h57; clear h51 h52 h53 h57; clear ho hk; clear hb)
    | ((with_reducible refine sl 95 ?_); go_must (refine wpL_make elB rfl (.const (.int .i64 4)) (.const (.int .i64 4)) rfl w1.heap.size 4 rfl rfl rfl rfl (by omega) (by unfold maxLen; omega) (by have := H57.out; omega) ?_); intro w21 ho21 hg21; go_must (have hb : Below w20.heap.size w20 w21 := (Below.refl _ _).grown hg21 (Nat.le_refl _) (fun k e => by cases e)); go_must (have H20 := Lib.hid (show Bs w21 (some ⟨w20.heap.size, 0, none⟩) 4 4 Z4 from by rw [HZ4.out]; exact Bs.of_own (l := [0, 0, 0, 0]) (four_zeros ▸ ho21))); have ho := HO.out.below hb; have hk : Kb (w1.heap.size + 3) (w1.heap.size + 1) _ w21 := Kb.of_below (hb.mono H57.out); clear ho21 hg21; clear c0 c1 c2 c3 c4 c5 c6 c7 c8 c9 c10 m6 m5 m3 f5 H51 H52 H53 H57; have HG' := Lib.hid (Kb.block hk (by omega) (by omega) HG.out); clear HG; have HG := HG'; clear HG'; have H6' := Lib.hid (Kb.block hk (by omega) (by omega) H6.out); clear H6; have H6 := H6'; clear H6'; have HB' := Lib.hid (Kb.below HB.out hk (by omega) (by omega)); clear HB; have HB := HB'; clear HB'; clear HO; have HO := Lib.hid ho; obtain ⟨c0, c1, c2, c3, c4, c5, c6, c7, c8, c9, c10⟩ := blk_cells HG.out; have m6 := cell_of_one H6.out; unfold numF at m6; obtain ⟨ad5, k5, h51, h52, h53, _, _, _, h57⟩ := HO.out; have m5 := cell_of_one h51; have m3 := cell_of_one h53; have f5 := free_of_one h51; have H51 := Lib.hid h51; have H52 := Lib.hid h52; have H53 := Lib.hid h53; have H57 := Lib.hid h57; clear h51 h52 h53 h57; clear ho hk; clear hb; simp only [PT])
    | ((with_reducible refine sl 98 ?_); go_must (refine wpL_append elB rfl (.tmp 96) (.tmp 97) rfl (w1.heap.size + 3) rfl H52.out rfl H20.out (BV_one _) (by unfold maxLen; omega) (by omega) H57.out ?_); intro adn kn w7 hown hgr _ _; rw [← BV_append] at hown; have HS7 := Lib.hid (show Below (w1.heap.size + 3) w21 w7 from ((Below.refl _ _)).grown hgr H57.out (ownBlock_ge H52.out)); have HO7 := Lib.hid hown; have H517 := Lib.hid ((HS7.out.block _ (by omega)).trans H51.out); have H537 := Lib.hid ((HS7.out.block _ (by omega)).trans H53.out); clear hown hgr; simp only [PT])
    | ((with_reducible show wpList _ _ _ (⟨none, .store _ _ (.tmp 98), _, _, _, _⟩ :: _) _ _); go_must (refine wpL_store1 rfl 24 (.tmp 5) (.tmp 98) rfl (w1.heap.size + 1) (.slice adn (L0.length + 4) kn) rfl rfl rfl H517.out (by kernel_rfl) ?_); intro w11 hg8 hgr8; obtain ⟨L1, hL1⟩ : ∃ L, L = L0 ++ Z4 := ⟨_, rfl⟩; have hl8 : L0.length + 4 = (L0 ++ Z4).length := (by (try have hdl := HDL.out); rw [List.length_append]; omega); have ho := outB_store HO7.out hl8 hg8 hgr8 H537.out (by omega) (by omega) (by omega) (Nat.le_trans H57.out HS7.out.size); have hk := Kb.trans (Kb.of_below (g5 := w1.heap.size + 1) HS7.out) (Kb.of_grown hgr8 (Nat.le_trans H57.out HS7.out.size)); rw [← hL1] at ho; have hn1 : L1.length ≤ L0.length + 4 := (by rw [hL1, ← hl8]; exact Nat.le_refl _); have HL1 := Lib.hid hL1; clear hL1 hl8 hg8 hgr8 HS7 HO7 H517 H537; clear c0 c1 c2 c3 c4 c5 c6 c7 c8 c9 c10 m6 m5 m3 f5 H51 H52 H53 H57; have HG' := Lib.hid (Kb.block hk (by omega) (by omega) HG.out); clear HG; have HG := HG'; clear HG'; have H6' := Lib.hid (Kb.block hk (by omega) (by omega) H6.out); clear H6; have H6 := H6'; clear H6'; have HB' := Lib.hid (Kb.below HB.out hk (by omega) (by omega)); clear HB; have HB := HB'; clear HB'; clear HO; have HO := Lib.hid ho; obtain ⟨c0, c1, c2, c3, c4, c5, c6, c7, c8, c9, c10⟩ := blk_cells HG.out; have m6 := cell_of_one H6.out; unfold numF at m6; obtain ⟨ad5, k5, h51, h52, h53, _, _, _, h57⟩ := HO.out; have m5 := cell_of_one h51; have m3 := cell_of_one h53; have f5 := free_of_one h51; have H51 := Lib.hid h51; have H52 := Lib.hid h52; have H53 := Lib.hid h53; have H57 := Lib.hid h57; clear h51 h52 h53 h57; clear ho hk; simp only [PT])
    | (go_at_call 80; (with_reducible show Calls _ _ #[Value.slice v.oad _ _, _] _ _); go_must (refine (optPut_any v.oad v.on v.oc v.os big _ (HV.out.2.2.below (HB.out.trans (Below.mono bup HB.out.size))) (by omega)).mono ?_); intro e w40 hr; rw [HWo.out] at hr; rw [← HPO.out] at hr; obtain ⟨hb, h3⟩ := hr; rcases h3 with ⟨h3, _⟩ | ⟨_, ad40, c40, rfl, ho40⟩; exact absurd rfl h3; have H40 := Lib.hid (Bs.of_own ho40); have ho := HO.out.below hb; have hk : Kb (w1.heap.size + 3) (w1.heap.size + 1) _ w40 := Kb.of_below (hb.mono H57.out); clear ho40; clear c0 c1 c2 c3 c4 c5 c6 c7 c8 c9 c10 m6 m5 m3 f5 H51 H52 H53 H57; have HG' := Lib.hid (Kb.block hk (by omega) (by omega) HG.out); clear HG; have HG := HG'; clear HG'; have H6' := Lib.hid (Kb.block hk (by omega) (by omega) H6.out); clear H6; have H6 := H6'; clear H6'; have HB' := Lib.hid (Kb.below HB.out hk (by omega) (by omega)); clear HB; have HB := HB'; clear HB'; clear HO; have HO := Lib.hid ho; obtain ⟨c0, c1, c2, c3, c4, c5, c6, c7, c8, c9, c10⟩ := blk_cells HG.out; have m6 := cell_of_one H6.out; unfold numF at m6; obtain ⟨ad5, k5, h51, h52, h53, _, _, _, h57⟩ := HO.out; have m5 := cell_of_one h51; have m3 := cell_of_one h53; have f5 := free_of_one h51; have H51 := Lib.hid h51; have H52 := Lib.hid h52; have H53 := Lib.hid h53; have H57 := Lib.hid h57; clear h51 h52 h53 h57; clear ho hk; clear hb)
    | ((with_reducible refine sl 117 ?_); go_must (refine wpL_append elB rfl (.tmp 115) (.tmp 116) rfl (w1.heap.size + 3) rfl H52.out rfl H40.out (BV_one _) (by unfold maxLen; omega) (by omega) H57.out ?_); intro ad41 c41 w41 hown hgr hat hnil; have HB' := Lib.hid (HB.out.grown hgr HB.out.size (fun k e => by have := ownBlock_ge H52.out k e; omega)); clear HB; have HB := HB'; clear HB'; rw [← BV_append] at hown; have H41 := Lib.hid (Bs.of_own hown); clear hown hgr hat hnil; simp only [PT]))
  have HFIN : Hid (L1 ++ PO = bodyB big v.val) := Lib.hid (by
    rw [HL1.out, HL0.out, HPO.out]
    unfold bodyB fieldsB BlkV.val
    simp [hk, HNB.out])
  go_ret
  refine ⟨⟨ad41, c41, ?_, ?_⟩, HB.out⟩
  · rw [← HFIN.out, List.length_append]
    rfl
  · rw [← HFIN.out, List.length_append]
    exact H41.out
set_option maxRecDepth 100000 in
set_option maxHeartbeats 8000000 in
theorem body5b_any (v : BlkV) (big : Bool) (w : World) (hv : Blk w v) (hk : v.kind = 5) (hf : SmB v) (hm : mayP v.val = true) (hw : wfB v.val) (hz : ¬ vals v.ns = []) :
    Calls Try.prog 48 #[.agg v.cells.toArray, .bool big] w fun e w' => (∃ ad c, e = .returned (.slice ad (bodyB big v.val).length c) ∧ Bs w' ad (bodyB big v.val).length c (bodyB big v.val)) ∧ Below w.heap.size w w' := by
  obtain ⟨z1, z2, z3⟩ := hf.sizes
  obtain ⟨_, hfit, hlink, hifc, hwo, hwn, hlast⟩ := (mayP_iff v.val).1 hm
  obtain ⟨hw1, hw2, hw3, hw4'⟩ := hw
  change 0 ≤ v.link ∧ v.link ≤ 65535 at hlink
  change 0 ≤ v.iface ∧ v.iface ≤ 4294967295 at hifc
  change wrongO (vals v.os) = 0 at hwo
  change wrongO (vals v.ns) = 0 at hwn
  change v.type < 4294967296 at hw1
  change v.snap < 4294967296 at hw2
  change v.time < 18446744073709551616 at hw3
  change v.len < 4294967296 at hw4'
  have HB := Lib.hid (Below.refl w.heap.size w)
  have HV := Lib.hid hv
  have HFIT := Lib.hid hfit
  have HWo := Lib.hid hwo
  have HWn := Lib.hid hwn
  obtain ⟨PO, hPO⟩ : ∃ P, P = putAll big (vals v.os) := ⟨_, rfl⟩
  have hpl : PO.length ≤ 70424 := by rw [hPO, putAll_length]; split <;> omega
  have HPO := Lib.hid hPO
  obtain ⟨L0, hL0⟩ : ∃ L : List UInt8, L = [] := ⟨_, rfl⟩
  have hn0 : L0.length ≤ 0 := by rw [hL0]; exact Nat.le_refl _
  have HL0 := Lib.hid hL0
  obtain ⟨PN, hPN⟩ : ∃ P, P = putAll big (vals v.ns) := ⟨_, rfl⟩
  have HPN := Lib.hid hPN
  obtain ⟨pn, hpn⟩ : ∃ n, n = PN.length := ⟨_, rfl⟩
  have hpnb : pn ≤ 70424 := by rw [hpn, hPN, putAll_length]; split <;> omega
  have HDN := Lib.hid hpn
  have hz1 : ¬ pn = 0 := by
    intro e
    rw [hpn, hPN, putAll_length] at e
    cases h : vals v.ns with
    | nil => exact hz h
    | cons x y => rw [h] at e; simp at e
  have hzi : ¬ (pn : Int) = 0 := by omega
  have HDL := Lib.hid hpn
  have HNB : Hid (namesB big (vals v.ns) = PN) := Lib.hid (by
    rw [hPN]
    unfold namesB
    cases h : vals v.ns with
    | nil => exact absurd h hz
    | cons x y => rfl)
  clear hz hPN hpn
  clear hv hf hm hfit hwo hwn hlast hPO hL0
  go_enter Try.func48, Try.ntmps48
  go_wp2_with (first
    | ((with_reducible refine sl 2 ?_); go_must (refine wpL_box rfl 27 (.tmp 0) rfl v.cells.toArray rfl ?_); intro w1 hg1 hb1; have hz1 := lt_of_block hg1; obtain ⟨w4, hw4⟩ : ∃ w4, w4 = ((w1.alloc (.cells #[.bool big] 4)).alloc (.cells #[.slice none 0 0] 24)).alloc (.cells #[.func (.func 76) #[] #[.pointer (some ⟨w1.heap.size + 1, 0, none⟩), .pointer (some ⟨w1.heap.size, 0, none⟩)]] 97) := ⟨_, rfl⟩; have h14 := body_prelude w1 big; rw [← hw4] at h14; have HG := Lib.hid ((h14.1.block _ hz1).trans hg1); have H6 := Lib.hid h14.2.2; have ho4 := h14.2.1; rw [← HL0.out] at ho4; have HO := Lib.hid ho4; clear ho4; have HB' := Lib.hid ((HB.out.trans hb1).trans (h14.1.mono (by omega))); clear HB; have HB := HB'; clear HB'; have HW4 := Lib.hid hw4; obtain ⟨c0, c1, c2, c3, c4, c5, c6, c7, c8, c9, c10⟩ := blk_cells HG.out; have m6 := cell_of_one H6.out; unfold numF at m6; obtain ⟨ad5, k5, h51, h52, h53, _, _, _, h57⟩ := HO.out; have m5 := cell_of_one h51; have m3 := cell_of_one h53; have f5 := free_of_one h51; have H51 := Lib.hid h51; have H52 := Lib.hid h52; have H53 := Lib.hid h53; have H57 := Lib.hid h57; clear h51 h52 h53 h57; clear hg1 hb1 hw4 h14; simp only [PT])
    | ((with_reducible refine sl 14 ?_); rw [← HW4.out]; clear HW4)
    | (go_at_call 80; (with_reducible show Calls _ _ #[Value.slice v.nad _ _, _] _ _); go_must (refine (optPut_any v.nad v.nn v.nc v.ns big _ (HV.out.2.1.below (HB.out.trans (Below.mono bup HB.out.size))) (by omega)).mono ?_); intro e w20 hr; rw [HWn.out] at hr; rw [← HPN.out] at hr; rw [← HDN.out] at hr;  obtain ⟨hb, h3⟩ := hr; rcases h3 with ⟨h3, _⟩ | ⟨_, ad20, c20, rfl, ho20⟩; exact absurd rfl h3; have H20 := Lib.hid (Bs.of_own ho20); have ho := HO.out.below hb; have hk : Kb (w1.heap.size + 3) (w1.heap.size + 1) _ w20 := Kb.of_below (hb.mono H57.out); clear ho20; clear c0 c1 c2 c3 c4 c5 c6 c7 c8 c9 c10 m6 m5 m3 f5 H51 H52 H53 H57; have HG' := Lib.hid (Kb.block hk (by omega) (by omega) HG.out); clear HG; have HG := HG'; clear HG'; have H6' := Lib.hid (Kb.block hk (by omega) (by omega) H6.out); clear H6; have H6 := H6'; clear H6'; have HB' := Lib.hid (Kb.below HB.out hk (by omega) (by omega)); clear HB; have HB := HB'; clear HB'; clear HO; have HO := Lib.hid ho; obtain ⟨c0, c1, c2, c3, c4, c5, c6, c7, c8, c9, c10⟩ := blk_cells HG.out; have m6 := cell_of_one H6.out; unfold numF at m6; obtain ⟨ad5, k5, h51, h52, h53, _, _, _, h57⟩ := HO.out; have m5 := cell_of_one h51; have m3 := cell_of_one h53; have f5 := free_of_one h51; have H51 := Lib.hid h51; have H52 := Lib.hid h52; have H53 := Lib.hid h53; have H57 := Lib.hid h57; clear h51 h52 h53 h57; clear ho hk; clear hb)
    | ((with_reducible refine sl 98 ?_); go_must (refine wpL_append elB rfl (.tmp 96) (.tmp 97) rfl (w1.heap.size + 3) rfl H52.out rfl H20.out (BV_one _) (by unfold maxLen; omega) (by omega) H57.out ?_); intro adn kn w7 hown hgr _ _; rw [← BV_append] at hown; have HS7 := Lib.hid (show Below (w1.heap.size + 3) w20 w7 from ((Below.refl _ _)).grown hgr H57.out (ownBlock_ge H52.out)); have HO7 := Lib.hid hown; have H517 := Lib.hid ((HS7.out.block _ (by omega)).trans H51.out); have H537 := Lib.hid ((HS7.out.block _ (by omega)).trans H53.out); clear hown hgr; simp only [PT])
    | ((with_reducible show wpList _ _ _ (⟨none, .store _ _ (.tmp 98), _, _, _, _⟩ :: _) _ _); go_must (refine wpL_store1 rfl 24 (.tmp 5) (.tmp 98) rfl (w1.heap.size + 1) (.slice adn (L0.length + pn) kn) rfl rfl rfl H517.out (by kernel_rfl) ?_); intro w11 hg8 hgr8; obtain ⟨L1, hL1⟩ : ∃ L, L = L0 ++ PN := ⟨_, rfl⟩; have hl8 : L0.length + pn = (L0 ++ PN).length := (by (try have hdl := HDL.out); rw [List.length_append]; omega); have ho := outB_store HO7.out hl8 hg8 hgr8 H537.out (by omega) (by omega) (by omega) (Nat.le_trans H57.out HS7.out.size); have hk := Kb.trans (Kb.of_below (g5 := w1.heap.size + 1) HS7.out) (Kb.of_grown hgr8 (Nat.le_trans H57.out HS7.out.size)); rw [← hL1] at ho; have hn1 : L1.length ≤ L0.length + pn := (by rw [hL1, ← hl8]; exact Nat.le_refl _); have HL1 := Lib.hid hL1; clear hL1 hl8 hg8 hgr8 HS7 HO7 H517 H537; clear c0 c1 c2 c3 c4 c5 c6 c7 c8 c9 c10 m6 m5 m3 f5 H51 H52 H53 H57; have HG' := Lib.hid (Kb.block hk (by omega) (by omega) HG.out); clear HG; have HG := HG'; clear HG'; have H6' := Lib.hid (Kb.block hk (by omega) (by omega) H6.out); clear H6; have H6 := H6'; clear H6'; have HB' := Lib.hid (Kb.below HB.out hk (by omega) (by omega)); clear HB; have HB := HB'; clear HB'; clear HO; have HO := Lib.hid ho; obtain ⟨c0, c1, c2, c3, c4, c5, c6, c7, c8, c9, c10⟩ := blk_cells HG.out; have m6 := cell_of_one H6.out; unfold numF at m6; obtain ⟨ad5, k5, h51, h52, h53, _, _, _, h57⟩ := HO.out; have m5 := cell_of_one h51; have m3 := cell_of_one h53; have f5 := free_of_one h51; have H51 := Lib.hid h51; have H52 := Lib.hid h52; have H53 := Lib.hid h53; have H57 := Lib.hid h57; clear h51 h52 h53 h57; clear ho hk; simp only [PT])
    | (go_at_call 80; (with_reducible show Calls _ _ #[Value.slice v.oad _ _, _] _ _); go_must (refine (optPut_any v.oad v.on v.oc v.os big _ (HV.out.2.2.below (HB.out.trans (Below.mono bup HB.out.size))) (by omega)).mono ?_); intro e w40 hr; rw [HWo.out] at hr; rw [← HPO.out] at hr; obtain ⟨hb, h3⟩ := hr; rcases h3 with ⟨h3, _⟩ | ⟨_, ad40, c40, rfl, ho40⟩; exact absurd rfl h3; have H40 := Lib.hid (Bs.of_own ho40); have ho := HO.out.below hb; have hk : Kb (w1.heap.size + 3) (w1.heap.size + 1) _ w40 := Kb.of_below (hb.mono H57.out); clear ho40; clear c0 c1 c2 c3 c4 c5 c6 c7 c8 c9 c10 m6 m5 m3 f5 H51 H52 H53 H57; have HG' := Lib.hid (Kb.block hk (by omega) (by omega) HG.out); clear HG; have HG := HG'; clear HG'; have H6' := Lib.hid (Kb.block hk (by omega) (by omega) H6.out); clear H6; have H6 := H6'; clear H6'; have HB' := Lib.hid (Kb.below HB.out hk (by omega) (by omega)); clear HB; have HB := HB'; clear HB'; clear HO; have HO := Lib.hid ho; obtain ⟨c0, c1, c2, c3, c4, c5, c6, c7, c8, c9, c10⟩ := blk_cells HG.out; have m6 := cell_of_one H6.out; unfold numF at m6; obtain ⟨ad5, k5, h51, h52, h53, _, _, _, h57⟩ := HO.out; have m5 := cell_of_one h51; have m3 := cell_of_one h53; have f5 := free_of_one h51; have H51 := Lib.hid h51; have H52 := Lib.hid h52; have H53 := Lib.hid h53; have H57 := Lib.hid h57; clear h51 h52 h53 h57; clear ho hk; clear hb)
    | ((with_reducible refine sl 117 ?_); go_must (refine wpL_append elB rfl (.tmp 115) (.tmp 116) rfl (w1.heap.size + 3) rfl H52.out rfl H40.out (BV_one _) (by unfold maxLen; omega) (by omega) H57.out ?_); intro ad41 c41 w41 hown hgr hat hnil; have HB' := Lib.hid (HB.out.grown hgr HB.out.size (fun k e => by have := ownBlock_ge H52.out k e; omega)); clear HB; have HB := HB'; clear HB'; rw [← BV_append] at hown; have H41 := Lib.hid (Bs.of_own hown); clear hown hgr hat hnil; simp only [PT]))
  have HFIN : Hid (L1 ++ PO = bodyB big v.val) := Lib.hid (by
    rw [HL1.out, HL0.out, HPO.out]
    unfold bodyB fieldsB BlkV.val
    simp [hk, HNB.out])
  go_ret
  refine ⟨⟨ad41, c41, ?_, ?_⟩, HB.out⟩
  · rw [← HFIN.out, List.length_append]
    rfl
  · rw [← HFIN.out, List.length_append]
    exact H41.out
set_option maxRecDepth 100000 in
theorem body5_any (v : BlkV) (big : Bool) (w : World) (hv : Blk w v) (hk : v.kind = 5) (hf : SmB v) (hm : mayP v.val = true) (hw : wfB v.val) :
    Calls Try.prog 48 #[.agg v.cells.toArray, .bool big] w fun e w' => (∃ ad c, e = .returned (.slice ad (bodyB big v.val).length c) ∧ Bs w' ad (bodyB big v.val).length c (bodyB big v.val)) ∧ Below w.heap.size w w' := by
  by_cases hz : vals v.ns = []
  · exact body5a_any v big w hv hk hf hm hw hz
  · exact body5b_any v big w hv hk hf hm hw hz
end Go.Proofs.Ytmfplinbbcoahaa
/-
  Chapter 26: a block's body laid, kind by kind, walked (six).
-/
namespace Go.Proofs.Ytmfplinbbcoahaa
open Go.RowKit Go.Sort
set_option linter.unusedVariables false
set_option linter.unusedSimpArgs false

theorem step_ff {ops : Array Oper} {o : Oper} {a : Act} {w : World} {K : Act → World → Prop} {Q : Exit → Act → World → Prop} {E : Prop} (hgd : o.guard = none)
    (ho : o.op = .buildSlice 24 1 #[(0, .const (.int .u8 255))])
    (h : ∀ w1, Below w.heap.size w w1 → Bs w1 (some ⟨w.heap.size, 0, none⟩) 1 1 [255] → K (a.put o.dst (.slice (some ⟨w.heap.size, 0, none⟩) 1 1)) w1) :
    if Region.wanted o (yielded ops a.tmps) = true then Oper.wp Try.prog o a w K Q else E := by
  rw [if_pos (by simp [Region.wanted, hgd])]
  obtain ⟨i, hi, hz, hsize, hby⟩ := info_parts elB.info
  refine wp_buildSlice 24 5 1 _ ho #[.int .u8 255] i _ Try.underlying24 hi hz (by rw [hsize]; omega) (by rw [hsize]; omega) (by rw [hsize]; first | kernel_rfl | (simp [Act.eval, Instr.fill, Array.range, Value.cells]; done)) ?_
  exact h _ ((Below.refl _ _).alloc (Nat.le_refl _) _) (Bs.one w _ 255)
set_option maxRecDepth 100000 in
set_option maxHeartbeats 8000000 in
theorem body1_any (v : BlkV) (big : Bool) (w : World) (hv : Blk w v) (hk : v.kind = 1) (hf : SmB v) (hm : mayP v.val = true) (hw : wfB v.val) :
    Calls Try.prog 48 #[.agg v.cells.toArray, .bool big] w fun e w' => (∃ ad c, e = .returned (.slice ad (bodyB big v.val).length c) ∧ Bs w' ad (bodyB big v.val).length c (bodyB big v.val)) ∧ Below w.heap.size w w' := by
  obtain ⟨z1, z2, z3⟩ := hf.sizes
  obtain ⟨_, hfit, hlink, hifc, hwo, hwn, hlast⟩ := (mayP_iff v.val).1 hm
  obtain ⟨hw1, hw2, hw3, hw4'⟩ := hw
  change 0 ≤ v.link ∧ v.link ≤ 65535 at hlink
  change 0 ≤ v.iface ∧ v.iface ≤ 4294967295 at hifc
  change wrongO (vals v.os) = 0 at hwo
  change wrongO (vals v.ns) = 0 at hwn
  change v.type < 4294967296 at hw1
  change v.snap < 4294967296 at hw2
  change v.time < 18446744073709551616 at hw3
  change v.len < 4294967296 at hw4'
  have HB := Lib.hid (Below.refl w.heap.size w)
  have HV := Lib.hid hv
  have HFIT := Lib.hid hfit
  have HWo := Lib.hid hwo
  have HWn := Lib.hid hwn
  obtain ⟨PO, hPO⟩ : ∃ P, P = putAll big (vals v.os) := ⟨_, rfl⟩
  have hpl : PO.length ≤ 70424 := by rw [hPO, putAll_length]; split <;> omega
  have HPO := Lib.hid hPO
  obtain ⟨L0, hL0⟩ : ∃ L : List UInt8, L = [] := ⟨_, rfl⟩
  have hn0 : L0.length ≤ 0 := by rw [hL0]; exact Nat.le_refl _
  have HL0 := Lib.hid hL0
  obtain ⟨R8, hR8⟩ : ∃ R, R = List.replicate 8 (255 : UInt8) := ⟨_, rfl⟩
  have HPD : Hid (8 = R8.length) := Lib.hid (by rw [hR8]; rfl)
  have HR := Lib.hid hR8
  clear hR8
  clear hv hf hm hfit hwo hwn hlast hPO hL0
  go_enter Try.func48, Try.ntmps48
  go_wp2_with (first
    | ((with_reducible refine sl 2 ?_); go_must (refine wpL_box rfl 27 (.tmp 0) rfl v.cells.toArray rfl ?_); intro w1 hg1 hb1; have hz1 := lt_of_block hg1; obtain ⟨w4, hw4⟩ : ∃ w4, w4 = ((w1.alloc (.cells #[.bool big] 4)).alloc (.cells #[.slice none 0 0] 24)).alloc (.cells #[.func (.func 76) #[] #[.pointer (some ⟨w1.heap.size + 1, 0, none⟩), .pointer (some ⟨w1.heap.size, 0, none⟩)]] 97) := ⟨_, rfl⟩; have h14 := body_prelude w1 big; rw [← hw4] at h14; have HG := Lib.hid ((h14.1.block _ hz1).trans hg1); have H6 := Lib.hid h14.2.2; have ho4 := h14.2.1; rw [← HL0.out] at ho4; have HO := Lib.hid ho4; clear ho4; have HB' := Lib.hid ((HB.out.trans hb1).trans (h14.1.mono (by omega))); clear HB; have HB := HB'; clear HB'; have HW4 := Lib.hid hw4; obtain ⟨c0, c1, c2, c3, c4, c5, c6, c7, c8, c9, c10⟩ := blk_cells HG.out; have m6 := cell_of_one H6.out; unfold numF at m6; obtain ⟨ad5, k5, h51, h52, h53, _, _, _, h57⟩ := HO.out; have m5 := cell_of_one h51; have m3 := cell_of_one h53; have f5 := free_of_one h51; have H51 := Lib.hid h51; have H52 := Lib.hid h52; have H53 := Lib.hid h53; have H57 := Lib.hid h57; clear h51 h52 h53 h57; clear hg1 hb1 hw4 h14; simp only [PT])
    | ((with_reducible refine sl 14 ?_); rw [← HW4.out]; clear HW4)
    | (go_at_call 76; (with_reducible show Calls _ _ #[Value.int .u64 439041101, .int .i64 4, _, _] _ _); go_must (refine (num_any (w1.heap.size + 3) (w1.heap.size + 1) w1.heap.size big L0 439041101 4 (by omega) (by omega) _ HO.out).mono ?_); rintro e w11 ⟨rfl, ho, hk⟩; obtain ⟨L1, hL1⟩ : ∃ L, L = L0 ++ putL 439041101 4 big := ⟨_, rfl⟩; rw [← hL1] at ho; have hn1 : L1.length ≤ L0.length + (putL 439041101 4 big).length := (by rw [hL1, List.length_append]; exact Nat.le_refl _); rw [putL4_length] at hn1; have HL1 := Lib.hid hL1; clear hL1; clear c0 c1 c2 c3 c4 c5 c6 c7 c8 c9 c10 m6 m5 m3 f5 H51 H52 H53 H57; have HG' := Lib.hid (Kb.block hk (by omega) (by omega) HG.out); clear HG; have HG := HG'; clear HG'; have H6' := Lib.hid (Kb.block hk (by omega) (by omega) H6.out); clear H6; have H6 := H6'; clear H6'; have HB' := Lib.hid (Kb.below HB.out hk (by omega) (by omega)); clear HB; have HB := HB'; clear HB'; clear HO; have HO := Lib.hid ho; obtain ⟨c0, c1, c2, c3, c4, c5, c6, c7, c8, c9, c10⟩ := blk_cells HG.out; have m6 := cell_of_one H6.out; unfold numF at m6; obtain ⟨ad5, k5, h51, h52, h53, _, _, _, h57⟩ := HO.out; have m5 := cell_of_one h51; have m3 := cell_of_one h53; have f5 := free_of_one h51; have H51 := Lib.hid h51; have H52 := Lib.hid h52; have H53 := Lib.hid h53; have H57 := Lib.hid h57; clear h51 h52 h53 h57; clear ho hk)
    | (go_at_call 76; (with_reducible show Calls _ _ #[Value.int .u64 1, .int .i64 2, _, _] _ _); go_must (refine (num_any (w1.heap.size + 3) (w1.heap.size + 1) w1.heap.size big L1 1 2 (by omega) (by omega) _ HO.out).mono ?_); rintro e w12 ⟨rfl, ho, hk⟩; obtain ⟨L2, hL2⟩ : ∃ L, L = L1 ++ putL 1 2 big := ⟨_, rfl⟩; rw [← hL2] at ho; have hn2 : L2.length ≤ L1.length + (putL 1 2 big).length := (by rw [hL2, List.length_append]; exact Nat.le_refl _); rw [putL2_length] at hn2; have HL2 := Lib.hid hL2; clear hL2; clear c0 c1 c2 c3 c4 c5 c6 c7 c8 c9 c10 m6 m5 m3 f5 H51 H52 H53 H57; have HG' := Lib.hid (Kb.block hk (by omega) (by omega) HG.out); clear HG; have HG := HG'; clear HG'; have H6' := Lib.hid (Kb.block hk (by omega) (by omega) H6.out); clear H6; have H6 := H6'; clear H6'; have HB' := Lib.hid (Kb.below HB.out hk (by omega) (by omega)); clear HB; have HB := HB'; clear HB'; clear HO; have HO := Lib.hid ho; obtain ⟨c0, c1, c2, c3, c4, c5, c6, c7, c8, c9, c10⟩ := blk_cells HG.out; have m6 := cell_of_one H6.out; unfold numF at m6; obtain ⟨ad5, k5, h51, h52, h53, _, _, _, h57⟩ := HO.out; have m5 := cell_of_one h51; have m3 := cell_of_one h53; have f5 := free_of_one h51; have H51 := Lib.hid h51; have H52 := Lib.hid h52; have H53 := Lib.hid h53; have H57 := Lib.hid h57; clear h51 h52 h53 h57; clear ho hk)
    | (go_at_call 76; (with_reducible show Calls _ _ #[Value.int .u64 0, .int .i64 2, _, _] _ _); go_must (refine (num_any (w1.heap.size + 3) (w1.heap.size + 1) w1.heap.size big L2 0 2 (by omega) (by omega) _ HO.out).mono ?_); rintro e w13 ⟨rfl, ho, hk⟩; obtain ⟨L3, hL3⟩ : ∃ L, L = L2 ++ putL 0 2 big := ⟨_, rfl⟩; rw [← hL3] at ho; have hn3 : L3.length ≤ L2.length + (putL 0 2 big).length := (by rw [hL3, List.length_append]; exact Nat.le_refl _); rw [putL2_length] at hn3; have HL3 := Lib.hid hL3; clear hL3; clear c0 c1 c2 c3 c4 c5 c6 c7 c8 c9 c10 m6 m5 m3 f5 H51 H52 H53 H57; have HG' := Lib.hid (Kb.block hk (by omega) (by omega) HG.out); clear HG; have HG := HG'; clear HG'; have H6' := Lib.hid (Kb.block hk (by omega) (by omega) H6.out); clear H6; have H6 := H6'; clear H6'; have HB' := Lib.hid (Kb.below HB.out hk (by omega) (by omega)); clear HB; have HB := HB'; clear HB'; clear HO; have HO := Lib.hid ho; obtain ⟨c0, c1, c2, c3, c4, c5, c6, c7, c8, c9, c10⟩ := blk_cells HG.out; have m6 := cell_of_one H6.out; unfold numF at m6; obtain ⟨ad5, k5, h51, h52, h53, _, _, _, h57⟩ := HO.out; have m5 := cell_of_one h51; have m3 := cell_of_one h53; have f5 := free_of_one h51; have H51 := Lib.hid h51; have H52 := Lib.hid h52; have H53 := Lib.hid h53; have H57 := Lib.hid h57; clear h51 h52 h53 h57; clear ho hk))
  refine wp_region_held_drew (S := fun u => True) (by kernel_rfl) ?_ (fun hHeld => ?_)
  focus (exact trivial)
  refine wpAnyH_ready (rs := [0, 1]) (by kernel_rfl) (by simp) ?_
  refine (AllReadyH.cons (o := ⟨some 28, _, _, _, _, _⟩) rfl (fun K hK => ?_) (AllReadyH.cons (o := ⟨some 29, _, _, _, _, _⟩) rfl (fun K hK => ?_) AllReadyH.nil))
  (have m5 := cell_of_one H51.out; go_simp)
  refine hK.out _ _ ?_ (fun hHeld => ?_)
  focus (exact trivial)
  clear hK K
  try simp only [PT]
  refine wpAnyH_ready (rs := [1]) (by kernel_rfl) (by simp) ?_
  refine (AllReadyH.cons (o := ⟨some 29, _, _, _, _, _⟩) rfl (fun K hK => ?_) AllReadyH.nil)
  (go_must (refine step_ff rfl rfl ?_); intro w29 hb29 hs29; have HFF := Lib.hid hs29; have hB29 : Below w13.heap.size w13 w29 := ((Below.refl _ _).drew).trans hb29; have hE__ := cU HB bup hb29; replace HB := ck HB hE__; replace HG := ck HG hE__; replace H6 := ck H6 hE__; replace H51 := ck H51 hE__; replace H53 := ck H53 hE__; replace H52 := ck H52 hE__; clear hE__; have H57a := Lib.hid (Nat.le_trans H57.out hB29.size); clear hb29 hs29 hB29)
  refine hK.out _ _ ?_ (fun hHeld => ?_)
  focus (exact trivial)
  clear hK K
  try simp only [PT]
  refine wpAnyH_ready (rs := [2]) (by kernel_rfl) (by simp) ?_
  refine (AllReadyH.cons (o := ⟨some 30, _, _, _, _, _⟩) rfl (fun K hK => ?_) AllReadyH.nil)
  focus (go_simp; go_must (refine (repeat8_any _ 1 255 _ HFF.out).mono ?_); rintro e w30 ⟨⟨ad30, k30, rfl, hs30⟩, hb30⟩; have hE__ := cU HB bup hb30; replace HB := ck HB hE__; replace HG := ck HG hE__; replace H6 := ck H6 hE__; replace H51 := ck H51 hE__; replace H53 := ck H53 hE__; replace H52 := ck H52 hE__; clear hE__; have H57' := Lib.hid (Nat.le_trans H57a.out hb30.size); have HP30 := Lib.hid (show Bs w30 ad30 8 k30 R8 from by rw [HR.out]; exact hs30); clear hs30 hb30; go_wp2_with fail)
  refine hK.out _ _ ?_ (fun hHeld => ?_)
  focus (exact trivial)
  clear hK K
  try simp only [PT]
  refine wpAnyH_ready (rs := [3]) (by kernel_rfl) (by simp) ?_
  refine (AllReadyH.cons (o := ⟨some 31, _, _, _, _, _⟩) rfl (fun K hK => ?_) AllReadyH.nil)
  (go_must (refine step_append elB rfl (.tmp 28) (.tmp 30) rfl (w1.heap.size + 3) rfl H52.out rfl HP30.out (BV_one _) (by unfold maxLen; omega) (by omega) H57'.out ?_); intro adn kn w31 hown hgr _ _; rw [← BV_append] at hown; have HS7 := Lib.hid (show Below (w1.heap.size + 3) w30 w31 from ((Below.refl _ _)).grown hgr H57'.out (ownBlock_ge H52.out)); have HO7 := Lib.hid hown; have H517 := Lib.hid ((HS7.out.block _ (by omega)).trans H51.out); have H537 := Lib.hid ((HS7.out.block _ (by omega)).trans H53.out); have HG7 := Lib.hid ((HS7.out.block _ (by omega)).trans HG.out); clear HG; have HG := HG7; clear HG7 hown hgr)
  refine hK.out _ _ ?_ (fun hHeld => ?_)
  focus (exact trivial)
  clear hK K
  try simp only [PT]
  refine wpAnyH_ready (rs := [4]) (by kernel_rfl) (by simp) ?_
  refine (AllReadyH.cons (o := ⟨none, _, _, _, _, _⟩) rfl (fun K hK => ?_) AllReadyH.nil)
  (go_must (refine step_store1 rfl 24 (.tmp 5) (.tmp 31) rfl (w1.heap.size + 1) (.slice adn (L3.length + 8) kn) rfl rfl rfl H517.out (by kernel_rfl) ?_); intro w32 hg8 hgr8; have HGx := Lib.hid ((hgr8.block _ (lt_of_block HG.out) (by intro e; simp at e; omega)).trans HG.out); have H8 := Lib.hid hg8; have HR8 := Lib.hid hgr8; clear hg8 hgr8)
  refine hK.out _ _ ?_ (fun hHeld => ?_)
  focus (exact trivial)
  clear hK K
  try simp only [PT]
  refine wpAnyH_done (by kernel_rfl) ?_ _
  rotate_left
  (go_must (refine step_ff rfl rfl ?_); intro w29 hb29 hs29; have HFF := Lib.hid hs29; have hB29 : Below w13.heap.size w13 w29 := ((Below.refl _ _).drew).trans hb29; have hE__ := cU HB bup hb29; replace HB := ck HB hE__; replace HG := ck HG hE__; replace H6 := ck H6 hE__; replace H51 := ck H51 hE__; replace H53 := ck H53 hE__; replace H52 := ck H52 hE__; clear hE__; have H57a := Lib.hid (Nat.le_trans H57.out hB29.size); clear hb29 hs29 hB29)
  refine hK.out _ _ ?_ (fun hHeld => ?_)
  focus (exact trivial)
  clear hK K
  try simp only [PT]
  refine wpAnyH_ready (rs := [0, 2]) (by kernel_rfl) (by simp) ?_
  refine (AllReadyH.cons (o := ⟨some 28, _, _, _, _, _⟩) rfl (fun K hK => ?_) (AllReadyH.cons (o := ⟨some 30, _, _, _, _, _⟩) rfl (fun K hK => ?_) AllReadyH.nil))
  (have m5 := cell_of_one H51.out; go_simp)
  refine hK.out _ _ ?_ (fun hHeld => ?_)
  focus (exact trivial)
  clear hK K
  try simp only [PT]
  refine wpAnyH_ready (rs := [2]) (by kernel_rfl) (by simp) ?_
  refine (AllReadyH.cons (o := ⟨some 30, _, _, _, _, _⟩) rfl (fun K hK => ?_) AllReadyH.nil)
  focus (go_simp; go_must (refine (repeat8_any _ 1 255 _ HFF.out).mono ?_); rintro e w30 ⟨⟨ad30, k30, rfl, hs30⟩, hb30⟩; have hE__ := cU HB bup hb30; replace HB := ck HB hE__; replace HG := ck HG hE__; replace H6 := ck H6 hE__; replace H51 := ck H51 hE__; replace H53 := ck H53 hE__; replace H52 := ck H52 hE__; clear hE__; have H57' := Lib.hid (Nat.le_trans H57a.out hb30.size); have HP30 := Lib.hid (show Bs w30 ad30 8 k30 R8 from by rw [HR.out]; exact hs30); clear hs30 hb30; go_wp2_with fail)
  refine hK.out _ _ ?_ (fun hHeld => ?_)
  focus (exact trivial)
  clear hK K
  try simp only [PT]
  refine wpAnyH_ready (rs := [3]) (by kernel_rfl) (by simp) ?_
  refine (AllReadyH.cons (o := ⟨some 31, _, _, _, _, _⟩) rfl (fun K hK => ?_) AllReadyH.nil)
  (go_must (refine step_append elB rfl (.tmp 28) (.tmp 30) rfl (w1.heap.size + 3) rfl H52.out rfl HP30.out (BV_one _) (by unfold maxLen; omega) (by omega) H57'.out ?_); intro adn kn w31 hown hgr _ _; rw [← BV_append] at hown; have HS7 := Lib.hid (show Below (w1.heap.size + 3) w30 w31 from ((Below.refl _ _)).grown hgr H57'.out (ownBlock_ge H52.out)); have HO7 := Lib.hid hown; have H517 := Lib.hid ((HS7.out.block _ (by omega)).trans H51.out); have H537 := Lib.hid ((HS7.out.block _ (by omega)).trans H53.out); have HG7 := Lib.hid ((HS7.out.block _ (by omega)).trans HG.out); clear HG; have HG := HG7; clear HG7 hown hgr)
  refine hK.out _ _ ?_ (fun hHeld => ?_)
  focus (exact trivial)
  clear hK K
  try simp only [PT]
  refine wpAnyH_ready (rs := [4]) (by kernel_rfl) (by simp) ?_
  refine (AllReadyH.cons (o := ⟨none, _, _, _, _, _⟩) rfl (fun K hK => ?_) AllReadyH.nil)
  (go_must (refine step_store1 rfl 24 (.tmp 5) (.tmp 31) rfl (w1.heap.size + 1) (.slice adn (L3.length + 8) kn) rfl rfl rfl H517.out (by kernel_rfl) ?_); intro w32 hg8 hgr8; have HGx := Lib.hid ((hgr8.block _ (lt_of_block HG.out) (by intro e; simp at e; omega)).trans HG.out); have H8 := Lib.hid hg8; have HR8 := Lib.hid hgr8; clear hg8 hgr8)
  refine hK.out _ _ ?_ (fun hHeld => ?_)
  focus (exact trivial)
  clear hK K
  try simp only [PT]
  refine wpAnyH_done (by kernel_rfl) ?_ _
  rotate_left
  focus (go_simp; go_must (refine (repeat8_any _ 1 255 _ HFF.out).mono ?_); rintro e w30 ⟨⟨ad30, k30, rfl, hs30⟩, hb30⟩; have hE__ := cU HB bup hb30; replace HB := ck HB hE__; replace HG := ck HG hE__; replace H6 := ck H6 hE__; replace H51 := ck H51 hE__; replace H53 := ck H53 hE__; replace H52 := ck H52 hE__; clear hE__; have H57' := Lib.hid (Nat.le_trans H57a.out hb30.size); have HP30 := Lib.hid (show Bs w30 ad30 8 k30 R8 from by rw [HR.out]; exact hs30); clear hs30 hb30; go_wp2_with fail)
  refine hK.out _ _ ?_ (fun hHeld => ?_)
  focus (exact trivial)
  clear hK K
  try simp only [PT]
  refine wpAnyH_ready (rs := [0]) (by kernel_rfl) (by simp) ?_
  refine (AllReadyH.cons (o := ⟨some 28, _, _, _, _, _⟩) rfl (fun K hK => ?_) AllReadyH.nil)
  (have m5 := cell_of_one H51.out; go_simp)
  refine hK.out _ _ ?_ (fun hHeld => ?_)
  focus (exact trivial)
  clear hK K
  try simp only [PT]
  refine wpAnyH_ready (rs := [3]) (by kernel_rfl) (by simp) ?_
  refine (AllReadyH.cons (o := ⟨some 31, _, _, _, _, _⟩) rfl (fun K hK => ?_) AllReadyH.nil)
  (go_must (refine step_append elB rfl (.tmp 28) (.tmp 30) rfl (w1.heap.size + 3) rfl H52.out rfl HP30.out (BV_one _) (by unfold maxLen; omega) (by omega) H57'.out ?_); intro adn kn w31 hown hgr _ _; rw [← BV_append] at hown; have HS7 := Lib.hid (show Below (w1.heap.size + 3) w30 w31 from ((Below.refl _ _)).grown hgr H57'.out (ownBlock_ge H52.out)); have HO7 := Lib.hid hown; have H517 := Lib.hid ((HS7.out.block _ (by omega)).trans H51.out); have H537 := Lib.hid ((HS7.out.block _ (by omega)).trans H53.out); have HG7 := Lib.hid ((HS7.out.block _ (by omega)).trans HG.out); clear HG; have HG := HG7; clear HG7 hown hgr)
  refine hK.out _ _ ?_ (fun hHeld => ?_)
  focus (exact trivial)
  clear hK K
  try simp only [PT]
  refine wpAnyH_ready (rs := [4]) (by kernel_rfl) (by simp) ?_
  refine (AllReadyH.cons (o := ⟨none, _, _, _, _, _⟩) rfl (fun K hK => ?_) AllReadyH.nil)
  (go_must (refine step_store1 rfl 24 (.tmp 5) (.tmp 31) rfl (w1.heap.size + 1) (.slice adn (L3.length + 8) kn) rfl rfl rfl H517.out (by kernel_rfl) ?_); intro w32 hg8 hgr8; have HGx := Lib.hid ((hgr8.block _ (lt_of_block HG.out) (by intro e; simp at e; omega)).trans HG.out); have H8 := Lib.hid hg8; have HR8 := Lib.hid hgr8; clear hg8 hgr8)
  refine hK.out _ _ ?_ (fun hHeld => ?_)
  focus (exact trivial)
  clear hK K
  try simp only [PT]
  refine wpAnyH_done (by kernel_rfl) ?_ _
  rotate_left
  all_goals
    obtain ⟨L4, hL4⟩ : ∃ L, L = L3 ++ R8 := ⟨_, rfl⟩
    have hl8 : L3.length + 8 = (L3 ++ R8).length := by rw [List.length_append, ← HPD.out]
    have ho := outB_store HO7.out hl8 H8.out HR8.out H537.out (by omega) (by omega) (by omega) (Nat.le_trans H57'.out HS7.out.size)
    have hk0 : Kb (w1.heap.size + 3) (w1.heap.size + 1) w30 w32 := Kb.trans (Kb.of_below HS7.out) (Kb.of_grown HR8.out (Nat.le_trans H57'.out HS7.out.size))
    rw [← hL4] at ho
    have hn4 : L4.length ≤ L3.length + 8 := by rw [hL4, ← hl8]; exact Nat.le_refl _
    have HL4 := Lib.hid hL4
    clear hL4 hl8 HG H8 HR8 HS7 HO7 H517 H537 c0 c1 c2 c3 c4 c5 c6 c7 c8 c9 c10 m6 m5 m3 f5 H51 H52 H53 H57
    have HG := HGx
    clear HGx
    have H6' := Lib.hid (Kb.block hk0 (by omega) (by omega) H6.out); clear H6; have H6 := H6'; clear H6'
    have HB' := Lib.hid (Kb.below HB.out hk0 (by omega) (by omega)); clear HB; have HB := HB'; clear HB'
    clear HO
    have HO := Lib.hid ho
    obtain ⟨c0, c1, c2, c3, c4, c5, c6, c7, c8, c9, c10⟩ := blk_cells HG.out; have m6 := cell_of_one H6.out; unfold numF at m6; obtain ⟨ad5, k5, h51, h52, h53, _, _, _, h57⟩ := HO.out; have m5 := cell_of_one h51; have m3 := cell_of_one h53; have f5 := free_of_one h51; have H51 := Lib.hid h51; have H52 := Lib.hid h52; have H53 := Lib.hid h53; have H57 := Lib.hid h57; clear h51 h52 h53 h57
    clear ho hk0 HP30 HFF H57a H57'
    go_wp2_with (first
      | (go_at_call 80; (with_reducible show Calls _ _ #[Value.slice v.oad _ _, _] _ _); go_must (refine (optPut_any v.oad v.on v.oc v.os big _ (HV.out.2.2.below (HB.out.trans (Below.mono bup HB.out.size))) (by omega)).mono ?_); intro e w40 hr; rw [HWo.out] at hr; rw [← HPO.out] at hr; obtain ⟨hb, h3⟩ := hr; rcases h3 with ⟨h3, _⟩ | ⟨_, ad40, c40, rfl, ho40⟩; exact absurd rfl h3; have H40 := Lib.hid (Bs.of_own ho40); have ho := HO.out.below hb; have hk : Kb (w1.heap.size + 3) (w1.heap.size + 1) _ w40 := Kb.of_below (hb.mono H57.out); clear ho40; clear c0 c1 c2 c3 c4 c5 c6 c7 c8 c9 c10 m6 m5 m3 f5 H51 H52 H53 H57; have HG' := Lib.hid (Kb.block hk (by omega) (by omega) HG.out); clear HG; have HG := HG'; clear HG'; have H6' := Lib.hid (Kb.block hk (by omega) (by omega) H6.out); clear H6; have H6 := H6'; clear H6'; have HB' := Lib.hid (Kb.below HB.out hk (by omega) (by omega)); clear HB; have HB := HB'; clear HB'; clear HO; have HO := Lib.hid ho; obtain ⟨c0, c1, c2, c3, c4, c5, c6, c7, c8, c9, c10⟩ := blk_cells HG.out; have m6 := cell_of_one H6.out; unfold numF at m6; obtain ⟨ad5, k5, h51, h52, h53, _, _, _, h57⟩ := HO.out; have m5 := cell_of_one h51; have m3 := cell_of_one h53; have f5 := free_of_one h51; have H51 := Lib.hid h51; have H52 := Lib.hid h52; have H53 := Lib.hid h53; have H57 := Lib.hid h57; clear h51 h52 h53 h57; clear ho hk; clear hb)
      | ((with_reducible refine sl 117 ?_); go_must (refine wpL_append elB rfl (.tmp 115) (.tmp 116) rfl (w1.heap.size + 3) rfl H52.out rfl H40.out (BV_one _) (by unfold maxLen; omega) (by omega) H57.out ?_); intro ad41 c41 w41 hown hgr hat hnil; have HB' := Lib.hid (HB.out.grown hgr HB.out.size (fun k e => by have := ownBlock_ge H52.out k e; omega)); clear HB; have HB := HB'; clear HB'; rw [← BV_append] at hown; have H41 := Lib.hid (Bs.of_own hown); clear hown hgr hat hnil; simp only [PT]))
    have HFIN : Hid (L4 ++ PO = bodyB big v.val) := Lib.hid (by
      rw [HL4.out, HL3.out, HL2.out, HL1.out, HL0.out, HPO.out, HR.out]
      unfold bodyB fieldsB BlkV.val
      simp only [hk]
      cases big <;> simp [putL, List.append_assoc] <;> rfl)
    go_ret
    refine ⟨⟨ad41, c41, ?_, ?_⟩, HB.out⟩
    · rw [← HFIN.out, List.length_append]
      rfl
    · rw [← HFIN.out, List.length_append]
      exact H41.out
end Go.Proofs.Ytmfplinbbcoahaa
/-
  Chapter 26: a block's body laid, any kind.
-/
namespace Go.Proofs.Ytmfplinbbcoahaa
open Go.RowKit Go.Sort
set_option linter.unusedVariables false
set_option linter.unusedSimpArgs false

set_option maxRecDepth 100000 in
theorem body_any (v : BlkV) (big : Bool) (w : World) (hv : Blk w v) (hf : SmB v) (hm : mayP v.val = true) (hw : wfB v.val) :
    Calls Try.prog 48 #[.agg v.cells.toArray, .bool big] w fun e w' => (∃ ad c, e = .returned (.slice ad (bodyB big v.val).length c) ∧ Bs w' ad (bodyB big v.val).length c (bodyB big v.val)) ∧ Below w.heap.size w w' := by
  have hkk : 1 ≤ v.kind ∧ v.kind ≤ 7 := ((mayP_iff v.val).1 hm).1
  have hk : v.kind = 1 ∨ v.kind = 2 ∨ v.kind = 3 ∨ v.kind = 4 ∨ v.kind = 5 ∨ v.kind = 6 ∨ v.kind = 7 := by omega
  rcases hk with hk | hk | hk | hk | hk | hk | hk
  · exact body1_any v big w hv hk hf hm hw
  · exact body2_any v big w hv hk hf hm hw
  · exact body3_any v big w hv hk hf hm hw
  · exact body4_any v big w hv hk hf hm hw
  · exact body5_any v big w hv hk hf hm hw
  · exact body6_any v big w hv hk hf hm hw
  · exact body7_any v big w hv hk hf hm hw
end Go.Proofs.Ytmfplinbbcoahaa
/-
  Laws of single operations by named blocks: variables that are boxed, fields that are stored, loaded; what is carried over a store. Over any program.
-/
namespace Go.Proofs.Ytmfplinbbcoahaa
open Go.RowKit Go.Sort
set_option linter.unusedVariables false
set_option linter.unusedSimpArgs false

/-! ### carrying facts over a store into block g -/
theorem cGg {w wd w1 : World} {k g : Nat} {ob : Obj} (h : Hid (w.heap[k]? = some ob)) (hE : Below w.heap.size w wd) (hg : wd.grownBy w1 (some g)) (hne : k ≠ g) : Hid (w1.heap[k]? = some ob) :=
  Lib.hid ((hg.block k (Nat.lt_of_lt_of_le (lt_of_block h.out) hE.size) (fun e => hne (by cases e; rfl))).trans ((hE.block k (lt_of_block h.out)).trans h.out))
theorem cKg {v w wd w1 : World} {g : Nat} (h : Hid (Below v.heap.size v w)) (hE : Below w.heap.size w wd) (hg : wd.grownBy w1 (some g)) (hb : v.heap.size ≤ g) : Hid (Below v.heap.size v w1) :=
  Lib.hid ((h.out.trans (hE.mono h.out.size)).grown hg (Nat.le_trans h.out.size hE.size) (fun k e => by cases e; exact hb))
theorem cOg {w wd w1 : World} {base g : Nat} {e : TypeId} {size : Nat} {ad : Option Addr} {n c : Nat} {xs : List Value} (h : Hid (w.ownsRow base e size (.slice ad n c) n xs)) (hE : Below w.heap.size w wd) (hg : wd.grownBy w1 (some g)) (hb : g < base) : Hid (w1.ownsRow base e size (.slice ad n c) n xs) := by
  have h' := own_keep h.out hE
  refine Lib.hid (h'.kept hg ?_)
  rcases own_form h' with ⟨h0, _⟩ | ⟨g', h1, h2, _⟩
  · rw [h0]; exact .inl rfl
  · rw [h1]
    refine .inr fun e => ?_
    simp [Value.ownBlock] at e
    omega
theorem cPg {w wd w1 : World} {base g : Nat} {e : TypeId} {ad : Option Addr} {n c : Nat} {os : List OptV} (h : Hid (OwnOps e base w ad n c os)) (hE : Below w.heap.size w wd) (hg : wd.grownBy w1 (some g)) (hb : g < base) : Hid (OwnOps e base w1 ad n c os) :=
  Lib.hid ((h.out.keep hE).other hg hb)
instance {w w1 : World} {k g : Nat} {ob : Obj} : Cg (w.heap[k]? = some ob) w1 g w (k ≠ g) (w1.heap[k]? = some ob) := ⟨fun wd h hE hg hs => (cGg (Lib.hid h) hE hg hs).out⟩
instance {v w w1 : World} {g : Nat} : Cg (Below v.heap.size v w) w1 g w (v.heap.size ≤ g) (Below v.heap.size v w1) := ⟨fun wd h hE hg hs => (cKg (Lib.hid h) hE hg hs).out⟩
instance {w w1 : World} {base g : Nat} {e : TypeId} {size : Nat} {ad : Option Addr} {n c : Nat} {xs : List Value} : Cg (w.ownsRow base e size (.slice ad n c) n xs) w1 g w (g < base) (w1.ownsRow base e size (.slice ad n c) n xs) := ⟨fun wd h hE hg hs => (cOg (Lib.hid h) hE hg hs).out⟩
instance {w w1 : World} {base g : Nat} {e : TypeId} {ad : Option Addr} {n c : Nat} {os : List OptV} : Cg (OwnOps e base w ad n c os) w1 g w (g < base) (OwnOps e base w1 ad n c os) := ⟨fun wd h hE hg hs => (cPg (Lib.hid h) hE hg hs).out⟩
/-! ### a variable, boxed -/
theorem wpL_boxG {P : Program} {w : World} {ops : Array Oper} {rest : List Oper} {o : Oper} {a : Act} {Q : Exit → Act → World → Prop} (hgd : Region.wanted o (yielded ops a.tmps) = true) (T : TypeId) (x : Operand) (ho : o.op = .box T x) (cs : Array Value) (hx : (a.eval x).cells = cs)
    (h : ∀ w1 g, Hid (g = w.heap.size) → w.heap.size ≤ g → g < w1.heap.size → w1.heap[g]? = some (.cells cs T (0, 0)) → Below w.heap.size w w1 → wpList P ops Q rest (a.put o.dst (.pointer (some ⟨g, 0, none⟩))) w1) : wpList P ops Q (o :: rest) a w := by
  refine wpL_run hgd (v := .pointer (some ⟨w.heap.size, 0, none⟩)) (w' := w.alloc (.cells cs T)) ?_ (h _ _ (Lib.hid rfl) (Nat.le_refl _) (by simp) (heap_alloc_last w _) ((Below.refl _ _).alloc (Nat.le_refl _) _))
  simp [execOp, ho, Instr.box, newVar, newRow, hx]
theorem wpL_allocG {P : Program} {w : World} {ops : Array Oper} {rest : List Oper} {o : Oper} {a : Act} {Q : Exit → Act → World → Prop} (hgd : Region.wanted o (yielded ops a.tmps) = true) (T : TypeId) (ho : o.op = .alloc T) (z : Value) (zs : Array Value) (n : Nat) (hi : (P.info? T).map (fun i => (i.zero, i.size)) = some (some z, n)) (hz : z.cells = zs)
    (h : ∀ w1 g, Hid (g = w.heap.size) → w.heap.size ≤ g → g < w1.heap.size → w1.heap[g]? = some (.cells zs T (0, 0)) → Below w.heap.size w w1 → wpList P ops Q rest (a.put o.dst (.pointer (some ⟨g, 0, none⟩))) w1) : wpList P ops Q (o :: rest) a w := by
  obtain ⟨hz0, hsz⟩ := zero_of_info hi
  refine wpL_run hgd (v := .pointer (some ⟨w.heap.size, 0, none⟩)) (w' := w.alloc (.cells zs T)) ?_ (h _ _ (Lib.hid rfl) (Nat.le_refl _) (by simp) (heap_alloc_last w _) ((Below.refl _ _).alloc (Nat.le_refl _) _))
  simp [execOp, ho, Instr.alloc, hz0, newVar, newRow, hz]

/-! ### a field, loaded -/
theorem run_loadF {P : Program} {w : World} {g k : Nat} {v : Value} {ty T : TypeId} {fz : Nat × Nat} {d : TypeDesc} {cs : Array Value} (hg : w.heap[g]? = some (.cells cs T fz)) (hk : cs[k]? = some v) (hu : P.underlying ty = some d) (hd : d.isRow = false) :
    (loadVar ty ⟨g, k, none⟩).run P w = .ok v w := by
  have hcell : w.cell? ⟨g, k, none⟩ = some v := by rw [cells_get hg]; simpa using hk
  have hagg : (isAgg ty).run P w = .ok false w := by
    unfold isAgg
    rw [Sem.run_bind, run_underlying hu w]
    cases d <;> simp_all
  simp [loadVar, Sem.run_bind, hagg, load, Sem.run, hcell]
theorem wpL_loadF {P : Program} {ops : Array Oper} {rest : List Oper} {o : Oper} {a : Act} {w : World} {Q : Exit → Act → World → Prop} (hgd : Region.wanted o (yielded ops a.tmps) = true) (ty : TypeId) (x : Operand) (ho : o.op = .load ty x)
    (g k : Nat) (hx : a.eval x = .pointer (some ⟨g, k, none⟩)) (v : Value) {cs : Array Value} {T : TypeId} {fz : Nat × Nat} (hg : w.heap[g]? = some (.cells cs T fz)) (hk : cs[k]? = some v) {d : TypeDesc} (hu : P.underlying ty = some d) (hd : d.isRow = false)
    (h : wpList P ops Q rest (a.put o.dst v) w) : wpList P ops Q (o :: rest) a w := by
  refine wpL_run hgd ?_ h
  unfold execOp
  simp only [ho, hx, Instr.loadAt, Instr.sureAddr, Sem.run_bind, Sem.run_pure, Result.andThen_ok, run_loadF (P := P) hg hk hu hd]
theorem yields_loadF {P : Program} {ops : Array Oper} {S : World → Prop} {o : Oper} {a : Act} (hw : Region.wanted o (yielded ops a.tmps) = true) (ty : TypeId) (x : Operand) (ho : o.op = .load ty x)
    (g k : Nat) (hx : a.eval x = .pointer (some ⟨g, k, none⟩)) (v : Value) {cs : Array Value} {T : TypeId} {fz : Nat × Nat} (hS : ∀ w, S w → w.heap[g]? = some (.cells cs T fz)) (hk : cs[k]? = some v) {d : TypeDesc} (hu : P.underlying ty = some d) (hd : d.isRow = false) : YieldsIf P ops S o v a :=
  .inl ⟨hw, fun w hw' => by
    unfold execOp
    simp only [ho, hx, Instr.loadAt, Instr.sureAddr, Sem.run_bind, Sem.run_pure, Result.andThen_ok, run_loadF (P := P) (hS w hw') hk hu hd]⟩

theorem wpL_index {P : Program} {ops : Array Oper} {rest : List Oper} {o : Oper} {a : Act} {w : World} {Q : Exit → Act → World → Prop} (hgd : Region.wanted o (yielded ops a.tmps) = true) {T : TypeId} (x y : Operand) (ho : o.op = .index T x y)
    (vx vy : Value) (hx : a.eval x = vx) (hy : a.eval y = vy) (v : Value) (hrun : ∀ w, (Instr.index T vx vy).run P w = .ok v w) (h : wpList P ops Q rest (a.put o.dst v) w) : wpList P ops Q (o :: rest) a w := by
  refine wpL_run hgd ?_ h
  unfold execOp
  simp only [ho, hx, hy, Sem.run_bind, hrun, Result.andThen_ok, Sem.run_pure]

theorem all1 (l : List Value) (h : l.all (·.oneCell') = true) : l.toArray.all (·.oneCell') = true := by simpa using h
/-- x[lo:hi], its length and capacity named -/
theorem wpL_sliceG {P : Program} {w : World} {ops : Array Oper} {rest : List Oper} {o : Oper} {a : Act} {Q : Exit → Act → World → Prop} {t e : TypeId} {size bytes : Nat} {z : Value} (el : Elem P t e size bytes z)
    (hg : Region.wanted o (yielded ops a.tmps) = true) (x : Operand) (lo hi : Option Operand) (hop : o.op = Op.slice t x lo hi none) {ad : Option Addr} {n c : Nat} (hx : a.eval x = .slice ad n c) (l h : Nat)
    (hlo : (lo.map a.eval = none ∧ l = 0) ∨ ∃ k, lo.map a.eval = some (.int k (l : Int))) (hhi : (hi.map a.eval = none ∧ h = n) ∨ ∃ k, hi.map a.eval = some (.int k (h : Int))) (hl : l ≤ h) (hh : h ≤ c)
    (m cc : Nat) (hm : h - l = m) (hcc : c - l = cc)
    (hK : ∀ ad', Hid (ad' = subAd ad c l size) → wpList P ops Q rest (a.put o.dst (.slice ad' m cc)) w) : wpList P ops Q (o :: rest) a w := by
  subst hm
  subst hcc
  exact wpL_slice el hg x lo hi hop hx l h hlo hhi hl hh hK
/-- the part of a slice, its length and capacity named -/
theorem Bs.partG {w : World} {ad : Option Addr} {n c : Nat} {l : List UInt8} (h : Bs w ad n c l) (i j m cc : Nat) (hij : i ≤ j) (hj : j ≤ n) (hm : j - i = m) (hcc : c - i = cc) (ad' : Option Addr) (had : Hid (ad' = subAd ad c i 1)) (d : List UInt8) (hd : (l.drop i).take m = d) : Bs w ad' m cc d := by
  subst hm
  subst hcc
  rw [had.out, ← hd]
  exact Bs.part h i j hij hj
/-! ### a field, stored -/
theorem set_grown (w : World) (g k : Nat) (v : Value) : w.grownBy (w.setCell ⟨g, k, none⟩ v) (some g) :=
  ⟨rfl, rfl, rfl, by simp [World.setCell], fun j _ hj => Below.heap_setCell _ _ _ _ (fun e => hj (by rw [e]))⟩
theorem run_storeF {P : Program} {w : World} {g k : Nat} {v : Value} {ty T : TypeId} {cs : Array Value} (hg : w.heap[g]? = some (.cells cs T (0, 0))) (hk : k < cs.size) (h1 : v.oneCell' = true) (hi : (P.info? ty).map (·.size) = some 1) :
    (Instr.storeAt ty (.pointer (some ⟨g, k, none⟩)) v).run P w = .ok () (w.setCell ⟨g, k, none⟩ v) := by
  have hc : v.cells = #[v] := by cases v <;> first | rfl | cases h1
  have hcell : w.cell? ⟨g, k, none⟩ = some cs[k] := by rw [cells_get hg]; simp [hk]
  have hz := frz hg k
  have := run_storeCells_cells (P := P) g k [v] 0 w (fun j hj => by
      have : j = 0 := by simpa using hj
      subst this
      simp [hcell]) (fun j hj => by
      have : j = 0 := by simpa using hj
      subst this
      simpa using hz) (fun u hu => by simp at hu; subst hu; exact h1)
  cases hq : P.info? ty with
  | none => simp [hq] at hi
  | some i =>
    have hs : i.size = 1 := by simpa [hq] using hi
    simp only [Nat.add_zero] at this
    simp [Instr.storeAt, Instr.sureAddr, storeVar, sizeOf, typeInfo, hq, hc, hs, this, World.setCells]
theorem wpL_storeF {P : Program} {ops : Array Oper} {rest : List Oper} {o : Oper} {a : Act} {w : World} {Q : Exit → Act → World → Prop} (hgd : o.guard = none) (ty : TypeId) (x y : Operand) (ho : o.op = .store ty x y)
    (g k : Nat) (v : Value) (hx : a.eval x = .pointer (some ⟨g, k, none⟩)) (hy : a.eval y = v) (h1 : v.oneCell' = true) {cs : Array Value} {T : TypeId} (hg : w.heap[g]? = some (.cells cs T (0, 0))) (hk : k < cs.size) (hi : (P.info? ty).map (·.size) = some 1)
    (cs' : Array Value) (he : cs.setIfInBounds k v = cs')
    (h : ∀ w1, w1.heap[g]? = some (.cells cs' T (0, 0)) → w.grownBy w1 (some g) → wpList P ops Q rest (a.put o.dst undef) w1) : wpList P ops Q (o :: rest) a w :=
  wpList_plain hgd fun _ hK => by
    unfold Oper.wp execOp
    simp only [ho, hx, hy, Sem.run_bind, Sem.run_pure, Result.andThen_ok, run_storeF (P := P) hg hk h1 hi]
    exact hK _ _ (h _ (by rw [block_set hg, he]) (set_grown w g k v))
theorem step_storeF {P : Program} {ops : Array Oper} {o : Oper} {a : Act} {w : World} {K : Act → World → Prop} {Q : Exit → Act → World → Prop} {E : Prop} (hgd : o.guard = none) (ty : TypeId) (x y : Operand) (ho : o.op = .store ty x y)
    (g k : Nat) (v : Value) (hx : a.eval x = .pointer (some ⟨g, k, none⟩)) (hy : a.eval y = v) (h1 : v.oneCell' = true) {cs : Array Value} {T : TypeId} (hg : w.heap[g]? = some (.cells cs T (0, 0))) (hk : k < cs.size) (hi : (P.info? ty).map (·.size) = some 1)
    (cs' : Array Value) (he : cs.setIfInBounds k v = cs')
    (h : ∀ w1, w1.heap[g]? = some (.cells cs' T (0, 0)) → w.grownBy w1 (some g) → K (a.put o.dst undef) w1) : if Region.wanted o (yielded ops a.tmps) = true then Oper.wp P o a w K Q else E := by
  rw [if_pos (by simp [Region.wanted, hgd])]
  unfold Oper.wp execOp
  simp only [ho, hx, hy, Sem.run_bind, Sem.run_pure, Result.andThen_ok, run_storeF (P := P) hg hk h1 hi]
  exact h _ (by rw [block_set hg, he]) (set_grown w g k v)
/-- a whole row, stored, in a drawn region -/
theorem step_storeR {P : Program} {ops : Array Oper} {o : Oper} {a : Act} {w : World} {K : Act → World → Prop} {Q : Exit → Act → World → Prop} {E : Prop} (hgd : o.guard = none) (ty : TypeId) (x y : Operand) (ho : o.op = .store ty x y)
    (g : Nat) (cs : Array Value) (hx : a.eval x = .pointer (some ⟨g, 0, none⟩)) (hy : a.eval y = .agg cs) {T : TypeId} {old : Array Value} (hg : w.heap[g]? = some (.cells old T (0, 0))) (hi : (P.info? ty).map (·.size) = some cs.size) (hl : old.size = cs.size) (h1 : cs.all (·.oneCell') = true)
    (h : ∀ w1, w1.heap[g]? = some (.cells cs T (0, 0)) → w.grownBy w1 (some g) → K (a.put o.dst undef) w1) : if Region.wanted o (yielded ops a.tmps) = true then Oper.wp P o a w K Q else E := by
  rw [if_pos (by simp [Region.wanted, hgd])]
  exact wp_store_row ty x y ho g cs hx hy T _ hg hi hl h1 (h _ (setRow_heap w g _ _ T _ hg) ⟨rfl, rfl, rfl, by simp [World.setRow], fun k _ hk => setRow_other w g k _ (fun e => hk (by rw [e]))⟩)
end Go.Proofs.Ytmfplinbbcoahaa
/-
  One world v, and one fact that all at v is as it was: carried over calls and appends.
-/
namespace Go.Proofs.Ytmfplinbbcoahaa
open Go.RowKit Go.Sort
set_option linter.unusedVariables false
set_option linter.unusedSimpArgs false

theorem bsz {w a : World} (h : Below w.heap.size w a) : w.heap.size ≤ a.heap.size := h.size
theorem step_loadR {P : Program} {ops : Array Oper} {o : Oper} {a : Act} {w : World} {K : Act → World → Prop} {Q : Exit → Act → World → Prop} {E : Prop} (hgd : o.guard = none) (ty : TypeId) (x : Operand) (ho : o.op = .load ty x)
    (b off : Nat) (hx : a.eval x = .pointer (some ⟨b, off, none⟩)) (cs : List Value) (d : TypeDesc) (hc : w.rangeAt b off cs) (hu : P.underlying ty = some d) (hd : d.isRow = true) (hi : (P.info? ty).map (·.size) = some cs.length)
    (h : K (a.put o.dst (.agg cs.toArray)) w) : if Region.wanted o (yielded ops a.tmps) = true then Oper.wp P o a w K Q else E := by
  rw [if_pos (by simp [Region.wanted, hgd])]
  exact wp_load_mid ty x ho b off hx cs d hc hu hd hi h
/-- all that lay at v is as it was, over an append to a row of the call's own -/
theorem cEa {v w a w' : World} {row : Option Nat} (hE : Hid (Below v.heap.size v w)) (hu : Below w.heap.size w a) (hgr : a.grownBy w' row) (hge : ∀ k, row = some k → v.heap.size ≤ k) : Hid (Below v.heap.size v w') :=
  Lib.hid ((hE.out.trans (hu.mono hE.out.size)).grown hgr (Nat.le_trans hE.out.size hu.size) hge)
theorem cE0 {v w a w' : World} (hE : Hid (Below v.heap.size v w)) (hu : Below w.heap.size w a) (hb : Below a.heap.size a w') : Hid (Below v.heap.size v w') :=
  Lib.hid ((hE.out.trans (hu.mono hE.out.size)).trans (hb.mono (Nat.le_trans hE.out.size hu.size)))
theorem cOa {w a w' : World} {base : Nat} {e : TypeId} {size : Nat} {ad : Option Addr} {n c : Nat} {xs : List Value} (h : Hid (w.ownsRow base e size (.slice ad n c) n xs)) (hu : Below w.heap.size w a) (hb : Below a.heap.size a w') : Hid (w'.ownsRow base e size (.slice ad n c) n xs) := Lib.hid (own_keep (own_keep h.out hu) hb)
end Go.Proofs.Ytmfplinbbcoahaa
