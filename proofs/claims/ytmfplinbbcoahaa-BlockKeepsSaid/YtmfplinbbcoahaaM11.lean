/-
  Joined by program (merge.py): Body4, Body5, Body6.
-/
import Derived.Test.YtmfplinbbcoahaaM2
import Derived.Test.YtmfplinbbcoahaaM4
import Derived.Test.YtmfplinbbcoahaaM8
import Derived.Test.YtmfplinbbcoahaaM10
/-
  Chapter 26: a block's body laid, kind by kind, walked (two).
-/
namespace Go.Proofs.Ytmfplinbbcoahaa
open Go.RowKit Go.Sort
set_option linter.unusedVariables false
set_option linter.unusedSimpArgs false

set_option maxRecDepth 100000 in
set_option maxHeartbeats 8000000 in
theorem body6_any (v : BlkV) (big : Bool) (w : World) (hv : Blk w v) (hk : v.kind = 6) (hf : SmB v) (hm : mayP v.val = true) (hw : wfB v.val) :
    Calls Try.prog 48 #[.agg v.cells.toArray, .bool big] w fun e w' => (∃ ad c, e = .returned (.slice ad (bodyB big v.val).length c) ∧ Bs w' ad (bodyB big v.val).length c (bodyB big v.val)) ∧ Below w.heap.size w w' := by
  obtain ⟨z1, z2, z3⟩ := hf.sizes
  obtain ⟨_, hfit, hlink, hifc, hwo, hwn, hlast⟩ := (mayP_iff v.val).1 hm
  obtain ⟨hw1, hw2, hw3, hw4'⟩ := hw
  change 0 ≤ v.link ∧ v.link ≤ 65535 at hlink
  change 0 ≤ v.iface ∧ v.iface ≤ 4294967295 at hifc
  change wrongO (vals v.os) = 0 at hwo
  change wrongO (vals v.ns) = 0 at hwn
  change v.type < 4294967296 at hw1
  change v.snap < 4294967296 at hw2
  change v.time < 18446744073709551616 at hw3
  change v.len < 4294967296 at hw4'
  have HB := Lib.hid (Below.refl w.heap.size w)
  have HV := Lib.hid hv
  have HFIT := Lib.hid hfit
  have HWo := Lib.hid hwo
  have HWn := Lib.hid hwn
  obtain ⟨PO, hPO⟩ : ∃ P, P = putAll big (vals v.os) := ⟨_, rfl⟩
  have hpl : PO.length ≤ 70424 := by rw [hPO, putAll_length]; split <;> omega
  have HPO := Lib.hid hPO
  obtain ⟨L0, hL0⟩ : ∃ L : List UInt8, L = [] := ⟨_, rfl⟩
  have hn0 : L0.length ≤ 0 := by rw [hL0]; exact Nat.le_refl _
  have HL0 := Lib.hid hL0
  obtain ⟨ic, hic⟩ : ∃ n : Nat, v.iface = (n : Int) := ⟨v.iface.toNat, by omega⟩
  have hiw : IntKind.u64.wrap (ic : Int) = (ic : Int) := u64_wrap_nat _ (by omega)
  have hit : v.iface.toNat = ic := by omega
  have HIT := Lib.hid hit
  clear hv hf hm hfit hwo hwn hlast hPO hL0
  go_enter Try.func48, Try.ntmps48
  go_wp2_with (first
    | ((with_reducible refine sl 2 ?_); go_must (refine wpL_box rfl 27 (.tmp 0) rfl v.cells.toArray rfl ?_); intro w1 hg1 hb1; have hz1 := lt_of_block hg1; obtain ⟨w4, hw4⟩ : ∃ w4, w4 = ((w1.alloc (.cells #[.bool big] 4)).alloc (.cells #[.slice none 0 0] 24)).alloc (.cells #[.func (.func 76) #[] #[.pointer (some ⟨w1.heap.size + 1, 0, none⟩), .pointer (some ⟨w1.heap.size, 0, none⟩)]] 97) := ⟨_, rfl⟩; have h14 := body_prelude w1 big; rw [← hw4] at h14; have HG := Lib.hid ((h14.1.block _ hz1).trans hg1); have H6 := Lib.hid h14.2.2; have ho4 := h14.2.1; rw [← HL0.out] at ho4; have HO := Lib.hid ho4; clear ho4; have HB' := Lib.hid ((HB.out.trans hb1).trans (h14.1.mono (by omega))); clear HB; have HB := HB'; clear HB'; have HW4 := Lib.hid hw4; obtain ⟨c0, c1, c2, c3, c4, c5, c6, c7, c8, c9, c10⟩ := blk_cells HG.out; have m6 := cell_of_one H6.out; unfold numF at m6; obtain ⟨ad5, k5, h51, h52, h53, _, _, _, h57⟩ := HO.out; have m5 := cell_of_one h51; have m3 := cell_of_one h53; have f5 := free_of_one h51; have H51 := Lib.hid h51; have H52 := Lib.hid h52; have H53 := Lib.hid h53; have H57 := Lib.hid h57; clear h51 h52 h53 h57; clear hg1 hb1 hw4 h14; simp only [PT])
    | ((with_reducible refine sl 14 ?_); rw [← HW4.out]; clear HW4)
    | (go_at_call 76; (with_reducible show Calls _ _ #[Value.int .u64 ((ic : Nat) : Int), .int .i64 4, _, _] _ _); go_must (refine (num_any (w1.heap.size + 3) (w1.heap.size + 1) w1.heap.size big L0 ic 4 (by omega) (by omega) _ HO.out).mono ?_); rintro e w11 ⟨rfl, ho, hk⟩; obtain ⟨L1, hL1⟩ : ∃ L, L = L0 ++ putL ic 4 big := ⟨_, rfl⟩; rw [← hL1] at ho; have hn1 : L1.length ≤ L0.length + (putL ic 4 big).length := (by rw [hL1, List.length_append]; exact Nat.le_refl _); rw [putL4_length] at hn1; have HL1 := Lib.hid hL1; clear hL1; clear c0 c1 c2 c3 c4 c5 c6 c7 c8 c9 c10 m6 m5 m3 f5 H51 H52 H53 H57; have HG' := Lib.hid (Kb.block hk (by omega) (by omega) HG.out); clear HG; have HG := HG'; clear HG'; have H6' := Lib.hid (Kb.block hk (by omega) (by omega) H6.out); clear H6; have H6 := H6'; clear H6'; have HB' := Lib.hid (Kb.below HB.out hk (by omega) (by omega)); clear HB; have HB := HB'; clear HB'; clear HO; have HO := Lib.hid ho; obtain ⟨c0, c1, c2, c3, c4, c5, c6, c7, c8, c9, c10⟩ := blk_cells HG.out; have m6 := cell_of_one H6.out; unfold numF at m6; obtain ⟨ad5, k5, h51, h52, h53, _, _, _, h57⟩ := HO.out; have m5 := cell_of_one h51; have m3 := cell_of_one h53; have f5 := free_of_one h51; have H51 := Lib.hid h51; have H52 := Lib.hid h52; have H53 := Lib.hid h53; have H57 := Lib.hid h57; clear h51 h52 h53 h57; clear ho hk)
    | (go_at_call 77; go_must (refine (time_any (w1.heap.size + 3) (w1.heap.size + 1) w1.heap.size (w1.heap.size + 1 + 1) w.heap.size big L1 (by omega) v hw3 _ HO.out H6.out HG.out (by omega) (by omega) (by omega) (by omega)).mono ?_); rintro e w12 ⟨rfl, ho, hk⟩; obtain ⟨L2, hL2⟩ : ∃ L, L = L1 ++ timeB big v.time := ⟨_, rfl⟩; rw [← hL2] at ho; have hn2 : L2.length ≤ L1.length + 8 := (by rw [hL2, List.length_append]; unfold timeB; rw [List.length_append, putL4_length, putL4_length]; exact Nat.le_refl _); have HL2 := Lib.hid hL2; clear hL2; clear c0 c1 c2 c3 c4 c5 c6 c7 c8 c9 c10 m6 m5 m3 f5 H51 H52 H53 H57; have HG' := Lib.hid (Kb.block hk (by omega) (by omega) HG.out); clear HG; have HG := HG'; clear HG'; have H6' := Lib.hid (Kb.block hk (by omega) (by omega) H6.out); clear H6; have H6 := H6'; clear H6'; have HB' := Lib.hid (Kb.below HB.out hk (by omega) (by omega)); clear HB; have HB := HB'; clear HB'; clear HO; have HO := Lib.hid ho; obtain ⟨c0, c1, c2, c3, c4, c5, c6, c7, c8, c9, c10⟩ := blk_cells HG.out; have m6 := cell_of_one H6.out; unfold numF at m6; obtain ⟨ad5, k5, h51, h52, h53, _, _, _, h57⟩ := HO.out; have m5 := cell_of_one h51; have m3 := cell_of_one h53; have f5 := free_of_one h51; have H51 := Lib.hid h51; have H52 := Lib.hid h52; have H53 := Lib.hid h53; have H57 := Lib.hid h57; clear h51 h52 h53 h57; clear ho hk)
    | (go_at_call 80; (with_reducible show Calls _ _ #[Value.slice v.oad _ _, _] _ _); go_must (refine (optPut_any v.oad v.on v.oc v.os big _ (HV.out.2.2.below (HB.out.trans (Below.mono bup HB.out.size))) (by omega)).mono ?_); intro e w40 hr; rw [HWo.out] at hr; rw [← HPO.out] at hr; obtain ⟨hb, h3⟩ := hr; rcases h3 with ⟨h3, _⟩ | ⟨_, ad40, c40, rfl, ho40⟩; exact absurd rfl h3; have H40 := Lib.hid (Bs.of_own ho40); have ho := HO.out.below hb; have hk : Kb (w1.heap.size + 3) (w1.heap.size + 1) _ w40 := Kb.of_below (hb.mono H57.out); clear ho40; clear c0 c1 c2 c3 c4 c5 c6 c7 c8 c9 c10 m6 m5 m3 f5 H51 H52 H53 H57; have HG' := Lib.hid (Kb.block hk (by omega) (by omega) HG.out); clear HG; have HG := HG'; clear HG'; have H6' := Lib.hid (Kb.block hk (by omega) (by omega) H6.out); clear H6; have H6 := H6'; clear H6'; have HB' := Lib.hid (Kb.below HB.out hk (by omega) (by omega)); clear HB; have HB := HB'; clear HB'; clear HO; have HO := Lib.hid ho; obtain ⟨c0, c1, c2, c3, c4, c5, c6, c7, c8, c9, c10⟩ := blk_cells HG.out; have m6 := cell_of_one H6.out; unfold numF at m6; obtain ⟨ad5, k5, h51, h52, h53, _, _, _, h57⟩ := HO.out; have m5 := cell_of_one h51; have m3 := cell_of_one h53; have f5 := free_of_one h51; have H51 := Lib.hid h51; have H52 := Lib.hid h52; have H53 := Lib.hid h53; have H57 := Lib.hid h57; clear h51 h52 h53 h57; clear ho hk; clear hb)
    | ((with_reducible refine sl 117 ?_); go_must (refine wpL_append elB rfl (.tmp 115) (.tmp 116) rfl (w1.heap.size + 3) rfl H52.out rfl H40.out (BV_one _) (by unfold maxLen; omega) (by omega) H57.out ?_); intro ad41 c41 w41 hown hgr hat hnil; have HB' := Lib.hid (HB.out.grown hgr HB.out.size (fun k e => by have := ownBlock_ge H52.out k e; omega)); clear HB; have HB := HB'; clear HB'; rw [← BV_append] at hown; have H41 := Lib.hid (Bs.of_own hown); clear hown hgr hat hnil; simp only [PT]))
  have HFIN : Hid (L2 ++ PO = bodyB big v.val) := Lib.hid (by
    rw [HL2.out, HL1.out, HL0.out, HPO.out]
    unfold bodyB fieldsB BlkV.val
    simp only [hk, HIT.out]
    simp [List.append_assoc])
  go_ret
  refine ⟨⟨ad41, c41, ?_, ?_⟩, HB.out⟩
  · rw [← HFIN.out, List.length_append]
    rfl
  · rw [← HFIN.out, List.length_append]
    exact H41.out
set_option maxRecDepth 100000 in
set_option maxHeartbeats 8000000 in
theorem body7_any (v : BlkV) (big : Bool) (w : World) (hv : Blk w v) (hk : v.kind = 7) (hf : SmB v) (hm : mayP v.val = true) (hw : wfB v.val) :
    Calls Try.prog 48 #[.agg v.cells.toArray, .bool big] w fun e w' => (∃ ad c, e = .returned (.slice ad (bodyB big v.val).length c) ∧ Bs w' ad (bodyB big v.val).length c (bodyB big v.val)) ∧ Below w.heap.size w w' := by
  obtain ⟨z1, z2, z3⟩ := hf.sizes
  obtain ⟨_, hfit, hlink, hifc, hwo, hwn, hlast⟩ := (mayP_iff v.val).1 hm
  obtain ⟨hw1, hw2, hw3, hw4'⟩ := hw
  change 0 ≤ v.link ∧ v.link ≤ 65535 at hlink
  change 0 ≤ v.iface ∧ v.iface ≤ 4294967295 at hifc
  change wrongO (vals v.os) = 0 at hwo
  change wrongO (vals v.ns) = 0 at hwn
  change v.type < 4294967296 at hw1
  change v.snap < 4294967296 at hw2
  change v.time < 18446744073709551616 at hw3
  change v.len < 4294967296 at hw4'
  have HB := Lib.hid (Below.refl w.heap.size w)
  have HV := Lib.hid hv
  have HFIT := Lib.hid hfit
  have HWo := Lib.hid hwo
  have HWn := Lib.hid hwn
  obtain ⟨PO, hPO⟩ : ∃ P, P = putAll big (vals v.os) := ⟨_, rfl⟩
  have hpl : PO.length ≤ 70424 := by rw [hPO, putAll_length]; split <;> omega
  have HPO := Lib.hid hPO
  obtain ⟨L0, hL0⟩ : ∃ L : List UInt8, L = [] := ⟨_, rfl⟩
  have hn0 : L0.length ≤ 0 := by rw [hL0]; exact Nat.le_refl _
  have HL0 := Lib.hid hL0
  have HDL := Lib.hid hv.1.len
  clear hv hf hm hfit hwo hwn hlast hPO hL0
  go_enter Try.func48, Try.ntmps48
  go_wp2_with (first
    | ((with_reducible refine sl 2 ?_); go_must (refine wpL_box rfl 27 (.tmp 0) rfl v.cells.toArray rfl ?_); intro w1 hg1 hb1; have hz1 := lt_of_block hg1; obtain ⟨w4, hw4⟩ : ∃ w4, w4 = ((w1.alloc (.cells #[.bool big] 4)).alloc (.cells #[.slice none 0 0] 24)).alloc (.cells #[.func (.func 76) #[] #[.pointer (some ⟨w1.heap.size + 1, 0, none⟩), .pointer (some ⟨w1.heap.size, 0, none⟩)]] 97) := ⟨_, rfl⟩; have h14 := body_prelude w1 big; rw [← hw4] at h14; have HG := Lib.hid ((h14.1.block _ hz1).trans hg1); have H6 := Lib.hid h14.2.2; have ho4 := h14.2.1; rw [← HL0.out] at ho4; have HO := Lib.hid ho4; clear ho4; have HB' := Lib.hid ((HB.out.trans hb1).trans (h14.1.mono (by omega))); clear HB; have HB := HB'; clear HB'; have HW4 := Lib.hid hw4; obtain ⟨c0, c1, c2, c3, c4, c5, c6, c7, c8, c9, c10⟩ := blk_cells HG.out; have m6 := cell_of_one H6.out; unfold numF at m6; obtain ⟨ad5, k5, h51, h52, h53, _, _, _, h57⟩ := HO.out; have m5 := cell_of_one h51; have m3 := cell_of_one h53; have f5 := free_of_one h51; have H51 := Lib.hid h51; have H52 := Lib.hid h52; have H53 := Lib.hid h53; have H57 := Lib.hid h57; clear h51 h52 h53 h57; clear hg1 hb1 hw4 h14; simp only [PT])
    | ((with_reducible refine sl 14 ?_); rw [← HW4.out]; clear HW4)
    | ((with_reducible refine sl 19 ?_); go_must (refine wpL_append elB rfl (.tmp 16) (.tmp 18) rfl (w1.heap.size + 3) rfl H52.out rfl (HV.out.1.below (HB.out.trans (Below.mono bup HB.out.size))) (BV_one _) (by unfold maxLen; omega) (by omega) H57.out ?_); intro adn kn w7 hown hgr _ _; rw [← BV_append] at hown; have HS7 := Lib.hid (show Below (w1.heap.size + 3) w4 w7 from ((Below.refl _ _)).grown hgr H57.out (ownBlock_ge H52.out)); have HO7 := Lib.hid hown; have H517 := Lib.hid ((HS7.out.block _ (by omega)).trans H51.out); have H537 := Lib.hid ((HS7.out.block _ (by omega)).trans H53.out); clear hown hgr; simp only [PT])
    | ((with_reducible show wpList _ _ _ (⟨none, .store _ _ (.tmp 19), _, _, _, _⟩ :: _) _ _); go_must (refine wpL_store1 rfl 24 (.tmp 5) (.tmp 19) rfl (w1.heap.size + 1) (.slice adn (L0.length + v.dn) kn) rfl rfl rfl H517.out (by kernel_rfl) ?_); intro w11 hg8 hgr8; obtain ⟨L1, hL1⟩ : ∃ L, L = L0 ++ v.dl := ⟨_, rfl⟩; have hl8 : L0.length + v.dn = (L0 ++ v.dl).length := (by (try have hdl := HDL.out); rw [List.length_append]; omega); have ho := outB_store HO7.out hl8 hg8 hgr8 H537.out (by omega) (by omega) (by omega) (Nat.le_trans H57.out HS7.out.size); have hk := Kb.trans (Kb.of_below (g5 := w1.heap.size + 1) HS7.out) (Kb.of_grown hgr8 (Nat.le_trans H57.out HS7.out.size)); rw [← hL1] at ho; have hn1 : L1.length ≤ L0.length + v.dn := (by rw [hL1, ← hl8]; exact Nat.le_refl _); have HL1 := Lib.hid hL1; clear hL1 hl8 hg8 hgr8 HS7 HO7 H517 H537; clear c0 c1 c2 c3 c4 c5 c6 c7 c8 c9 c10 m6 m5 m3 f5 H51 H52 H53 H57; have HG' := Lib.hid (Kb.block hk (by omega) (by omega) HG.out); clear HG; have HG := HG'; clear HG'; have H6' := Lib.hid (Kb.block hk (by omega) (by omega) H6.out); clear H6; have H6 := H6'; clear H6'; have HB' := Lib.hid (Kb.below HB.out hk (by omega) (by omega)); clear HB; have HB := HB'; clear HB'; clear HO; have HO := Lib.hid ho; obtain ⟨c0, c1, c2, c3, c4, c5, c6, c7, c8, c9, c10⟩ := blk_cells HG.out; have m6 := cell_of_one H6.out; unfold numF at m6; obtain ⟨ad5, k5, h51, h52, h53, _, _, _, h57⟩ := HO.out; have m5 := cell_of_one h51; have m3 := cell_of_one h53; have f5 := free_of_one h51; have H51 := Lib.hid h51; have H52 := Lib.hid h52; have H53 := Lib.hid h53; have H57 := Lib.hid h57; clear h51 h52 h53 h57; clear ho hk; simp only [PT])
    | (go_at_call 80; (with_reducible show Calls _ _ #[Value.slice v.oad _ _, _] _ _); go_must (refine (optPut_any v.oad v.on v.oc v.os big _ (HV.out.2.2.below (HB.out.trans (Below.mono bup HB.out.size))) (by omega)).mono ?_); intro e w40 hr; rw [HWo.out] at hr; rw [← HPO.out] at hr; obtain ⟨hb, h3⟩ := hr; rcases h3 with ⟨h3, _⟩ | ⟨_, ad40, c40, rfl, ho40⟩; exact absurd rfl h3; have H40 := Lib.hid (Bs.of_own ho40); have ho := HO.out.below hb; have hk : Kb (w1.heap.size + 3) (w1.heap.size + 1) _ w40 := Kb.of_below (hb.mono H57.out); clear ho40; clear c0 c1 c2 c3 c4 c5 c6 c7 c8 c9 c10 m6 m5 m3 f5 H51 H52 H53 H57; have HG' := Lib.hid (Kb.block hk (by omega) (by omega) HG.out); clear HG; have HG := HG'; clear HG'; have H6' := Lib.hid (Kb.block hk (by omega) (by omega) H6.out); clear H6; have H6 := H6'; clear H6'; have HB' := Lib.hid (Kb.below HB.out hk (by omega) (by omega)); clear HB; have HB := HB'; clear HB'; clear HO; have HO := Lib.hid ho; obtain ⟨c0, c1, c2, c3, c4, c5, c6, c7, c8, c9, c10⟩ := blk_cells HG.out; have m6 := cell_of_one H6.out; unfold numF at m6; obtain ⟨ad5, k5, h51, h52, h53, _, _, _, h57⟩ := HO.out; have m5 := cell_of_one h51; have m3 := cell_of_one h53; have f5 := free_of_one h51; have H51 := Lib.hid h51; have H52 := Lib.hid h52; have H53 := Lib.hid h53; have H57 := Lib.hid h57; clear h51 h52 h53 h57; clear ho hk; clear hb)
    | ((with_reducible refine sl 117 ?_); go_must (refine wpL_append elB rfl (.tmp 115) (.tmp 116) rfl (w1.heap.size + 3) rfl H52.out rfl H40.out (BV_one _) (by unfold maxLen; omega) (by omega) H57.out ?_); intro ad41 c41 w41 hown hgr hat hnil; have HB' := Lib.hid (HB.out.grown hgr HB.out.size (fun k e => by have := ownBlock_ge H52.out k e; omega)); clear HB; have HB := HB'; clear HB'; rw [← BV_append] at hown; have H41 := Lib.hid (Bs.of_own hown); clear hown hgr hat hnil; simp only [PT]))
  have HFIN : Hid (L1 ++ PO = bodyB big v.val) := Lib.hid (by
    rw [HL1.out, HL0.out, HPO.out]
    unfold bodyB fieldsB BlkV.val
    simp [hk])
  go_ret
  refine ⟨⟨ad41, c41, ?_, ?_⟩, HB.out⟩
  · rw [← HFIN.out, List.length_append]
    rfl
  · rw [← HFIN.out, List.length_append]
    exact H41.out
end Go.Proofs.Ytmfplinbbcoahaa
/-
  Chapter 26: a block's body laid, kind by kind, walked (three).
-/
namespace Go.Proofs.Ytmfplinbbcoahaa
open Go.RowKit Go.Sort
set_option linter.unusedVariables false
set_option linter.unusedSimpArgs false

set_option maxRecDepth 100000 in
set_option maxHeartbeats 8000000 in
theorem body4_any (v : BlkV) (big : Bool) (w : World) (hv : Blk w v) (hk : v.kind = 4) (hf : SmB v) (hm : mayP v.val = true) (hw : wfB v.val) :
    Calls Try.prog 48 #[.agg v.cells.toArray, .bool big] w fun e w' => (∃ ad c, e = .returned (.slice ad (bodyB big v.val).length c) ∧ Bs w' ad (bodyB big v.val).length c (bodyB big v.val)) ∧ Below w.heap.size w w' := by
  obtain ⟨z1, z2, z3⟩ := hf.sizes
  obtain ⟨_, hfit, hlink, hifc, hwo, hwn, hlast⟩ := (mayP_iff v.val).1 hm
  obtain ⟨hw1, hw2, hw3, hw4'⟩ := hw
  change 0 ≤ v.link ∧ v.link ≤ 65535 at hlink
  change 0 ≤ v.iface ∧ v.iface ≤ 4294967295 at hifc
  change wrongO (vals v.os) = 0 at hwo
  change wrongO (vals v.ns) = 0 at hwn
  change v.type < 4294967296 at hw1
  change v.snap < 4294967296 at hw2
  change v.time < 18446744073709551616 at hw3
  change v.len < 4294967296 at hw4'
  have HB := Lib.hid (Below.refl w.heap.size w)
  have HV := Lib.hid hv
  have HFIT := Lib.hid hfit
  have HWo := Lib.hid hwo
  have HWn := Lib.hid hwn
  obtain ⟨PO, hPO⟩ : ∃ P, P = putAll big (vals v.os) := ⟨_, rfl⟩
  have hpl : PO.length ≤ 70424 := by rw [hPO, putAll_length]; split <;> omega
  have HPO := Lib.hid hPO
  obtain ⟨L0, hL0⟩ : ∃ L : List UInt8, L = [] := ⟨_, rfl⟩
  have hn0 : L0.length ≤ 0 := by rw [hL0]; exact Nat.le_refl _
  have HL0 := Lib.hid hL0
  have hlnw : IntKind.u64.wrap (v.len : Int) = (v.len : Int) := u64_wrap_nat _ (by omega)
  have hdnw : IntKind.u64.wrap (v.dn : Int) = (v.dn : Int) := u64_wrap_nat _ (by omega)
  obtain ⟨pdn, hpdn⟩ : ∃ n, n = (padL v.dl).length := ⟨_, rfl⟩
  have hpdb : pdn ≤ 1100003 := by rw [hpdn, padL_length]; have := padN_le v.dl.length; have := hv.1.len; omega
  have HPD := Lib.hid hpdn
  clear hpdn hv hf hm hfit hwo hwn hlast hPO hL0
  go_enter Try.func48, Try.ntmps48
  go_wp2_with (first
    | ((with_reducible refine sl 2 ?_); go_must (refine wpL_box rfl 27 (.tmp 0) rfl v.cells.toArray rfl ?_); intro w1 hg1 hb1; have hz1 := lt_of_block hg1; obtain ⟨w4, hw4⟩ : ∃ w4, w4 = ((w1.alloc (.cells #[.bool big] 4)).alloc (.cells #[.slice none 0 0] 24)).alloc (.cells #[.func (.func 76) #[] #[.pointer (some ⟨w1.heap.size + 1, 0, none⟩), .pointer (some ⟨w1.heap.size, 0, none⟩)]] 97) := ⟨_, rfl⟩; have h14 := body_prelude w1 big; rw [← hw4] at h14; have HG := Lib.hid ((h14.1.block _ hz1).trans hg1); have H6 := Lib.hid h14.2.2; have ho4 := h14.2.1; rw [← HL0.out] at ho4; have HO := Lib.hid ho4; clear ho4; have HB' := Lib.hid ((HB.out.trans hb1).trans (h14.1.mono (by omega))); clear HB; have HB := HB'; clear HB'; have HW4 := Lib.hid hw4; obtain ⟨c0, c1, c2, c3, c4, c5, c6, c7, c8, c9, c10⟩ := blk_cells HG.out; have m6 := cell_of_one H6.out; unfold numF at m6; obtain ⟨ad5, k5, h51, h52, h53, _, _, _, h57⟩ := HO.out; have m5 := cell_of_one h51; have m3 := cell_of_one h53; have f5 := free_of_one h51; have H51 := Lib.hid h51; have H52 := Lib.hid h52; have H53 := Lib.hid h53; have H57 := Lib.hid h57; clear h51 h52 h53 h57; clear hg1 hb1 hw4 h14; simp only [PT])
    | ((with_reducible refine sl 14 ?_); rw [← HW4.out]; clear HW4)
    | (go_at_call 76; (with_reducible show Calls _ _ #[Value.int .u64 ((v.len : Nat) : Int), .int .i64 4, _, _] _ _); go_must (refine (num_any (w1.heap.size + 3) (w1.heap.size + 1) w1.heap.size big L0 v.len 4 (by omega) (by omega) _ HO.out).mono ?_); rintro e w11 ⟨rfl, ho, hk⟩; obtain ⟨L1, hL1⟩ : ∃ L, L = L0 ++ putL v.len 4 big := ⟨_, rfl⟩; rw [← hL1] at ho; have hn1 : L1.length ≤ L0.length + (putL v.len 4 big).length := (by rw [hL1, List.length_append]; exact Nat.le_refl _); rw [putL4_length] at hn1; have HL1 := Lib.hid hL1; clear hL1; clear c0 c1 c2 c3 c4 c5 c6 c7 c8 c9 c10 m6 m5 m3 f5 H51 H52 H53 H57; have HG' := Lib.hid (Kb.block hk (by omega) (by omega) HG.out); clear HG; have HG := HG'; clear HG'; have H6' := Lib.hid (Kb.block hk (by omega) (by omega) H6.out); clear H6; have H6 := H6'; clear H6'; have HB' := Lib.hid (Kb.below HB.out hk (by omega) (by omega)); clear HB; have HB := HB'; clear HB'; clear HO; have HO := Lib.hid ho; obtain ⟨c0, c1, c2, c3, c4, c5, c6, c7, c8, c9, c10⟩ := blk_cells HG.out; have m6 := cell_of_one H6.out; unfold numF at m6; obtain ⟨ad5, k5, h51, h52, h53, _, _, _, h57⟩ := HO.out; have m5 := cell_of_one h51; have m3 := cell_of_one h53; have f5 := free_of_one h51; have H51 := Lib.hid h51; have H52 := Lib.hid h52; have H53 := Lib.hid h53; have H57 := Lib.hid h57; clear h51 h52 h53 h57; clear ho hk))
  refine wp_region_held_drew (S := fun u => u.cell? ⟨w.heap.size, 8, none⟩ = some (.slice v.dad v.dn v.dc)) (by kernel_rfl) ?_ (fun hHeld => ?_)
  focus (first | exact (blk_cells HG.out).2.2.2.2.2.2.2.2.1 | exact (blk_cells HGx.out).2.2.2.2.2.2.2.2.1)
  refine tk 1 (oi := ⟨some 79, _, _, _, _, _⟩) (v := ?_) rfl (by kernel_rfl) (.inl ⟨by rfl, ?_⟩) hHeld ?_; rotate_left; focus (intro w hSw; (try dsimp only at hSw); go_simp; try with_reducible rfl)
  simp only [PT]
  refine tk 2 (oi := ⟨some 80, _, _, _, _, _⟩) (v := ?_) rfl (by kernel_rfl) (.inl ⟨by rfl, ?_⟩) hHeld ?_; rotate_left; focus (intro w hSw; (try dsimp only at hSw); go_simp; try with_reducible rfl)
  simp only [PT]
  refine wpAnyH_ready (rs := [0, 3]) (by kernel_rfl) (by simp) ?_
  refine (AllReadyH.cons (o := ⟨some 78, _, _, _, _, _⟩) rfl (fun K hK => ?_) (AllReadyH.cons (o := ⟨some 81, _, _, _, _, _⟩) rfl (fun K hK => ?_) AllReadyH.nil))
  (have m5 := cell_of_one H51.out; go_simp)
  refine hK.out _ _ ?_ (fun hHeld => ?_)
  focus (first | exact (blk_cells HG.out).2.2.2.2.2.2.2.2.1 | exact (blk_cells HGx.out).2.2.2.2.2.2.2.2.1)
  clear hK K
  try simp only [PT]
  refine wpAnyH_ready (rs := [3]) (by kernel_rfl) (by simp) ?_
  refine (AllReadyH.cons (o := ⟨some 81, _, _, _, _, _⟩) rfl (fun K hK => ?_) AllReadyH.nil)
  focus (go_simp; go_must (refine (padded_any v.dad v.dn v.dc v.dl _ (HV.out.1.below (HB.out.trans (Below.mono bup HB.out.size))) (by omega)).mono ?_); intro e w30 hr; unfold RetB at hr; rw [← HPD.out] at hr; obtain ⟨ad30, k30, rfl, ho30, hb30⟩ := hr; have hB30 : Below w11.heap.size w11 w30 := ((Below.refl _ _).drew).trans hb30; have hE__ := cU HB bup hb30; replace HB := ck HB hE__; replace HG := ck HG hE__; replace H6 := ck H6 hE__; replace H51 := ck H51 hE__; replace H53 := ck H53 hE__; replace H52 := ck H52 hE__; clear hE__; have H57' := Lib.hid (Nat.le_trans H57.out hB30.size); have HS0 := Lib.hid hB30; have HP30 := Lib.hid (Bs.of_own ho30); clear ho30 hb30 hB30; go_wp2_with fail)
  refine hK.out _ _ ?_ (fun hHeld => ?_)
  focus (first | exact (blk_cells HG.out).2.2.2.2.2.2.2.2.1 | exact (blk_cells HGx.out).2.2.2.2.2.2.2.2.1)
  clear hK K
  try simp only [PT]
  refine wpAnyH_ready (rs := [4]) (by kernel_rfl) (by simp) ?_
  refine (AllReadyH.cons (o := ⟨some 82, _, _, _, _, _⟩) rfl (fun K hK => ?_) AllReadyH.nil)
  (go_must (refine step_append elB rfl (.tmp 78) (.tmp 81) rfl (w1.heap.size + 3) rfl H52.out rfl HP30.out (BV_one _) (by unfold maxLen; omega) (by omega) H57'.out ?_); intro adn kn w31 hown hgr _ _; rw [← BV_append] at hown; have HS7 := Lib.hid (show Below (w1.heap.size + 3) w30 w31 from ((Below.refl _ _)).grown hgr H57'.out (ownBlock_ge H52.out)); have HO7 := Lib.hid hown; have H517 := Lib.hid ((HS7.out.block _ (by omega)).trans H51.out); have H537 := Lib.hid ((HS7.out.block _ (by omega)).trans H53.out); have HG7 := Lib.hid ((HS7.out.block _ (by omega)).trans HG.out); clear HG; have HG := HG7; clear HG7 hown hgr)
  refine hK.out _ _ ?_ (fun hHeld => ?_)
  focus (first | exact (blk_cells HG.out).2.2.2.2.2.2.2.2.1 | exact (blk_cells HGx.out).2.2.2.2.2.2.2.2.1)
  clear hK K
  try simp only [PT]
  refine wpAnyH_ready (rs := [5]) (by kernel_rfl) (by simp) ?_
  refine (AllReadyH.cons (o := ⟨none, _, _, _, _, _⟩) rfl (fun K hK => ?_) AllReadyH.nil)
  (go_must (refine step_store1 rfl 24 (.tmp 5) (.tmp 82) rfl (w1.heap.size + 1) (.slice adn (L1.length + pdn) kn) rfl rfl rfl H517.out (by kernel_rfl) ?_); intro w32 hg8 hgr8; have HGx := Lib.hid ((hgr8.block _ (lt_of_block HG.out) (by intro e; simp at e; omega)).trans HG.out); have H8 := Lib.hid hg8; have HR8 := Lib.hid hgr8; clear hg8 hgr8)
  refine hK.out _ _ ?_ (fun hHeld => ?_)
  focus (first | exact (blk_cells HG.out).2.2.2.2.2.2.2.2.1 | exact (blk_cells HGx.out).2.2.2.2.2.2.2.2.1)
  clear hK K
  try simp only [PT]
  refine wpAnyH_done (by kernel_rfl) ?_ _
  rotate_left
  focus (go_simp; go_must (refine (padded_any v.dad v.dn v.dc v.dl _ (HV.out.1.below (HB.out.trans (Below.mono bup HB.out.size))) (by omega)).mono ?_); intro e w30 hr; unfold RetB at hr; rw [← HPD.out] at hr; obtain ⟨ad30, k30, rfl, ho30, hb30⟩ := hr; have hB30 : Below w11.heap.size w11 w30 := ((Below.refl _ _).drew).trans hb30; have hE__ := cU HB bup hb30; replace HB := ck HB hE__; replace HG := ck HG hE__; replace H6 := ck H6 hE__; replace H51 := ck H51 hE__; replace H53 := ck H53 hE__; replace H52 := ck H52 hE__; clear hE__; have H57' := Lib.hid (Nat.le_trans H57.out hB30.size); have HS0 := Lib.hid hB30; have HP30 := Lib.hid (Bs.of_own ho30); clear ho30 hb30 hB30; go_wp2_with fail)
  refine hK.out _ _ ?_ (fun hHeld => ?_)
  focus (first | exact (blk_cells HG.out).2.2.2.2.2.2.2.2.1 | exact (blk_cells HGx.out).2.2.2.2.2.2.2.2.1)
  clear hK K
  try simp only [PT]
  refine wpAnyH_ready (rs := [0]) (by kernel_rfl) (by simp) ?_
  refine (AllReadyH.cons (o := ⟨some 78, _, _, _, _, _⟩) rfl (fun K hK => ?_) AllReadyH.nil)
  (have m5 := cell_of_one H51.out; go_simp)
  refine hK.out _ _ ?_ (fun hHeld => ?_)
  focus (first | exact (blk_cells HG.out).2.2.2.2.2.2.2.2.1 | exact (blk_cells HGx.out).2.2.2.2.2.2.2.2.1)
  clear hK K
  try simp only [PT]
  refine wpAnyH_ready (rs := [4]) (by kernel_rfl) (by simp) ?_
  refine (AllReadyH.cons (o := ⟨some 82, _, _, _, _, _⟩) rfl (fun K hK => ?_) AllReadyH.nil)
  (go_must (refine step_append elB rfl (.tmp 78) (.tmp 81) rfl (w1.heap.size + 3) rfl H52.out rfl HP30.out (BV_one _) (by unfold maxLen; omega) (by omega) H57'.out ?_); intro adn kn w31 hown hgr _ _; rw [← BV_append] at hown; have HS7 := Lib.hid (show Below (w1.heap.size + 3) w30 w31 from ((Below.refl _ _)).grown hgr H57'.out (ownBlock_ge H52.out)); have HO7 := Lib.hid hown; have H517 := Lib.hid ((HS7.out.block _ (by omega)).trans H51.out); have H537 := Lib.hid ((HS7.out.block _ (by omega)).trans H53.out); have HG7 := Lib.hid ((HS7.out.block _ (by omega)).trans HG.out); clear HG; have HG := HG7; clear HG7 hown hgr)
  refine hK.out _ _ ?_ (fun hHeld => ?_)
  focus (first | exact (blk_cells HG.out).2.2.2.2.2.2.2.2.1 | exact (blk_cells HGx.out).2.2.2.2.2.2.2.2.1)
  clear hK K
  try simp only [PT]
  refine wpAnyH_ready (rs := [5]) (by kernel_rfl) (by simp) ?_
  refine (AllReadyH.cons (o := ⟨none, _, _, _, _, _⟩) rfl (fun K hK => ?_) AllReadyH.nil)
  (go_must (refine step_store1 rfl 24 (.tmp 5) (.tmp 82) rfl (w1.heap.size + 1) (.slice adn (L1.length + pdn) kn) rfl rfl rfl H517.out (by kernel_rfl) ?_); intro w32 hg8 hgr8; have HGx := Lib.hid ((hgr8.block _ (lt_of_block HG.out) (by intro e; simp at e; omega)).trans HG.out); have H8 := Lib.hid hg8; have HR8 := Lib.hid hgr8; clear hg8 hgr8)
  refine hK.out _ _ ?_ (fun hHeld => ?_)
  focus (first | exact (blk_cells HG.out).2.2.2.2.2.2.2.2.1 | exact (blk_cells HGx.out).2.2.2.2.2.2.2.2.1)
  clear hK K
  try simp only [PT]
  refine wpAnyH_done (by kernel_rfl) ?_ _
  rotate_left
  all_goals
    obtain ⟨L2, hL2⟩ : ∃ L, L = L1 ++ padL v.dl := ⟨_, rfl⟩
    have hl8 : L1.length + pdn = (L1 ++ padL v.dl).length := by rw [List.length_append, ← HPD.out]
    have ho := outB_store HO7.out hl8 H8.out HR8.out H537.out (by omega) (by omega) (by omega) (Nat.le_trans H57'.out HS7.out.size)
    have hk0 : Kb (w1.heap.size + 3) (w1.heap.size + 1) w30 w32 := Kb.trans (Kb.of_below HS7.out) (Kb.of_grown HR8.out (Nat.le_trans H57'.out HS7.out.size))
    rw [← hL2] at ho
    have hn2 : L2.length ≤ L1.length + pdn := by rw [hL2, ← hl8]; exact Nat.le_refl _
    have HL2 := Lib.hid hL2
    clear hL2 hl8 HG H8 HR8 HS7 HO7 H517 H537 c0 c1 c2 c3 c4 c5 c6 c7 c8 c9 c10 m6 m5 m3 f5 H51 H52 H53 H57
    have HG := HGx
    clear HGx
    have H6' := Lib.hid (Kb.block hk0 (by omega) (by omega) H6.out); clear H6; have H6 := H6'; clear H6'
    have HB' := Lib.hid (Kb.below HB.out hk0 (by omega) (by omega)); clear HB; have HB := HB'; clear HB'
    clear HO
    have HO := Lib.hid ho
    obtain ⟨c0, c1, c2, c3, c4, c5, c6, c7, c8, c9, c10⟩ := blk_cells HG.out; have m6 := cell_of_one H6.out; unfold numF at m6; obtain ⟨ad5, k5, h51, h52, h53, _, _, _, h57⟩ := HO.out; have m5 := cell_of_one h51; have m3 := cell_of_one h53; have f5 := free_of_one h51; have H51 := Lib.hid h51; have H52 := Lib.hid h52; have H53 := Lib.hid h53; have H57 := Lib.hid h57; clear h51 h52 h53 h57
    clear ho hk0 HP30 HS0 H57'
    go_wp2_with (first
      | (go_at_call 80; (with_reducible show Calls _ _ #[Value.slice v.oad _ _, _] _ _); go_must (refine (optPut_any v.oad v.on v.oc v.os big _ (HV.out.2.2.below (HB.out.trans (Below.mono bup HB.out.size))) (by omega)).mono ?_); intro e w40 hr; rw [HWo.out] at hr; rw [← HPO.out] at hr; obtain ⟨hb, h3⟩ := hr; rcases h3 with ⟨h3, _⟩ | ⟨_, ad40, c40, rfl, ho40⟩; exact absurd rfl h3; have H40 := Lib.hid (Bs.of_own ho40); have ho := HO.out.below hb; have hk : Kb (w1.heap.size + 3) (w1.heap.size + 1) _ w40 := Kb.of_below (hb.mono H57.out); clear ho40; clear c0 c1 c2 c3 c4 c5 c6 c7 c8 c9 c10 m6 m5 m3 f5 H51 H52 H53 H57; have HG' := Lib.hid (Kb.block hk (by omega) (by omega) HG.out); clear HG; have HG := HG'; clear HG'; have H6' := Lib.hid (Kb.block hk (by omega) (by omega) H6.out); clear H6; have H6 := H6'; clear H6'; have HB' := Lib.hid (Kb.below HB.out hk (by omega) (by omega)); clear HB; have HB := HB'; clear HB'; clear HO; have HO := Lib.hid ho; obtain ⟨c0, c1, c2, c3, c4, c5, c6, c7, c8, c9, c10⟩ := blk_cells HG.out; have m6 := cell_of_one H6.out; unfold numF at m6; obtain ⟨ad5, k5, h51, h52, h53, _, _, _, h57⟩ := HO.out; have m5 := cell_of_one h51; have m3 := cell_of_one h53; have f5 := free_of_one h51; have H51 := Lib.hid h51; have H52 := Lib.hid h52; have H53 := Lib.hid h53; have H57 := Lib.hid h57; clear h51 h52 h53 h57; clear ho hk; clear hb)
      | ((with_reducible refine sl 117 ?_); go_must (refine wpL_append elB rfl (.tmp 115) (.tmp 116) rfl (w1.heap.size + 3) rfl H52.out rfl H40.out (BV_one _) (by unfold maxLen; omega) (by omega) H57.out ?_); intro ad41 c41 w41 hown hgr hat hnil; have HB' := Lib.hid (HB.out.grown hgr HB.out.size (fun k e => by have := ownBlock_ge H52.out k e; omega)); clear HB; have HB := HB'; clear HB'; rw [← BV_append] at hown; have H41 := Lib.hid (Bs.of_own hown); clear hown hgr hat hnil; simp only [PT]))
    have HFIN : Hid (L2 ++ PO = bodyB big v.val) := Lib.hid (by
      rw [HL2.out, HL1.out, HL0.out, HPO.out]
      unfold bodyB fieldsB BlkV.val
      simp [hk, List.append_assoc])
    go_ret
    refine ⟨⟨ad41, c41, ?_, ?_⟩, HB.out⟩
    · rw [← HFIN.out, List.length_append]
      rfl
    · rw [← HFIN.out, List.length_append]
      exact H41.out
end Go.Proofs.Ytmfplinbbcoahaa
/-
  Chapter 26: a block's body laid, kind by kind, walked (four).
-/
namespace Go.Proofs.Ytmfplinbbcoahaa
open Go.RowKit Go.Sort
set_option linter.unusedVariables false
set_option linter.unusedSimpArgs false

set_option maxRecDepth 100000 in
set_option maxHeartbeats 8000000 in
theorem body3_any (v : BlkV) (big : Bool) (w : World) (hv : Blk w v) (hk : v.kind = 3) (hf : SmB v) (hm : mayP v.val = true) (hw : wfB v.val) :
    Calls Try.prog 48 #[.agg v.cells.toArray, .bool big] w fun e w' => (∃ ad c, e = .returned (.slice ad (bodyB big v.val).length c) ∧ Bs w' ad (bodyB big v.val).length c (bodyB big v.val)) ∧ Below w.heap.size w w' := by
  obtain ⟨z1, z2, z3⟩ := hf.sizes
  obtain ⟨_, hfit, hlink, hifc, hwo, hwn, hlast⟩ := (mayP_iff v.val).1 hm
  obtain ⟨hw1, hw2, hw3, hw4'⟩ := hw
  change 0 ≤ v.link ∧ v.link ≤ 65535 at hlink
  change 0 ≤ v.iface ∧ v.iface ≤ 4294967295 at hifc
  change wrongO (vals v.os) = 0 at hwo
  change wrongO (vals v.ns) = 0 at hwn
  change v.type < 4294967296 at hw1
  change v.snap < 4294967296 at hw2
  change v.time < 18446744073709551616 at hw3
  change v.len < 4294967296 at hw4'
  have HB := Lib.hid (Below.refl w.heap.size w)
  have HV := Lib.hid hv
  have HFIT := Lib.hid hfit
  have HDLN := Lib.hid hv.lens.1
  have HWo := Lib.hid hwo
  have HWn := Lib.hid hwn
  obtain ⟨PO, hPO⟩ : ∃ P, P = putAll big (vals v.os) := ⟨_, rfl⟩
  have hpl : PO.length ≤ 70424 := by rw [hPO, putAll_length]; split <;> omega
  have HPO := Lib.hid hPO
  obtain ⟨L0, hL0⟩ : ∃ L : List UInt8, L = [] := ⟨_, rfl⟩
  have hn0 : L0.length ≤ 0 := by rw [hL0]; exact Nat.le_refl _
  have HL0 := Lib.hid hL0
  obtain ⟨ic, hic⟩ : ∃ n : Nat, v.iface = (n : Int) := ⟨v.iface.toNat, by omega⟩
  have hiw : IntKind.u64.wrap (ic : Int) = (ic : Int) := u64_wrap_nat _ (by omega)
  have hit : v.iface.toNat = ic := by omega
  have HIT := Lib.hid hit
  have hlnw : IntKind.u64.wrap (v.len : Int) = (v.len : Int) := u64_wrap_nat _ (by omega)
  have hdnw : IntKind.u64.wrap (v.dn : Int) = (v.dn : Int) := u64_wrap_nat _ (by omega)
  obtain ⟨pdn, hpdn⟩ : ∃ n, n = (padL v.dl).length := ⟨_, rfl⟩
  have hpdb : pdn ≤ 1100003 := by rw [hpdn, padL_length]; have := padN_le v.dl.length; have := hv.1.len; omega
  have HPD := Lib.hid hpdn
  clear hpdn hv hf hm hfit hwo hwn hlast hPO hL0
  go_enter Try.func48, Try.ntmps48
  go_wp2_with (first
    | ((with_reducible refine sl 2 ?_); go_must (refine wpL_box rfl 27 (.tmp 0) rfl v.cells.toArray rfl ?_); intro w1 hg1 hb1; have hz1 := lt_of_block hg1; obtain ⟨w4, hw4⟩ : ∃ w4, w4 = ((w1.alloc (.cells #[.bool big] 4)).alloc (.cells #[.slice none 0 0] 24)).alloc (.cells #[.func (.func 76) #[] #[.pointer (some ⟨w1.heap.size + 1, 0, none⟩), .pointer (some ⟨w1.heap.size, 0, none⟩)]] 97) := ⟨_, rfl⟩; have h14 := body_prelude w1 big; rw [← hw4] at h14; have HG := Lib.hid ((h14.1.block _ hz1).trans hg1); have H6 := Lib.hid h14.2.2; have ho4 := h14.2.1; rw [← HL0.out] at ho4; have HO := Lib.hid ho4; clear ho4; have HB' := Lib.hid ((HB.out.trans hb1).trans (h14.1.mono (by omega))); clear HB; have HB := HB'; clear HB'; have HW4 := Lib.hid hw4; obtain ⟨c0, c1, c2, c3, c4, c5, c6, c7, c8, c9, c10⟩ := blk_cells HG.out; have m6 := cell_of_one H6.out; unfold numF at m6; obtain ⟨ad5, k5, h51, h52, h53, _, _, _, h57⟩ := HO.out; have m5 := cell_of_one h51; have m3 := cell_of_one h53; have f5 := free_of_one h51; have H51 := Lib.hid h51; have H52 := Lib.hid h52; have H53 := Lib.hid h53; have H57 := Lib.hid h57; clear h51 h52 h53 h57; clear hg1 hb1 hw4 h14; simp only [PT])
    | ((with_reducible refine sl 14 ?_); rw [← HW4.out]; clear HW4)
    | (go_at_call 76; (with_reducible show Calls _ _ #[Value.int .u64 ((ic : Nat) : Int), .int .i64 4, _, _] _ _); go_must (refine (num_any (w1.heap.size + 3) (w1.heap.size + 1) w1.heap.size big L0 ic 4 (by omega) (by omega) _ HO.out).mono ?_); rintro e w11 ⟨rfl, ho, hk⟩; obtain ⟨L1, hL1⟩ : ∃ L, L = L0 ++ putL ic 4 big := ⟨_, rfl⟩; rw [← hL1] at ho; have hn1 : L1.length ≤ L0.length + (putL ic 4 big).length := (by rw [hL1, List.length_append]; exact Nat.le_refl _); rw [putL4_length] at hn1; have HL1 := Lib.hid hL1; clear hL1; clear c0 c1 c2 c3 c4 c5 c6 c7 c8 c9 c10 m6 m5 m3 f5 H51 H52 H53 H57; have HG' := Lib.hid (Kb.block hk (by omega) (by omega) HG.out); clear HG; have HG := HG'; clear HG'; have H6' := Lib.hid (Kb.block hk (by omega) (by omega) H6.out); clear H6; have H6 := H6'; clear H6'; have HB' := Lib.hid (Kb.below HB.out hk (by omega) (by omega)); clear HB; have HB := HB'; clear HB'; clear HO; have HO := Lib.hid ho; obtain ⟨c0, c1, c2, c3, c4, c5, c6, c7, c8, c9, c10⟩ := blk_cells HG.out; have m6 := cell_of_one H6.out; unfold numF at m6; obtain ⟨ad5, k5, h51, h52, h53, _, _, _, h57⟩ := HO.out; have m5 := cell_of_one h51; have m3 := cell_of_one h53; have f5 := free_of_one h51; have H51 := Lib.hid h51; have H52 := Lib.hid h52; have H53 := Lib.hid h53; have H57 := Lib.hid h57; clear h51 h52 h53 h57; clear ho hk)
    | (go_at_call 77; go_must (refine (time_any (w1.heap.size + 3) (w1.heap.size + 1) w1.heap.size (w1.heap.size + 1 + 1) w.heap.size big L1 (by omega) v hw3 _ HO.out H6.out HG.out (by omega) (by omega) (by omega) (by omega)).mono ?_); rintro e w12 ⟨rfl, ho, hk⟩; obtain ⟨L2, hL2⟩ : ∃ L, L = L1 ++ timeB big v.time := ⟨_, rfl⟩; rw [← hL2] at ho; have hn2 : L2.length ≤ L1.length + 8 := (by rw [hL2, List.length_append]; unfold timeB; rw [List.length_append, putL4_length, putL4_length]; exact Nat.le_refl _); have HL2 := Lib.hid hL2; clear hL2; clear c0 c1 c2 c3 c4 c5 c6 c7 c8 c9 c10 m6 m5 m3 f5 H51 H52 H53 H57; have HG' := Lib.hid (Kb.block hk (by omega) (by omega) HG.out); clear HG; have HG := HG'; clear HG'; have H6' := Lib.hid (Kb.block hk (by omega) (by omega) H6.out); clear H6; have H6 := H6'; clear H6'; have HB' := Lib.hid (Kb.below HB.out hk (by omega) (by omega)); clear HB; have HB := HB'; clear HB'; clear HO; have HO := Lib.hid ho; obtain ⟨c0, c1, c2, c3, c4, c5, c6, c7, c8, c9, c10⟩ := blk_cells HG.out; have m6 := cell_of_one H6.out; unfold numF at m6; obtain ⟨ad5, k5, h51, h52, h53, _, _, _, h57⟩ := HO.out; have m5 := cell_of_one h51; have m3 := cell_of_one h53; have f5 := free_of_one h51; have H51 := Lib.hid h51; have H52 := Lib.hid h52; have H53 := Lib.hid h53; have H57 := Lib.hid h57; clear h51 h52 h53 h57; clear ho hk)
    | (go_at_call 76; (with_reducible show Calls _ _ #[Value.int .u64 ((v.dn : Nat) : Int), .int .i64 4, _, _] _ _); go_must (refine (num_any (w1.heap.size + 3) (w1.heap.size + 1) w1.heap.size big L2 v.dn 4 (by omega) (by omega) _ HO.out).mono ?_); rintro e w13 ⟨rfl, ho, hk⟩; obtain ⟨L3, hL3⟩ : ∃ L, L = L2 ++ putL v.dn 4 big := ⟨_, rfl⟩; rw [← hL3] at ho; have hn3 : L3.length ≤ L2.length + (putL v.dn 4 big).length := (by rw [hL3, List.length_append]; exact Nat.le_refl _); rw [putL4_length] at hn3; have HL3 := Lib.hid hL3; clear hL3; clear c0 c1 c2 c3 c4 c5 c6 c7 c8 c9 c10 m6 m5 m3 f5 H51 H52 H53 H57; have HG' := Lib.hid (Kb.block hk (by omega) (by omega) HG.out); clear HG; have HG := HG'; clear HG'; have H6' := Lib.hid (Kb.block hk (by omega) (by omega) H6.out); clear H6; have H6 := H6'; clear H6'; have HB' := Lib.hid (Kb.below HB.out hk (by omega) (by omega)); clear HB; have HB := HB'; clear HB'; clear HO; have HO := Lib.hid ho; obtain ⟨c0, c1, c2, c3, c4, c5, c6, c7, c8, c9, c10⟩ := blk_cells HG.out; have m6 := cell_of_one H6.out; unfold numF at m6; obtain ⟨ad5, k5, h51, h52, h53, _, _, _, h57⟩ := HO.out; have m5 := cell_of_one h51; have m3 := cell_of_one h53; have f5 := free_of_one h51; have H51 := Lib.hid h51; have H52 := Lib.hid h52; have H53 := Lib.hid h53; have H57 := Lib.hid h57; clear h51 h52 h53 h57; clear ho hk)
    | (go_at_call 76; (with_reducible show Calls _ _ #[Value.int .u64 ((v.len : Nat) : Int), .int .i64 4, _, _] _ _); go_must (refine (num_any (w1.heap.size + 3) (w1.heap.size + 1) w1.heap.size big L3 v.len 4 (by omega) (by omega) _ HO.out).mono ?_); rintro e w14 ⟨rfl, ho, hk⟩; obtain ⟨L4, hL4⟩ : ∃ L, L = L3 ++ putL v.len 4 big := ⟨_, rfl⟩; rw [← hL4] at ho; have hn4 : L4.length ≤ L3.length + (putL v.len 4 big).length := (by rw [hL4, List.length_append]; exact Nat.le_refl _); rw [putL4_length] at hn4; have HL4 := Lib.hid hL4; clear hL4; clear c0 c1 c2 c3 c4 c5 c6 c7 c8 c9 c10 m6 m5 m3 f5 H51 H52 H53 H57; have HG' := Lib.hid (Kb.block hk (by omega) (by omega) HG.out); clear HG; have HG := HG'; clear HG'; have H6' := Lib.hid (Kb.block hk (by omega) (by omega) H6.out); clear H6; have H6 := H6'; clear H6'; have HB' := Lib.hid (Kb.below HB.out hk (by omega) (by omega)); clear HB; have HB := HB'; clear HB'; clear HO; have HO := Lib.hid ho; obtain ⟨c0, c1, c2, c3, c4, c5, c6, c7, c8, c9, c10⟩ := blk_cells HG.out; have m6 := cell_of_one H6.out; unfold numF at m6; obtain ⟨ad5, k5, h51, h52, h53, _, _, _, h57⟩ := HO.out; have m5 := cell_of_one h51; have m3 := cell_of_one h53; have f5 := free_of_one h51; have H51 := Lib.hid h51; have H52 := Lib.hid h52; have H53 := Lib.hid h53; have H57 := Lib.hid h57; clear h51 h52 h53 h57; clear ho hk))
  refine wp_region_held_drew (S := fun u => u.cell? ⟨w.heap.size, 8, none⟩ = some (.slice v.dad v.dn v.dc)) (by kernel_rfl) ?_ (fun hHeld => ?_)
  focus (first | exact (blk_cells HG.out).2.2.2.2.2.2.2.2.1 | exact (blk_cells HGx.out).2.2.2.2.2.2.2.2.1)
  refine tk 1 (oi := ⟨some 67, _, _, _, _, _⟩) (v := ?_) rfl (by kernel_rfl) (.inl ⟨by rfl, ?_⟩) hHeld ?_; rotate_left; focus (intro w hSw; (try dsimp only at hSw); go_simp; try with_reducible rfl)
  simp only [PT]
  refine tk 2 (oi := ⟨some 68, _, _, _, _, _⟩) (v := ?_) rfl (by kernel_rfl) (.inl ⟨by rfl, ?_⟩) hHeld ?_; rotate_left; focus (intro w hSw; (try dsimp only at hSw); go_simp; try with_reducible rfl)
  simp only [PT]
  refine wpAnyH_ready (rs := [0, 3]) (by kernel_rfl) (by simp) ?_
  refine (AllReadyH.cons (o := ⟨some 66, _, _, _, _, _⟩) rfl (fun K hK => ?_) (AllReadyH.cons (o := ⟨some 69, _, _, _, _, _⟩) rfl (fun K hK => ?_) AllReadyH.nil))
  (have m5 := cell_of_one H51.out; go_simp)
  refine hK.out _ _ ?_ (fun hHeld => ?_)
  focus (first | exact (blk_cells HG.out).2.2.2.2.2.2.2.2.1 | exact (blk_cells HGx.out).2.2.2.2.2.2.2.2.1)
  clear hK K
  try simp only [PT]
  refine wpAnyH_ready (rs := [3]) (by kernel_rfl) (by simp) ?_
  refine (AllReadyH.cons (o := ⟨some 69, _, _, _, _, _⟩) rfl (fun K hK => ?_) AllReadyH.nil)
  focus (go_simp; go_must (refine (padded_any v.dad v.dn v.dc v.dl _ (HV.out.1.below (HB.out.trans (Below.mono bup HB.out.size))) (by omega)).mono ?_); intro e w30 hr; unfold RetB at hr; rw [← HPD.out] at hr; obtain ⟨ad30, k30, rfl, ho30, hb30⟩ := hr; have hB30 : Below w14.heap.size w14 w30 := ((Below.refl _ _).drew).trans hb30; have hE__ := cU HB bup hb30; replace HB := ck HB hE__; replace HG := ck HG hE__; replace H6 := ck H6 hE__; replace H51 := ck H51 hE__; replace H53 := ck H53 hE__; replace H52 := ck H52 hE__; clear hE__; have H57' := Lib.hid (Nat.le_trans H57.out hB30.size); have HS0 := Lib.hid hB30; have HP30 := Lib.hid (Bs.of_own ho30); clear ho30 hb30 hB30; go_wp2_with fail)
  refine hK.out _ _ ?_ (fun hHeld => ?_)
  focus (first | exact (blk_cells HG.out).2.2.2.2.2.2.2.2.1 | exact (blk_cells HGx.out).2.2.2.2.2.2.2.2.1)
  clear hK K
  try simp only [PT]
  refine wpAnyH_ready (rs := [4]) (by kernel_rfl) (by simp) ?_
  refine (AllReadyH.cons (o := ⟨some 70, _, _, _, _, _⟩) rfl (fun K hK => ?_) AllReadyH.nil)
  (go_must (refine step_append elB rfl (.tmp 66) (.tmp 69) rfl (w1.heap.size + 3) rfl H52.out rfl HP30.out (BV_one _) (by unfold maxLen; omega) (by omega) H57'.out ?_); intro adn kn w31 hown hgr _ _; rw [← BV_append] at hown; have HS7 := Lib.hid (show Below (w1.heap.size + 3) w30 w31 from ((Below.refl _ _)).grown hgr H57'.out (ownBlock_ge H52.out)); have HO7 := Lib.hid hown; have H517 := Lib.hid ((HS7.out.block _ (by omega)).trans H51.out); have H537 := Lib.hid ((HS7.out.block _ (by omega)).trans H53.out); have HG7 := Lib.hid ((HS7.out.block _ (by omega)).trans HG.out); clear HG; have HG := HG7; clear HG7 hown hgr)
  refine hK.out _ _ ?_ (fun hHeld => ?_)
  focus (first | exact (blk_cells HG.out).2.2.2.2.2.2.2.2.1 | exact (blk_cells HGx.out).2.2.2.2.2.2.2.2.1)
  clear hK K
  try simp only [PT]
  refine wpAnyH_ready (rs := [5]) (by kernel_rfl) (by simp) ?_
  refine (AllReadyH.cons (o := ⟨none, _, _, _, _, _⟩) rfl (fun K hK => ?_) AllReadyH.nil)
  (go_must (refine step_store1 rfl 24 (.tmp 5) (.tmp 70) rfl (w1.heap.size + 1) (.slice adn (L4.length + pdn) kn) rfl rfl rfl H517.out (by kernel_rfl) ?_); intro w32 hg8 hgr8; have HGx := Lib.hid ((hgr8.block _ (lt_of_block HG.out) (by intro e; simp at e; omega)).trans HG.out); have H8 := Lib.hid hg8; have HR8 := Lib.hid hgr8; clear hg8 hgr8)
  refine hK.out _ _ ?_ (fun hHeld => ?_)
  focus (first | exact (blk_cells HG.out).2.2.2.2.2.2.2.2.1 | exact (blk_cells HGx.out).2.2.2.2.2.2.2.2.1)
  clear hK K
  try simp only [PT]
  refine wpAnyH_done (by kernel_rfl) ?_ _
  rotate_left
  focus (go_simp; go_must (refine (padded_any v.dad v.dn v.dc v.dl _ (HV.out.1.below (HB.out.trans (Below.mono bup HB.out.size))) (by omega)).mono ?_); intro e w30 hr; unfold RetB at hr; rw [← HPD.out] at hr; obtain ⟨ad30, k30, rfl, ho30, hb30⟩ := hr; have hB30 : Below w14.heap.size w14 w30 := ((Below.refl _ _).drew).trans hb30; have hE__ := cU HB bup hb30; replace HB := ck HB hE__; replace HG := ck HG hE__; replace H6 := ck H6 hE__; replace H51 := ck H51 hE__; replace H53 := ck H53 hE__; replace H52 := ck H52 hE__; clear hE__; have H57' := Lib.hid (Nat.le_trans H57.out hB30.size); have HS0 := Lib.hid hB30; have HP30 := Lib.hid (Bs.of_own ho30); clear ho30 hb30 hB30; go_wp2_with fail)
  refine hK.out _ _ ?_ (fun hHeld => ?_)
  focus (first | exact (blk_cells HG.out).2.2.2.2.2.2.2.2.1 | exact (blk_cells HGx.out).2.2.2.2.2.2.2.2.1)
  clear hK K
  try simp only [PT]
  refine wpAnyH_ready (rs := [0]) (by kernel_rfl) (by simp) ?_
  refine (AllReadyH.cons (o := ⟨some 66, _, _, _, _, _⟩) rfl (fun K hK => ?_) AllReadyH.nil)
  (have m5 := cell_of_one H51.out; go_simp)
  refine hK.out _ _ ?_ (fun hHeld => ?_)
  focus (first | exact (blk_cells HG.out).2.2.2.2.2.2.2.2.1 | exact (blk_cells HGx.out).2.2.2.2.2.2.2.2.1)
  clear hK K
  try simp only [PT]
  refine wpAnyH_ready (rs := [4]) (by kernel_rfl) (by simp) ?_
  refine (AllReadyH.cons (o := ⟨some 70, _, _, _, _, _⟩) rfl (fun K hK => ?_) AllReadyH.nil)
  (go_must (refine step_append elB rfl (.tmp 66) (.tmp 69) rfl (w1.heap.size + 3) rfl H52.out rfl HP30.out (BV_one _) (by unfold maxLen; omega) (by omega) H57'.out ?_); intro adn kn w31 hown hgr _ _; rw [← BV_append] at hown; have HS7 := Lib.hid (show Below (w1.heap.size + 3) w30 w31 from ((Below.refl _ _)).grown hgr H57'.out (ownBlock_ge H52.out)); have HO7 := Lib.hid hown; have H517 := Lib.hid ((HS7.out.block _ (by omega)).trans H51.out); have H537 := Lib.hid ((HS7.out.block _ (by omega)).trans H53.out); have HG7 := Lib.hid ((HS7.out.block _ (by omega)).trans HG.out); clear HG; have HG := HG7; clear HG7 hown hgr)
  refine hK.out _ _ ?_ (fun hHeld => ?_)
  focus (first | exact (blk_cells HG.out).2.2.2.2.2.2.2.2.1 | exact (blk_cells HGx.out).2.2.2.2.2.2.2.2.1)
  clear hK K
  try simp only [PT]
  refine wpAnyH_ready (rs := [5]) (by kernel_rfl) (by simp) ?_
  refine (AllReadyH.cons (o := ⟨none, _, _, _, _, _⟩) rfl (fun K hK => ?_) AllReadyH.nil)
  (go_must (refine step_store1 rfl 24 (.tmp 5) (.tmp 70) rfl (w1.heap.size + 1) (.slice adn (L4.length + pdn) kn) rfl rfl rfl H517.out (by kernel_rfl) ?_); intro w32 hg8 hgr8; have HGx := Lib.hid ((hgr8.block _ (lt_of_block HG.out) (by intro e; simp at e; omega)).trans HG.out); have H8 := Lib.hid hg8; have HR8 := Lib.hid hgr8; clear hg8 hgr8)
  refine hK.out _ _ ?_ (fun hHeld => ?_)
  focus (first | exact (blk_cells HG.out).2.2.2.2.2.2.2.2.1 | exact (blk_cells HGx.out).2.2.2.2.2.2.2.2.1)
  clear hK K
  try simp only [PT]
  refine wpAnyH_done (by kernel_rfl) ?_ _
  rotate_left
  all_goals
    obtain ⟨L5, hL5⟩ : ∃ L, L = L4 ++ padL v.dl := ⟨_, rfl⟩
    have hl8 : L4.length + pdn = (L4 ++ padL v.dl).length := by rw [List.length_append, ← HPD.out]
    have ho := outB_store HO7.out hl8 H8.out HR8.out H537.out (by omega) (by omega) (by omega) (Nat.le_trans H57'.out HS7.out.size)
    have hk0 : Kb (w1.heap.size + 3) (w1.heap.size + 1) w30 w32 := Kb.trans (Kb.of_below HS7.out) (Kb.of_grown HR8.out (Nat.le_trans H57'.out HS7.out.size))
    rw [← hL5] at ho
    have hn5 : L5.length ≤ L4.length + pdn := by rw [hL5, ← hl8]; exact Nat.le_refl _
    have HL5 := Lib.hid hL5
    clear hL5 hl8 HG H8 HR8 HS7 HO7 H517 H537 c0 c1 c2 c3 c4 c5 c6 c7 c8 c9 c10 m6 m5 m3 f5 H51 H52 H53 H57
    have HG := HGx
    clear HGx
    have H6' := Lib.hid (Kb.block hk0 (by omega) (by omega) H6.out); clear H6; have H6 := H6'; clear H6'
    have HB' := Lib.hid (Kb.below HB.out hk0 (by omega) (by omega)); clear HB; have HB := HB'; clear HB'
    clear HO
    have HO := Lib.hid ho
    obtain ⟨c0, c1, c2, c3, c4, c5, c6, c7, c8, c9, c10⟩ := blk_cells HG.out; have m6 := cell_of_one H6.out; unfold numF at m6; obtain ⟨ad5, k5, h51, h52, h53, _, _, _, h57⟩ := HO.out; have m5 := cell_of_one h51; have m3 := cell_of_one h53; have f5 := free_of_one h51; have H51 := Lib.hid h51; have H52 := Lib.hid h52; have H53 := Lib.hid h53; have H57 := Lib.hid h57; clear h51 h52 h53 h57
    clear ho hk0 HP30 HS0 H57'
    go_wp2_with (first
      | (go_at_call 80; (with_reducible show Calls _ _ #[Value.slice v.oad _ _, _] _ _); go_must (refine (optPut_any v.oad v.on v.oc v.os big _ (HV.out.2.2.below (HB.out.trans (Below.mono bup HB.out.size))) (by omega)).mono ?_); intro e w40 hr; rw [HWo.out] at hr; rw [← HPO.out] at hr; obtain ⟨hb, h3⟩ := hr; rcases h3 with ⟨h3, _⟩ | ⟨_, ad40, c40, rfl, ho40⟩; exact absurd rfl h3; have H40 := Lib.hid (Bs.of_own ho40); have ho := HO.out.below hb; have hk : Kb (w1.heap.size + 3) (w1.heap.size + 1) _ w40 := Kb.of_below (hb.mono H57.out); clear ho40; clear c0 c1 c2 c3 c4 c5 c6 c7 c8 c9 c10 m6 m5 m3 f5 H51 H52 H53 H57; have HG' := Lib.hid (Kb.block hk (by omega) (by omega) HG.out); clear HG; have HG := HG'; clear HG'; have H6' := Lib.hid (Kb.block hk (by omega) (by omega) H6.out); clear H6; have H6 := H6'; clear H6'; have HB' := Lib.hid (Kb.below HB.out hk (by omega) (by omega)); clear HB; have HB := HB'; clear HB'; clear HO; have HO := Lib.hid ho; obtain ⟨c0, c1, c2, c3, c4, c5, c6, c7, c8, c9, c10⟩ := blk_cells HG.out; have m6 := cell_of_one H6.out; unfold numF at m6; obtain ⟨ad5, k5, h51, h52, h53, _, _, _, h57⟩ := HO.out; have m5 := cell_of_one h51; have m3 := cell_of_one h53; have f5 := free_of_one h51; have H51 := Lib.hid h51; have H52 := Lib.hid h52; have H53 := Lib.hid h53; have H57 := Lib.hid h57; clear h51 h52 h53 h57; clear ho hk; clear hb)
      | ((with_reducible refine sl 117 ?_); go_must (refine wpL_append elB rfl (.tmp 115) (.tmp 116) rfl (w1.heap.size + 3) rfl H52.out rfl H40.out (BV_one _) (by unfold maxLen; omega) (by omega) H57.out ?_); intro ad41 c41 w41 hown hgr hat hnil; have HB' := Lib.hid (HB.out.grown hgr HB.out.size (fun k e => by have := ownBlock_ge H52.out k e; omega)); clear HB; have HB := HB'; clear HB'; rw [← BV_append] at hown; have H41 := Lib.hid (Bs.of_own hown); clear hown hgr hat hnil; simp only [PT]))
    have HFIN : Hid (L5 ++ PO = bodyB big v.val) := Lib.hid (by
      rw [HL5.out, HL4.out, HL3.out, HL2.out, HL1.out, HL0.out, HPO.out]
      unfold bodyB fieldsB BlkV.val
      simp [hk, HIT.out, ← HDLN.out, List.append_assoc])
    go_ret
    refine ⟨⟨ad41, c41, ?_, ?_⟩, HB.out⟩
    · rw [← HFIN.out, List.length_append]
      rfl
    · rw [← HFIN.out, List.length_append]
      exact H41.out
end Go.Proofs.Ytmfplinbbcoahaa
