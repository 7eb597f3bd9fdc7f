/-
  Joined by program (merge.py): LawB.
-/
import Derived.Test.YtmfplinbbcoahaaM18
/-
  Chapter 26: the laws BlockBack, BlockCuts, BlockAgain, walked.
-/
namespace Go.Proofs.Ytmfplinbbcoahaa
open Go.RowKit Go.Sort
set_option linter.unusedVariables false
set_option linter.unusedSimpArgs false

set_option maxRecDepth 100000 in
set_option maxHeartbeats 16000000 in
theorem back26_walk (v : BlkV) (big : Bool) (ad2 : Option Addr) (n2 c2 : Nat) (l2 : List UInt8) (w : World) (hv : Blk w v) (wv : wfB v.val) (hs : Bs w ad2 n2 c2 l2) :
    Calls Try.prog 6 #[.agg v.cells.toArray, .bool big, .slice ad2 n2 c2] w fun e w' => e = .returned (.bool true) ∧ Below w.heap.size w w' := by
  have HB := Lib.hid (Below.refl w.heap.size w)
  have HBI := Lib.hid blk_info
  have HZI := Lib.hid zero_info
  have HV := Lib.hid hv
  have HL := Lib.hid hs
  cases hf1 : fewB v
  · have HF1 := Lib.hid hf1
    clear hf1 hv hs
    go_enter Try.func6, Try.ntmps6
    go_wp2_with (first
      | ((with_reducible refine sl 3 ?_); go_must (refine wpL_boxG rfl 27 (.tmp 0) rfl v.cells.toArray rfl ?_); intro wb3 g3 he__ le_g3 lt_g3 hg__ hb__; have HG3 := Lib.hid hg__; have hE__ := cU HB bup hb__; replace HB := ck HB hE__; replace HV := ck HV hE__; replace HL := ck HL hE__; clear hE__; clear hg__ hb__ he__; simp only [PT])
      | (go_at_call 17; go_must (refine (blkAwake_any _).mono ?_); intro e wc1 hr; obtain ⟨rfl, hb__⟩ := hr; have hE__ := cU HB bup hb__; replace HB := ck HB hE__; replace HV := ck HV hE__; replace HL := ck HL hE__; replace HG3 := ck HG3 hE__; clear hE__; clear hb__)
      | ((with_reducible refine sl 18 ?_); go_must (refine wpL_load rfl 27 (.tmp 3) rfl g3 0 rfl (v.cells) _ (range_block HG3.out) Try.underlying27 rfl HBI.out ?_); simp only [PT])
      | (go_at_call 18; (with_reducible show Calls _ _ #[Value.agg v.cells.toArray] _ _); go_must (refine (few_at _ v HF1.out _ (HV.out.below bup)).mono ?_); intro e wc2 hr; obtain ⟨rfl, hb__⟩ := hr; have hE__ := cU HB bup hb__; replace HB := ck HB hE__; replace HV := ck HV hE__; replace HL := ck HL hE__; replace HG3 := ck HG3 hE__; clear hE__; clear hb__))
    go_ret
    exact ⟨rfl, HB.out⟩
  have HF1 := Lib.hid hf1
  have HS1 := Lib.hid (SmB.of_few hf1)
  have HW1 := Lib.hid wv
  by_cases hn : 1000 < n2
  · have hi : (1000 : Int) < (n2 : Int) := by omega
    clear hf1 hv hs
    go_enter Try.func6, Try.ntmps6
    go_wp2_with (first
      | ((with_reducible refine sl 3 ?_); go_must (refine wpL_boxG rfl 27 (.tmp 0) rfl v.cells.toArray rfl ?_); intro wb3 g3 he__ le_g3 lt_g3 hg__ hb__; have HG3 := Lib.hid hg__; have hE__ := cU HB bup hb__; replace HB := ck HB hE__; replace HV := ck HV hE__; replace HL := ck HL hE__; clear hE__; clear hg__ hb__ he__; simp only [PT])
      | (go_at_call 17; go_must (refine (blkAwake_any _).mono ?_); intro e wc1 hr; obtain ⟨rfl, hb__⟩ := hr; have hE__ := cU HB bup hb__; replace HB := ck HB hE__; replace HV := ck HV hE__; replace HL := ck HL hE__; replace HG3 := ck HG3 hE__; clear hE__; clear hb__)
      | ((with_reducible refine sl 18 ?_); go_must (refine wpL_load rfl 27 (.tmp 3) rfl g3 0 rfl (v.cells) _ (range_block HG3.out) Try.underlying27 rfl HBI.out ?_); simp only [PT])
      | (go_at_call 18; (with_reducible show Calls _ _ #[Value.agg v.cells.toArray] _ _); go_must (refine (few_at _ v HF1.out _ (HV.out.below bup)).mono ?_); intro e wc2 hr; obtain ⟨rfl, hb__⟩ := hr; have hE__ := cU HB bup hb__; replace HB := ck HB hE__; replace HV := ck HV hE__; replace HL := ck HL hE__; replace HG3 := ck HG3 hE__; clear hE__; clear hb__))
    go_ret
    exact ⟨rfl, HB.out⟩
  have hi : ¬ (1000 : Int) < (n2 : Int) := by omega
  cases hr : rightP v.val
  · have HR := Lib.hid hr
    by_cases hm : mayP v.val = true
    · have HY : Hid (whyP v.val = 4) := Lib.hid (by unfold whyP; rw [hm]; rfl)
      clear hf1 hv wv hr hm hs
      go_enter Try.func6, Try.ntmps6
      go_wp2_with (first
        | ((with_reducible refine sl 3 ?_); go_must (refine wpL_boxG rfl 27 (.tmp 0) rfl v.cells.toArray rfl ?_); intro wb3 g3 he__ le_g3 lt_g3 hg__ hb__; have HG3 := Lib.hid hg__; have hE__ := cU HB bup hb__; replace HB := ck HB hE__; replace HV := ck HV hE__; replace HL := ck HL hE__; clear hE__; clear hg__ hb__ he__; simp only [PT])
        | (go_at_call 17; go_must (refine (blkAwake_any _).mono ?_); intro e wc1 hr; obtain ⟨rfl, hb__⟩ := hr; have hE__ := cU HB bup hb__; replace HB := ck HB hE__; replace HV := ck HV hE__; replace HL := ck HL hE__; replace HG3 := ck HG3 hE__; clear hE__; clear hb__)
        | ((with_reducible refine sl 18 ?_); go_must (refine wpL_load rfl 27 (.tmp 3) rfl g3 0 rfl (v.cells) _ (range_block HG3.out) Try.underlying27 rfl HBI.out ?_); simp only [PT])
        | (go_at_call 18; (with_reducible show Calls _ _ #[Value.agg v.cells.toArray] _ _); go_must (refine (few_at _ v HF1.out _ (HV.out.below bup)).mono ?_); intro e wc2 hr; obtain ⟨rfl, hb__⟩ := hr; have hE__ := cU HB bup hb__; replace HB := ck HB hE__; replace HV := ck HV hE__; replace HL := ck HL hE__; replace HG3 := ck HG3 hE__; clear hE__; clear hb__)
        | ((with_reducible refine sl 29 ?_); go_must (refine wpL_load rfl 27 (.tmp 3) rfl g3 0 rfl (v.cells) _ (range_block HG3.out) Try.underlying27 rfl HBI.out ?_); simp only [PT])
        | (go_at_call 23; go_must (refine (blkPut_wrong v big HR.out _ (HV.out.below bup) HS1.out HW1.out).mono ?_); intro e wc3 hr; rw [HY.out] at hr; obtain ⟨rfl, hb__⟩ := hr; have hE__ := cU HB bup hb__; replace HB := ck HB hE__; replace HV := ck HV hE__; replace HL := ck HL hE__; replace HG3 := ck HG3 hE__; clear hE__; clear hb__)
        | ((with_reducible refine sl 40 ?_); go_must (refine wpL_load rfl 27 (.tmp 3) rfl g3 0 rfl (v.cells) _ (range_block HG3.out) Try.underlying27 rfl HBI.out ?_); simp only [PT])
        | (go_at_call 19; go_must (refine (blkRight_at false v HR.out _ (HV.out.below bup) HS1.out HW1.out).mono ?_); intro e wc4 hr; obtain ⟨rfl, hb__⟩ := hr; have hE__ := cU HB bup hb__; replace HB := ck HB hE__; replace HV := ck HV hE__; replace HL := ck HL hE__; replace HG3 := ck HG3 hE__; clear hE__; clear hb__))
      go_ret
      exact ⟨rfl, HB.out⟩
    · have HY : Hid (whyP v.val = 1) := Lib.hid (by unfold whyP; rw [if_neg hm])
      clear hf1 hv wv hr hm hs
      go_enter Try.func6, Try.ntmps6
      go_wp2_with (first
        | ((with_reducible refine sl 3 ?_); go_must (refine wpL_boxG rfl 27 (.tmp 0) rfl v.cells.toArray rfl ?_); intro wb3 g3 he__ le_g3 lt_g3 hg__ hb__; have HG3 := Lib.hid hg__; have hE__ := cU HB bup hb__; replace HB := ck HB hE__; replace HV := ck HV hE__; replace HL := ck HL hE__; clear hE__; clear hg__ hb__ he__; simp only [PT])
        | (go_at_call 17; go_must (refine (blkAwake_any _).mono ?_); intro e wc1 hr; obtain ⟨rfl, hb__⟩ := hr; have hE__ := cU HB bup hb__; replace HB := ck HB hE__; replace HV := ck HV hE__; replace HL := ck HL hE__; replace HG3 := ck HG3 hE__; clear hE__; clear hb__)
        | ((with_reducible refine sl 18 ?_); go_must (refine wpL_load rfl 27 (.tmp 3) rfl g3 0 rfl (v.cells) _ (range_block HG3.out) Try.underlying27 rfl HBI.out ?_); simp only [PT])
        | (go_at_call 18; (with_reducible show Calls _ _ #[Value.agg v.cells.toArray] _ _); go_must (refine (few_at _ v HF1.out _ (HV.out.below bup)).mono ?_); intro e wc2 hr; obtain ⟨rfl, hb__⟩ := hr; have hE__ := cU HB bup hb__; replace HB := ck HB hE__; replace HV := ck HV hE__; replace HL := ck HL hE__; replace HG3 := ck HG3 hE__; clear hE__; clear hb__)
        | ((with_reducible refine sl 29 ?_); go_must (refine wpL_load rfl 27 (.tmp 3) rfl g3 0 rfl (v.cells) _ (range_block HG3.out) Try.underlying27 rfl HBI.out ?_); simp only [PT])
        | (go_at_call 23; go_must (refine (blkPut_wrong v big HR.out _ (HV.out.below bup) HS1.out HW1.out).mono ?_); intro e wc3 hr; rw [HY.out] at hr; obtain ⟨rfl, hb__⟩ := hr; have hE__ := cU HB bup hb__; replace HB := ck HB hE__; replace HV := ck HV hE__; replace HL := ck HL hE__; replace HG3 := ck HG3 hE__; clear hE__; clear hb__)
        | ((with_reducible refine sl 40 ?_); go_must (refine wpL_load rfl 27 (.tmp 3) rfl g3 0 rfl (v.cells) _ (range_block HG3.out) Try.underlying27 rfl HBI.out ?_); simp only [PT])
        | (go_at_call 19; go_must (refine (blkRight_at false v HR.out _ (HV.out.below bup) HS1.out HW1.out).mono ?_); intro e wc4 hr; obtain ⟨rfl, hb__⟩ := hr; have hE__ := cU HB bup hb__; replace HB := ck HB hE__; replace HV := ck HV hE__; replace HL := ck HL hE__; replace HG3 := ck HG3 hE__; clear hE__; clear hb__))
      go_ret
      exact ⟨rfl, HB.out⟩
  have HR := Lib.hid hr
  have hm : mayP v.val = true := by simp [rightP] at hr; exact hr.1
  have hz : sizeB v.val ≤ 1048576 := by simp [rightP] at hr; exact hr.2
  obtain ⟨S, hS⟩ : ∃ S, S = sizeB v.val := ⟨_, rfl⟩
  have hsm : S % 4 = 0 := by rw [hS]; exact sizeB_mod _ hm
  have hs4 : (S : Int) % 4 = 0 := by omega
  have hs12 : 12 ≤ S := by rw [hS]; exact sizeB_ge _
  have hsz : S ≤ 1048576 := by rw [hS]; exact hz
  obtain ⟨LL, hLL⟩ : ∃ L, L = bytesB big v.val := ⟨_, rfl⟩
  have HLL := Lib.hid hLL
  have HLS : Hid (LL.length = S) := Lib.hid (by rw [hLL, bytesB_length, hS])
  have hll : LL.length ≤ 1048576 := by rw [HLS.out]; exact hsz
  have hl2 := hs.len
  obtain ⟨R2, hR2⟩ : ∃ R, R = LL ++ l2 := ⟨_, rfl⟩
  have HR2 := Lib.hid hR2
  have hr2 : R2.length ≤ 2000000 := by rw [hR2, List.length_append]; omega
  have HGB : Hid (getP big R2 = (v.val, S, 0)) := Lib.hid (by rw [hR2, hLL, hS]; exact get_back v.val hm wv hz big l2)
  by_cases hk : v.kind = 1
  · have HGN : Hid (getP (!big) LL = (v.val, S, 0)) := Lib.hid (by
      have := get_back v.val hm wv hz (!big) []
      rw [List.append_nil, bytesB_section v.val hk (!big) big, ← hLL, ← hS] at this
      exact this)
    clear hf1 hv wv hr hm hz hS hLL hl2 hR2 hs hsm
    go_enter Try.func6, Try.ntmps6
    go_wp2_with (first
      | ((with_reducible refine sl 3 ?_); go_must (refine wpL_boxG rfl 27 (.tmp 0) rfl v.cells.toArray rfl ?_); intro wb3 g3 he__ le_g3 lt_g3 hg__ hb__; have HG3 := Lib.hid hg__; have hE__ := cU HB bup hb__; replace HB := ck HB hE__; replace HV := ck HV hE__; replace HL := ck HL hE__; clear hE__; clear hg__ hb__ he__; simp only [PT])
      | (go_at_call 17; go_must (refine (blkAwake_any _).mono ?_); intro e wc1 hr; obtain ⟨rfl, hb__⟩ := hr; have hE__ := cU HB bup hb__; replace HB := ck HB hE__; replace HV := ck HV hE__; replace HL := ck HL hE__; replace HG3 := ck HG3 hE__; clear hE__; clear hb__)
      | ((with_reducible refine sl 18 ?_); go_must (refine wpL_load rfl 27 (.tmp 3) rfl g3 0 rfl (v.cells) _ (range_block HG3.out) Try.underlying27 rfl HBI.out ?_); simp only [PT])
      | (go_at_call 18; (with_reducible show Calls _ _ #[Value.agg v.cells.toArray] _ _); go_must (refine (few_at _ v HF1.out _ (HV.out.below bup)).mono ?_); intro e wc2 hr; obtain ⟨rfl, hb__⟩ := hr; have hE__ := cU HB bup hb__; replace HB := ck HB hE__; replace HV := ck HV hE__; replace HL := ck HL hE__; replace HG3 := ck HG3 hE__; clear hE__; clear hb__)
      | ((with_reducible refine sl 29 ?_); go_must (refine wpL_load rfl 27 (.tmp 3) rfl g3 0 rfl (v.cells) _ (range_block HG3.out) Try.underlying27 rfl HBI.out ?_); simp only [PT])
      | (go_at_call 23; go_must (refine (blkPut_rightS LL S v big HLL.out HLS.out HR.out _ (HV.out.below bup) HS1.out HW1.out).mono ?_); intro e wc3 hr; obtain ⟨ad5, c5, rfl, ho__, hb__⟩ := hr; have H5 := Lib.hid (Bs.of_own ho__); clear ho__; have hE__ := cU HB bup hb__; replace HB := ck HB hE__; replace HV := ck HV hE__; replace HL := ck HL hE__; replace HG3 := ck HG3 hE__; clear hE__; clear hb__)
      | ((with_reducible refine sl 45 ?_); go_must (refine wpL_lit0 rfl rfl ?_); intro wl gl le_ hown__ hb__; have HE := Lib.hid hb__; have HQ := Lib.hid hown__; clear hb__ hown__ le_; simp only [PT])
      | ((with_reducible refine sl 47 ?_); go_must (refine wpL_appL elB rfl (.tmp 45) (.tmp 46) rfl _ (L := []) rfl (own_keep HQ.out bup) rfl (H5.out.below (HE.out.trans (Below.mono bup HE.out.size))) (LL) (by rfl) (by omega) (Nat.le_trans HE.out.size (bsz bup)) ?_); intro ad47 c47 wa47 hown__ hb__; replace HE := cEb HE bup hb__; clear HQ; have HQ := Lib.hid hown__; clear hown__ hb__; skip; simp only [PT])
      | ((with_reducible refine sl 49 ?_); go_must (refine wpL_appL elB rfl (.tmp 47) (.tmp 48) rfl _ (L := LL) rfl (own_keep HQ.out bup) rfl (HL.out.below (HE.out.trans (Below.mono bup HE.out.size))) (R2) (HR2.out.symm) (by omega) (Nat.le_trans HE.out.size (bsz bup)) ?_); intro ad49 c49 wa49 hown__ hb__; replace HE := cEb HE bup hb__; clear HQ; have HQ := Lib.hid hown__; clear hown__ hb__; have hb__ := HE.out; have hE__ := cU HB bup hb__; replace HB := ck HB hE__; replace HV := ck HV hE__; replace HL := ck HL hE__; replace HG3 := ck HG3 hE__; replace H5 := ck H5 hE__; clear hE__; clear hb__ HE; simp only [PT])
      | (go_at_call 26; (with_reducible show Calls _ _ #[Value.slice ad49 _ _, _] _ _); go_must (refine (blkGet_at v.val S 0 ad49 R2.length c49 R2 big HGB.out _ (Bs.of_own (own_keep HQ.out bup)) (by omega)).mono ?_); intro e wc4 hr; obtain ⟨v1, rfl, hv__, ho__, hb__⟩ := hr; have HY1 := Lib.hid ho__.blk; have HV1 := Lib.hid hv__; clear ho__ hv__; have hE__ := cU HB bup hb__; replace HB := ck HB hE__; replace HV := ck HV hE__; replace HL := ck HL hE__; replace HG3 := ck HG3 hE__; replace H5 := ck H5 hE__; clear hE__; clear hb__)
      | ((with_reducible refine sl 9 ?_); go_must (refine wpL_newN rfl rfl 27 rfl (.tmp 9) (.tmp 52) rfl (v1.cells).toArray _ HZI.out rfl (bcells_all _) (fun _ => rfl) (fun _ => rfl) ?_); intro wn9 g9 le_g9 lt_g9 hg__ hb__; have HG9 := Lib.hid hg__; have hE__ := cU HB bup hb__; replace HB := ck HB hE__; replace HV := ck HV hE__; replace HL := ck HL hE__; replace HG3 := ck HG3 hE__; replace H5 := ck H5 hE__; replace HY1 := ck HY1 hE__; clear hE__; clear hg__ hb__; simp only [PT])
      | ((with_reducible refine sl 56 ?_); go_must (refine wpL_loadF rfl 3 (.tmp 55) rfl g3 0 rfl (.int .i64 v.kind) HG3.out rfl Try.underlying3 rfl ?_); simp only [PT])
      | (go_at_call 26; (with_reducible show Calls _ _ #[Value.slice ad5 _ _, _] _ _); go_must (refine (blkGet_at v.val S 0 ad5 S c5 LL (!big) HGN.out _ (H5.out.below bup) (by omega)).mono ?_); intro e wc5 hr; obtain ⟨v2, rfl, hv__, ho__, hb__⟩ := hr; have HY2 := Lib.hid ho__.blk; have HV2 := Lib.hid hv__; clear ho__ hv__; have hE__ := cU HB bup hb__; replace HB := ck HB hE__; replace HV := ck HV hE__; replace HL := ck HL hE__; replace HG3 := ck HG3 hE__; replace H5 := ck H5 hE__; replace HY1 := ck HY1 hE__; replace HG9 := ck HG9 hE__; clear hE__; clear hb__)
      | ((with_reducible refine sl 12 ?_); go_must (refine wpL_newN rfl rfl 27 rfl (.tmp 12) (.tmp 63) rfl (v2.cells).toArray _ HZI.out rfl (bcells_all _) (fun _ => rfl) (fun _ => rfl) ?_); intro wn12 g12 le_g12 lt_g12 hg__ hb__; have HG12 := Lib.hid hg__; have hE__ := cU HB bup hb__; replace HB := ck HB hE__; replace HV := ck HV hE__; replace HL := ck HL hE__; replace HG3 := ck HG3 hE__; replace H5 := ck H5 hE__; replace HY1 := ck HY1 hE__; replace HG9 := ck HG9 hE__; replace HY2 := ck HY2 hE__; clear hE__; clear hg__ hb__; simp only [PT])
      | ((with_reducible refine sl 74 ?_); go_must (refine wpL_load rfl 27 (.tmp 3) rfl g3 0 rfl (v.cells) _ (range_block HG3.out) Try.underlying27 rfl HBI.out ?_); simp only [PT])
      | ((with_reducible refine sl 75 ?_); go_must (refine wpL_load rfl 27 (.tmp 12) rfl g12 0 rfl (v2.cells) _ (range_block HG12.out) Try.underlying27 rfl HBI.out ?_); simp only [PT])
      | (go_at_call 21; (with_reducible show Calls _ _ #[Value.agg v.cells.toArray, Value.agg v2.cells.toArray] _ _); go_must (refine (blkSame_at true v v2 (by rw [HV2.out]; exact sameP_self _) _ (HV.out.below bup) (HY2.out.below bup)).mono ?_); intro e wc6 hr; obtain ⟨rfl, hb__⟩ := hr; have hE__ := cU HB bup hb__; replace HB := ck HB hE__; replace HV := ck HV hE__; replace HL := ck HL hE__; replace HG3 := ck HG3 hE__; replace H5 := ck H5 hE__; replace HY1 := ck HY1 hE__; replace HG9 := ck HG9 hE__; replace HY2 := ck HY2 hE__; replace HG12 := ck HG12 hE__; clear hE__; clear hb__)
      | ((with_reducible refine sl 93 ?_); go_must (refine wpL_load rfl 27 (.tmp 3) rfl g3 0 rfl (v.cells) _ (range_block HG3.out) Try.underlying27 rfl HBI.out ?_); simp only [PT])
      | ((with_reducible refine sl 94 ?_); go_must (refine wpL_load rfl 27 (.tmp 9) rfl g9 0 rfl (v1.cells) _ (range_block HG9.out) Try.underlying27 rfl HBI.out ?_); simp only [PT])
      | (go_at_call 21; (with_reducible show Calls _ _ #[Value.agg v.cells.toArray, Value.agg v1.cells.toArray] _ _); go_must (refine (blkSame_at true v v1 (by rw [HV1.out]; exact sameP_self _) _ (HV.out.below bup) (HY1.out.below bup)).mono ?_); intro e wc7 hr; obtain ⟨rfl, hb__⟩ := hr; have hE__ := cU HB bup hb__; replace HB := ck HB hE__; replace HV := ck HV hE__; replace HL := ck HL hE__; replace HG3 := ck HG3 hE__; replace H5 := ck H5 hE__; replace HY1 := ck HY1 hE__; replace HG9 := ck HG9 hE__; replace HY2 := ck HY2 hE__; replace HG12 := ck HG12 hE__; clear hE__; clear hb__))
    go_ret
    exact ⟨by simp [*], HB.out⟩
  · clear hf1 hv wv hr hm hz hS hLL hl2 hR2 hs hsm
    go_enter Try.func6, Try.ntmps6
    go_wp2_with (first
      | ((with_reducible refine sl 3 ?_); go_must (refine wpL_boxG rfl 27 (.tmp 0) rfl v.cells.toArray rfl ?_); intro wb3 g3 he__ le_g3 lt_g3 hg__ hb__; have HG3 := Lib.hid hg__; have hE__ := cU HB bup hb__; replace HB := ck HB hE__; replace HV := ck HV hE__; replace HL := ck HL hE__; clear hE__; clear hg__ hb__ he__; simp only [PT])
      | (go_at_call 17; go_must (refine (blkAwake_any _).mono ?_); intro e wc1 hr; obtain ⟨rfl, hb__⟩ := hr; have hE__ := cU HB bup hb__; replace HB := ck HB hE__; replace HV := ck HV hE__; replace HL := ck HL hE__; replace HG3 := ck HG3 hE__; clear hE__; clear hb__)
      | ((with_reducible refine sl 18 ?_); go_must (refine wpL_load rfl 27 (.tmp 3) rfl g3 0 rfl (v.cells) _ (range_block HG3.out) Try.underlying27 rfl HBI.out ?_); simp only [PT])
      | (go_at_call 18; (with_reducible show Calls _ _ #[Value.agg v.cells.toArray] _ _); go_must (refine (few_at _ v HF1.out _ (HV.out.below bup)).mono ?_); intro e wc2 hr; obtain ⟨rfl, hb__⟩ := hr; have hE__ := cU HB bup hb__; replace HB := ck HB hE__; replace HV := ck HV hE__; replace HL := ck HL hE__; replace HG3 := ck HG3 hE__; clear hE__; clear hb__)
      | ((with_reducible refine sl 29 ?_); go_must (refine wpL_load rfl 27 (.tmp 3) rfl g3 0 rfl (v.cells) _ (range_block HG3.out) Try.underlying27 rfl HBI.out ?_); simp only [PT])
      | (go_at_call 23; go_must (refine (blkPut_rightS LL S v big HLL.out HLS.out HR.out _ (HV.out.below bup) HS1.out HW1.out).mono ?_); intro e wc3 hr; obtain ⟨ad5, c5, rfl, ho__, hb__⟩ := hr; have H5 := Lib.hid (Bs.of_own ho__); clear ho__; have hE__ := cU HB bup hb__; replace HB := ck HB hE__; replace HV := ck HV hE__; replace HL := ck HL hE__; replace HG3 := ck HG3 hE__; clear hE__; clear hb__)
      | ((with_reducible refine sl 45 ?_); go_must (refine wpL_lit0 rfl rfl ?_); intro wl gl le_ hown__ hb__; have HE := Lib.hid hb__; have HQ := Lib.hid hown__; clear hb__ hown__ le_; simp only [PT])
      | ((with_reducible refine sl 47 ?_); go_must (refine wpL_appL elB rfl (.tmp 45) (.tmp 46) rfl _ (L := []) rfl (own_keep HQ.out bup) rfl (H5.out.below (HE.out.trans (Below.mono bup HE.out.size))) (LL) (by rfl) (by omega) (Nat.le_trans HE.out.size (bsz bup)) ?_); intro ad47 c47 wa47 hown__ hb__; replace HE := cEb HE bup hb__; clear HQ; have HQ := Lib.hid hown__; clear hown__ hb__; skip; simp only [PT])
      | ((with_reducible refine sl 49 ?_); go_must (refine wpL_appL elB rfl (.tmp 47) (.tmp 48) rfl _ (L := LL) rfl (own_keep HQ.out bup) rfl (HL.out.below (HE.out.trans (Below.mono bup HE.out.size))) (R2) (HR2.out.symm) (by omega) (Nat.le_trans HE.out.size (bsz bup)) ?_); intro ad49 c49 wa49 hown__ hb__; replace HE := cEb HE bup hb__; clear HQ; have HQ := Lib.hid hown__; clear hown__ hb__; have hb__ := HE.out; have hE__ := cU HB bup hb__; replace HB := ck HB hE__; replace HV := ck HV hE__; replace HL := ck HL hE__; replace HG3 := ck HG3 hE__; replace H5 := ck H5 hE__; clear hE__; clear hb__ HE; simp only [PT])
      | (go_at_call 26; (with_reducible show Calls _ _ #[Value.slice ad49 _ _, _] _ _); go_must (refine (blkGet_at v.val S 0 ad49 R2.length c49 R2 big HGB.out _ (Bs.of_own (own_keep HQ.out bup)) (by omega)).mono ?_); intro e wc4 hr; obtain ⟨v1, rfl, hv__, ho__, hb__⟩ := hr; have HY1 := Lib.hid ho__.blk; have HV1 := Lib.hid hv__; clear ho__ hv__; have hE__ := cU HB bup hb__; replace HB := ck HB hE__; replace HV := ck HV hE__; replace HL := ck HL hE__; replace HG3 := ck HG3 hE__; replace H5 := ck H5 hE__; clear hE__; clear hb__)
      | ((with_reducible refine sl 9 ?_); go_must (refine wpL_newN rfl rfl 27 rfl (.tmp 9) (.tmp 52) rfl (v1.cells).toArray _ HZI.out rfl (bcells_all _) (fun _ => rfl) (fun _ => rfl) ?_); intro wn9 g9 le_g9 lt_g9 hg__ hb__; have HG9 := Lib.hid hg__; have hE__ := cU HB bup hb__; replace HB := ck HB hE__; replace HV := ck HV hE__; replace HL := ck HL hE__; replace HG3 := ck HG3 hE__; replace H5 := ck H5 hE__; replace HY1 := ck HY1 hE__; clear hE__; clear hg__ hb__; simp only [PT])
      | ((with_reducible refine sl 56 ?_); go_must (refine wpL_loadF rfl 3 (.tmp 55) rfl g3 0 rfl (.int .i64 v.kind) HG3.out rfl Try.underlying3 rfl ?_); simp only [PT])
      | ((with_reducible refine sl 93 ?_); go_must (refine wpL_load rfl 27 (.tmp 3) rfl g3 0 rfl (v.cells) _ (range_block HG3.out) Try.underlying27 rfl HBI.out ?_); simp only [PT])
      | ((with_reducible refine sl 94 ?_); go_must (refine wpL_load rfl 27 (.tmp 9) rfl g9 0 rfl (v1.cells) _ (range_block HG9.out) Try.underlying27 rfl HBI.out ?_); simp only [PT])
      | (go_at_call 21; (with_reducible show Calls _ _ #[Value.agg v.cells.toArray, Value.agg v1.cells.toArray] _ _); go_must (refine (blkSame_at true v v1 (by rw [HV1.out]; exact sameP_self _) _ (HV.out.below bup) (HY1.out.below bup)).mono ?_); intro e wc5 hr; obtain ⟨rfl, hb__⟩ := hr; have hE__ := cU HB bup hb__; replace HB := ck HB hE__; replace HV := ck HV hE__; replace HL := ck HL hE__; replace HG3 := ck HG3 hE__; replace H5 := ck H5 hE__; replace HY1 := ck HY1 hE__; replace HG9 := ck HG9 hE__; clear hE__; clear hb__))
    go_ret
    exact ⟨by simp [*], HB.out⟩

end Go.Proofs.Ytmfplinbbcoahaa
