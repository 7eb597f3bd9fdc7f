/-
  Joined by program (merge.py): LawA2.
-/
import Derived.Test.YtmfplinbbcoahaaM18
import Derived.Test.YtmfplinbbcoahaaM22
/-
  Chapter 26: the law BlockPuts, walked.
-/
namespace Go.Proofs.Ytmfplinbbcoahaa
open Go.RowKit Go.Sort
set_option linter.unusedVariables false
set_option linter.unusedSimpArgs false

set_option maxRecDepth 100000 in
set_option maxHeartbeats 16000000 in
theorem puts26_walk (v : BlkV) (big : Bool) (w : World) (hv : Blk w v) (wv : wfB v.val) :
    Calls Try.prog 4 #[.agg v.cells.toArray, .bool big] w fun e w' => e = .returned (.bool true) ∧ Below w.heap.size w w' := by
  have HB := Lib.hid (Below.refl w.heap.size w)
  have HBI := Lib.hid blk_info
  have HZI := Lib.hid zero_info
  have HV := Lib.hid hv
  cases hf1 : fewB v
  · have HF1 := Lib.hid hf1
    clear hf1 hv
    go_enter Try.func4, Try.ntmps4
    go_wp2_with (first
      | ((with_reducible refine sl 2 ?_); go_must (refine wpL_boxG rfl 27 (.tmp 0) rfl v.cells.toArray rfl ?_); intro wb2 g2 he__ le_g2 lt_g2 hg__ hb__; have HG2 := Lib.hid hg__; have hE__ := cU HB bup hb__; replace HB := ck HB hE__; replace HV := ck HV hE__; clear hE__; clear hg__ hb__ he__; simp only [PT])
      | (go_at_call 17; go_must (refine (blkAwake_any _).mono ?_); intro e wc1 hr; obtain ⟨rfl, hb__⟩ := hr; have hE__ := cU HB bup hb__; replace HB := ck HB hE__; replace HV := ck HV hE__; replace HG2 := ck HG2 hE__; clear hE__; clear hb__)
      | ((with_reducible refine sl 10 ?_); go_must (refine wpL_load rfl 27 (.tmp 2) rfl g2 0 rfl (v.cells) _ (range_block HG2.out) Try.underlying27 rfl HBI.out ?_); simp only [PT])
      | (go_at_call 18; (with_reducible show Calls _ _ #[Value.agg v.cells.toArray] _ _); go_must (refine (few_at _ v HF1.out _ (HV.out.below bup)).mono ?_); intro e wc2 hr; obtain ⟨rfl, hb__⟩ := hr; have hE__ := cU HB bup hb__; replace HB := ck HB hE__; replace HV := ck HV hE__; replace HG2 := ck HG2 hE__; clear hE__; clear hb__))
    go_ret
    exact ⟨rfl, HB.out⟩
  · have HF1 := Lib.hid hf1
    have HS1 := Lib.hid (SmB.of_few hf1)
    have HW1 := Lib.hid wv
    cases hr : rightP v.val
    · have HR := Lib.hid hr
      cases hm : mayP v.val
      · have HM := Lib.hid hm
        have HY : Hid (whyP v.val = 1) := Lib.hid (by unfold whyP; rw [hm]; rfl)
        clear hf1 hv wv hr hm
        go_enter Try.func4, Try.ntmps4
        go_wp2_with (first
          | ((with_reducible refine sl 2 ?_); go_must (refine wpL_boxG rfl 27 (.tmp 0) rfl v.cells.toArray rfl ?_); intro wb2 g2 he__ le_g2 lt_g2 hg__ hb__; have HG2 := Lib.hid hg__; have hE__ := cU HB bup hb__; replace HB := ck HB hE__; replace HV := ck HV hE__; clear hE__; clear hg__ hb__ he__; simp only [PT])
          | (go_at_call 17; go_must (refine (blkAwake_any _).mono ?_); intro e wc1 hr; obtain ⟨rfl, hb__⟩ := hr; have hE__ := cU HB bup hb__; replace HB := ck HB hE__; replace HV := ck HV hE__; replace HG2 := ck HG2 hE__; clear hE__; clear hb__)
          | ((with_reducible refine sl 10 ?_); go_must (refine wpL_load rfl 27 (.tmp 2) rfl g2 0 rfl (v.cells) _ (range_block HG2.out) Try.underlying27 rfl HBI.out ?_); simp only [PT])
          | (go_at_call 18; (with_reducible show Calls _ _ #[Value.agg v.cells.toArray] _ _); go_must (refine (few_at _ v HF1.out _ (HV.out.below bup)).mono ?_); intro e wc2 hr; obtain ⟨rfl, hb__⟩ := hr; have hE__ := cU HB bup hb__; replace HB := ck HB hE__; replace HV := ck HV hE__; replace HG2 := ck HG2 hE__; clear hE__; clear hb__)
          | ((with_reducible refine sl 16 ?_); go_must (refine wpL_load rfl 27 (.tmp 2) rfl g2 0 rfl (v.cells) _ (range_block HG2.out) Try.underlying27 rfl HBI.out ?_); simp only [PT])
          | (go_at_call 23; go_must (refine (blkPut_wrong v big HR.out _ (HV.out.below bup) HS1.out HW1.out).mono ?_); intro e wc3 hr; rw [HY.out] at hr; obtain ⟨rfl, hb__⟩ := hr; have hE__ := cU HB bup hb__; replace HB := ck HB hE__; replace HV := ck HV hE__; replace HG2 := ck HG2 hE__; clear hE__; clear hb__)
          | ((with_reducible refine sl 21 ?_); go_must (refine wpL_load rfl 27 (.tmp 2) rfl g2 0 rfl (v.cells) _ (range_block HG2.out) Try.underlying27 rfl HBI.out ?_); simp only [PT])
          | (go_at_call 24; go_must (refine (refMay_at _ v HM.out _ (HV.out.below bup) HW1.out).mono ?_); intro e wc4 hr; obtain ⟨rfl, hb__⟩ := hr; have hE__ := cU HB bup hb__; replace HB := ck HB hE__; replace HV := ck HV hE__; replace HG2 := ck HG2 hE__; clear hE__; clear hb__))
        go_ret
        exact ⟨rfl, HB.out⟩
      · have HM := Lib.hid hm
        have HY : Hid (whyP v.val = 4) := Lib.hid (by unfold whyP; rw [hm]; rfl)
        clear hf1 hv wv hr hm
        go_enter Try.func4, Try.ntmps4
        go_wp2_with (first
          | ((with_reducible refine sl 2 ?_); go_must (refine wpL_boxG rfl 27 (.tmp 0) rfl v.cells.toArray rfl ?_); intro wb2 g2 he__ le_g2 lt_g2 hg__ hb__; have HG2 := Lib.hid hg__; have hE__ := cU HB bup hb__; replace HB := ck HB hE__; replace HV := ck HV hE__; clear hE__; clear hg__ hb__ he__; simp only [PT])
          | (go_at_call 17; go_must (refine (blkAwake_any _).mono ?_); intro e wc1 hr; obtain ⟨rfl, hb__⟩ := hr; have hE__ := cU HB bup hb__; replace HB := ck HB hE__; replace HV := ck HV hE__; replace HG2 := ck HG2 hE__; clear hE__; clear hb__)
          | ((with_reducible refine sl 10 ?_); go_must (refine wpL_load rfl 27 (.tmp 2) rfl g2 0 rfl (v.cells) _ (range_block HG2.out) Try.underlying27 rfl HBI.out ?_); simp only [PT])
          | (go_at_call 18; (with_reducible show Calls _ _ #[Value.agg v.cells.toArray] _ _); go_must (refine (few_at _ v HF1.out _ (HV.out.below bup)).mono ?_); intro e wc2 hr; obtain ⟨rfl, hb__⟩ := hr; have hE__ := cU HB bup hb__; replace HB := ck HB hE__; replace HV := ck HV hE__; replace HG2 := ck HG2 hE__; clear hE__; clear hb__)
          | ((with_reducible refine sl 16 ?_); go_must (refine wpL_load rfl 27 (.tmp 2) rfl g2 0 rfl (v.cells) _ (range_block HG2.out) Try.underlying27 rfl HBI.out ?_); simp only [PT])
          | (go_at_call 23; go_must (refine (blkPut_wrong v big HR.out _ (HV.out.below bup) HS1.out HW1.out).mono ?_); intro e wc3 hr; rw [HY.out] at hr; obtain ⟨rfl, hb__⟩ := hr; have hE__ := cU HB bup hb__; replace HB := ck HB hE__; replace HV := ck HV hE__; replace HG2 := ck HG2 hE__; clear hE__; clear hb__)
          | ((with_reducible refine sl 21 ?_); go_must (refine wpL_load rfl 27 (.tmp 2) rfl g2 0 rfl (v.cells) _ (range_block HG2.out) Try.underlying27 rfl HBI.out ?_); simp only [PT])
          | (go_at_call 24; go_must (refine (refMay_at _ v HM.out _ (HV.out.below bup) HW1.out).mono ?_); intro e wc4 hr; obtain ⟨rfl, hb__⟩ := hr; have hE__ := cU HB bup hb__; replace HB := ck HB hE__; replace HV := ck HV hE__; replace HG2 := ck HG2 hE__; clear hE__; clear hb__)
          | ((with_reducible refine sl 31 ?_); go_must (refine wpL_load rfl 27 (.tmp 2) rfl g2 0 rfl (v.cells) _ (range_block HG2.out) Try.underlying27 rfl HBI.out ?_); simp only [PT])
          | (go_at_call 20; go_must (refine (refRight_at _ v HR.out _ (HV.out.below bup) HS1.out HW1.out).mono ?_); intro e wc5 hr; obtain ⟨rfl, hb__⟩ := hr; have hE__ := cU HB bup hb__; replace HB := ck HB hE__; replace HV := ck HV hE__; replace HG2 := ck HG2 hE__; clear hE__; clear hb__))
        go_ret
        exact ⟨rfl, HB.out⟩
    · have HR := Lib.hid hr
      have HM : Hid (mayP v.val = true) := Lib.hid (by simp [rightP] at hr; exact hr.1)
      obtain ⟨LL, hLL⟩ : ∃ L, L = bytesB big v.val := ⟨_, rfl⟩
      have HLL := Lib.hid hLL
      clear hf1 hv wv hr hLL
      go_enter Try.func4, Try.ntmps4
      go_wp2_with (first
        | ((with_reducible refine sl 2 ?_); go_must (refine wpL_boxG rfl 27 (.tmp 0) rfl v.cells.toArray rfl ?_); intro wb2 g2 he__ le_g2 lt_g2 hg__ hb__; have HG2 := Lib.hid hg__; have hE__ := cU HB bup hb__; replace HB := ck HB hE__; replace HV := ck HV hE__; clear hE__; clear hg__ hb__ he__; simp only [PT])
        | (go_at_call 17; go_must (refine (blkAwake_any _).mono ?_); intro e wc1 hr; obtain ⟨rfl, hb__⟩ := hr; have hE__ := cU HB bup hb__; replace HB := ck HB hE__; replace HV := ck HV hE__; replace HG2 := ck HG2 hE__; clear hE__; clear hb__)
        | ((with_reducible refine sl 10 ?_); go_must (refine wpL_load rfl 27 (.tmp 2) rfl g2 0 rfl (v.cells) _ (range_block HG2.out) Try.underlying27 rfl HBI.out ?_); simp only [PT])
        | (go_at_call 18; (with_reducible show Calls _ _ #[Value.agg v.cells.toArray] _ _); go_must (refine (few_at _ v HF1.out _ (HV.out.below bup)).mono ?_); intro e wc2 hr; obtain ⟨rfl, hb__⟩ := hr; have hE__ := cU HB bup hb__; replace HB := ck HB hE__; replace HV := ck HV hE__; replace HG2 := ck HG2 hE__; clear hE__; clear hb__)
        | ((with_reducible refine sl 16 ?_); go_must (refine wpL_load rfl 27 (.tmp 2) rfl g2 0 rfl (v.cells) _ (range_block HG2.out) Try.underlying27 rfl HBI.out ?_); simp only [PT])
        | (go_at_call 23; go_must (refine (blkPut_right LL v big HLL.out HR.out _ (HV.out.below bup) HS1.out HW1.out).mono ?_); intro e wc3 hr; obtain ⟨ad5, c5, rfl, ho__, hb__⟩ := hr; have H5 := Lib.hid (Bs.of_own ho__); clear ho__; have hE__ := cU HB bup hb__; replace HB := ck HB hE__; replace HV := ck HV hE__; replace HG2 := ck HG2 hE__; clear hE__; clear hb__)
        | ((with_reducible refine sl 21 ?_); go_must (refine wpL_load rfl 27 (.tmp 2) rfl g2 0 rfl (v.cells) _ (range_block HG2.out) Try.underlying27 rfl HBI.out ?_); simp only [PT])
        | (go_at_call 24; go_must (refine (refMay_at _ v HM.out _ (HV.out.below bup) HW1.out).mono ?_); intro e wc4 hr; obtain ⟨rfl, hb__⟩ := hr; have hE__ := cU HB bup hb__; replace HB := ck HB hE__; replace HV := ck HV hE__; replace HG2 := ck HG2 hE__; replace H5 := ck H5 hE__; clear hE__; clear hb__)
        | ((with_reducible refine sl 31 ?_); go_must (refine wpL_load rfl 27 (.tmp 2) rfl g2 0 rfl (v.cells) _ (range_block HG2.out) Try.underlying27 rfl HBI.out ?_); simp only [PT])
        | (go_at_call 20; go_must (refine (refRight_at _ v HR.out _ (HV.out.below bup) HS1.out HW1.out).mono ?_); intro e wc5 hr; obtain ⟨rfl, hb__⟩ := hr; have hE__ := cU HB bup hb__; replace HB := ck HB hE__; replace HV := ck HV hE__; replace HG2 := ck HG2 hE__; replace H5 := ck H5 hE__; clear hE__; clear hb__))
      refine wp_region_held_drew (S := fun u__ => u__.heap[g2]? = some (.cells v.cells.toArray 27 (0, 0))) (by kernel_rfl) ?_ (fun hHeld => ?_)
      focus (exact HG2.out)
      refine tk 0 (oi := ⟨some 41, _, _, _, _, _⟩) (v := ?_) rfl (by kernel_rfl) (.inl ⟨by rfl, ?_⟩) hHeld ?_; rotate_left; focus (intro w hSw; (try dsimp only at hSw); go_simp; try with_reducible rfl)
      simp only [PT]
      refine tk 1 (oi := ⟨some 42, _, _, _, _, _⟩) (v := ?_) rfl (by kernel_rfl) (.inl ⟨by rfl, ?_⟩) hHeld ?_; rotate_left; focus (intro w hSw; (try dsimp only at hSw); go_simp; try with_reducible rfl)
      simp only [PT]
      refine tk 2 (oi := ⟨some 43, _, _, _, _, _⟩) (v := ?_) rfl (by kernel_rfl) (.inl ⟨by rfl, ?_⟩) hHeld ?_; rotate_left; focus (intro w hSw; (try dsimp only at hSw); go_simp; try with_reducible rfl)
      simp only [PT]
      first | (refine tk 3 (oi := ⟨some 44, _, _, _, _, _⟩) (v := undef) rfl (by kernel_rfl) (.inr ⟨by rfl, rfl⟩) hHeld ?_) | (refine tk 3 (oi := ⟨some 44, _, _, _, _, _⟩) (v := ?_) rfl (by kernel_rfl) (.inl ⟨by rfl, ?_⟩) hHeld ?_; rotate_left; focus (intro w hSw; (try dsimp only at hSw); go_simp; try with_reducible rfl))
      simp only [PT]
      first | (refine tk 5 (oi := ⟨some 46, _, _, _, _, _⟩) (v := undef) rfl (by kernel_rfl) (.inr ⟨by rfl, rfl⟩) hHeld ?_) | (refine' tk 5 (oi := ⟨some 46, _, _, _, _, _⟩) (v := _) rfl (by kernel_rfl) (yieldsIf_load_mid (by rfl) _ _ rfl _ _ rfl (v.cells) _ (fun _ h => range_block h) (Try.underlying27) rfl (HBI.out)) hHeld ?_)
      simp only [PT]
      first | (refine tk 6 (oi := ⟨some 47, _, _, _, _, _⟩) (v := undef) rfl (by kernel_rfl) (.inr ⟨by rfl, rfl⟩) hHeld ?_) | (refine tk 6 (oi := ⟨some 47, _, _, _, _, _⟩) (v := ?_) rfl (by kernel_rfl) (.inl ⟨by rfl, ?_⟩) hHeld ?_; rotate_left; focus (intro w hSw; (try dsimp only at hSw); go_simp; try with_reducible rfl))
      simp only [PT]
      refine wpAnyH_ready (rs := [4, 7]) (by kernel_rfl) (by simp) ?_
      refine (AllReadyH.cons (o := ⟨some 45, _, _, _, _, _⟩) rfl (fun K hK => ?_) (AllReadyH.cons (o := ⟨some 48, _, _, _, _, _⟩) rfl (fun K hK => ?_) AllReadyH.nil))
      (go_must (refine step_str Try.underlying24 Try.underlying5 Try.underlying9 rfl (.tmp 44) rfl rfl (H5.out.below bup) ?_))
      refine hK.out _ _ ?_ (fun hHeld => ?_)
      focus (exact HG2.out)
      clear hK K
      try simp only [PT]
      refine wpAnyH_ready (rs := [7]) (by kernel_rfl) (by simp) ?_
      refine (AllReadyH.cons (o := ⟨some 48, _, _, _, _, _⟩) rfl (fun K hK => ?_) AllReadyH.nil)
      focus (go_simp; go_must (refine (refBytes_right LL v big HLL.out HM.out _ (HV.out.below bup) HS1.out HW1.out).mono ?_); intro e wr hr; obtain ⟨ad6, c6, rfl, ho__, hb__⟩ := hr; have hE__ := cU HB bup hb__; replace HB := ck HB hE__; replace HV := ck HV hE__; replace HG2 := ck HG2 hE__; replace H5 := ck H5 hE__; clear hE__; have H6 := Lib.hid (Bs.of_own ho__); clear hb__ ho__; go_wp2_with fail)
      refine hK.out _ _ ?_ (fun hHeld => ?_)
      focus (exact HG2.out)
      clear hK K
      try simp only [PT]
      refine wpAnyH_ready (rs := [8]) (by kernel_rfl) (by simp) ?_
      refine (AllReadyH.cons (o := ⟨some 49, _, _, _, _, _⟩) rfl (fun K hK => ?_) AllReadyH.nil)
      (go_must (refine step_str Try.underlying24 Try.underlying5 Try.underlying9 rfl (.tmp 48) rfl rfl (H6.out.below bup) ?_))
      refine hK.out _ _ ?_ (fun hHeld => ?_)
      focus (exact HG2.out)
      clear hK K
      try simp only [PT]
      first | (refine tk 9 (oi := ⟨some 50, _, _, _, _, _⟩) (v := undef) rfl (by kernel_rfl) (.inr ⟨by rfl, rfl⟩) hHeld ?_) | (refine tk 9 (oi := ⟨some 50, _, _, _, _, _⟩) (v := ?_) rfl (by kernel_rfl) (.inl ⟨by rfl, ?_⟩) hHeld ?_; rotate_left; focus (intro w hSw; (try dsimp only at hSw); go_simp; try with_reducible rfl))
      simp only [PT]
      refine tk 10 (oi := ⟨some 51, _, _, _, _, _⟩) (v := ?_) rfl (by kernel_rfl) (.inl ⟨by rfl, ?_⟩) hHeld ?_; rotate_left; focus (intro w hSw; (try dsimp only at hSw); go_simp; try with_reducible rfl)
      simp only [PT]
      refine tk 11 (oi := ⟨some 4, _, _, _, _, _⟩) (v := ?_) rfl (by kernel_rfl) (.inl ⟨by rfl, ?_⟩) hHeld ?_; rotate_left; focus (intro w hSw; (try dsimp only at hSw); go_simp; try with_reducible rfl)
      simp only [PT]
      refine wpAnyH_done (by kernel_rfl) ?_ _
      rotate_left
      focus (go_simp; go_must (refine (refBytes_right LL v big HLL.out HM.out _ (HV.out.below bup) HS1.out HW1.out).mono ?_); intro e wr hr; obtain ⟨ad6, c6, rfl, ho__, hb__⟩ := hr; have hE__ := cU HB bup hb__; replace HB := ck HB hE__; replace HV := ck HV hE__; replace HG2 := ck HG2 hE__; replace H5 := ck H5 hE__; clear hE__; have H6 := Lib.hid (Bs.of_own ho__); clear hb__ ho__; go_wp2_with fail)
      refine hK.out _ _ ?_ (fun hHeld => ?_)
      focus (exact HG2.out)
      clear hK K
      try simp only [PT]
      refine wpAnyH_ready (rs := [4, 8]) (by kernel_rfl) (by simp) ?_
      refine (AllReadyH.cons (o := ⟨some 45, _, _, _, _, _⟩) rfl (fun K hK => ?_) (AllReadyH.cons (o := ⟨some 49, _, _, _, _, _⟩) rfl (fun K hK => ?_) AllReadyH.nil))
      (go_must (refine step_str Try.underlying24 Try.underlying5 Try.underlying9 rfl (.tmp 44) rfl rfl (H5.out.below bup) ?_))
      refine hK.out _ _ ?_ (fun hHeld => ?_)
      focus (exact HG2.out)
      clear hK K
      try simp only [PT]
      refine wpAnyH_ready (rs := [8]) (by kernel_rfl) (by simp) ?_
      refine (AllReadyH.cons (o := ⟨some 49, _, _, _, _, _⟩) rfl (fun K hK => ?_) AllReadyH.nil)
      (go_must (refine step_str Try.underlying24 Try.underlying5 Try.underlying9 rfl (.tmp 48) rfl rfl (H6.out.below bup) ?_))
      refine hK.out _ _ ?_ (fun hHeld => ?_)
      focus (exact HG2.out)
      clear hK K
      try simp only [PT]
      first | (refine tk 9 (oi := ⟨some 50, _, _, _, _, _⟩) (v := undef) rfl (by kernel_rfl) (.inr ⟨by rfl, rfl⟩) hHeld ?_) | (refine tk 9 (oi := ⟨some 50, _, _, _, _, _⟩) (v := ?_) rfl (by kernel_rfl) (.inl ⟨by rfl, ?_⟩) hHeld ?_; rotate_left; focus (intro w hSw; (try dsimp only at hSw); go_simp; try with_reducible rfl))
      simp only [PT]
      refine tk 10 (oi := ⟨some 51, _, _, _, _, _⟩) (v := ?_) rfl (by kernel_rfl) (.inl ⟨by rfl, ?_⟩) hHeld ?_; rotate_left; focus (intro w hSw; (try dsimp only at hSw); go_simp; try with_reducible rfl)
      simp only [PT]
      refine tk 11 (oi := ⟨some 4, _, _, _, _, _⟩) (v := ?_) rfl (by kernel_rfl) (.inl ⟨by rfl, ?_⟩) hHeld ?_; rotate_left; focus (intro w hSw; (try dsimp only at hSw); go_simp; try with_reducible rfl)
      simp only [PT]
      refine wpAnyH_done (by kernel_rfl) ?_ _
      rotate_left
      (go_must (refine step_str Try.underlying24 Try.underlying5 Try.underlying9 rfl (.tmp 48) rfl rfl (H6.out.below bup) ?_))
      refine hK.out _ _ ?_ (fun hHeld => ?_)
      focus (exact HG2.out)
      clear hK K
      try simp only [PT]
      refine wpAnyH_ready (rs := [4]) (by kernel_rfl) (by simp) ?_
      refine (AllReadyH.cons (o := ⟨some 45, _, _, _, _, _⟩) rfl (fun K hK => ?_) AllReadyH.nil)
      (go_must (refine step_str Try.underlying24 Try.underlying5 Try.underlying9 rfl (.tmp 44) rfl rfl (H5.out.below bup) ?_))
      refine hK.out _ _ ?_ (fun hHeld => ?_)
      focus (exact HG2.out)
      clear hK K
      try simp only [PT]
      first | (refine tk 9 (oi := ⟨some 50, _, _, _, _, _⟩) (v := undef) rfl (by kernel_rfl) (.inr ⟨by rfl, rfl⟩) hHeld ?_) | (refine tk 9 (oi := ⟨some 50, _, _, _, _, _⟩) (v := ?_) rfl (by kernel_rfl) (.inl ⟨by rfl, ?_⟩) hHeld ?_; rotate_left; focus (intro w hSw; (try dsimp only at hSw); go_simp; try with_reducible rfl))
      simp only [PT]
      refine tk 10 (oi := ⟨some 51, _, _, _, _, _⟩) (v := ?_) rfl (by kernel_rfl) (.inl ⟨by rfl, ?_⟩) hHeld ?_; rotate_left; focus (intro w hSw; (try dsimp only at hSw); go_simp; try with_reducible rfl)
      simp only [PT]
      refine tk 11 (oi := ⟨some 4, _, _, _, _, _⟩) (v := ?_) rfl (by kernel_rfl) (.inl ⟨by rfl, ?_⟩) hHeld ?_; rotate_left; focus (intro w hSw; (try dsimp only at hSw); go_simp; try with_reducible rfl)
      simp only [PT]
      refine wpAnyH_done (by kernel_rfl) ?_ _
      rotate_left
      all_goals
        go_wp2_with fail
        go_ret
        exact ⟨by simp, HB.out⟩

end Go.Proofs.Ytmfplinbbcoahaa
