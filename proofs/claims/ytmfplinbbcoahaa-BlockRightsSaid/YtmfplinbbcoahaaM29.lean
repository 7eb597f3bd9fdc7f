/-
  Joined by program (merge.py): LawA.
-/
import Derived.Test.YtmfplinbbcoahaaM18
import Derived.Test.YtmfplinbbcoahaaM22
/-
  Chapter 26: the law BlockRights, walked.
-/
namespace Go.Proofs.Ytmfplinbbcoahaa
open Go.RowKit Go.Sort
set_option linter.unusedVariables false
set_option linter.unusedSimpArgs false

set_option maxRecDepth 100000 in
set_option maxHeartbeats 16000000 in
theorem rights_walk (v u : BlkV) (w : World) (hv : Blk w v) (wv : wfB v.val) (hu : Blk w u) (wu : wfB u.val) :
    Calls Try.prog 3 #[.agg v.cells.toArray, .agg u.cells.toArray] w fun e w' => e = .returned (.bool true) ∧ Below w.heap.size w w' := by
  have HB := Lib.hid (Below.refl w.heap.size w)
  have HBI := Lib.hid blk_info
  have HZI := Lib.hid zero_info
  have HV := Lib.hid hv
  have HU := Lib.hid hu
  cases hf1 : fewB v
  · have HF1 := Lib.hid hf1
    clear hf1 hv hu
    go_enter Try.func3, Try.ntmps3
    go_wp2_with (first
      | ((with_reducible refine sl 2 ?_); go_must (refine wpL_boxG rfl 27 (.tmp 0) rfl v.cells.toArray rfl ?_); intro wb2 g2 he__ le_g2 lt_g2 hg__ hb__; have HG2 := Lib.hid hg__; have hE__ := cU HB bup hb__; replace HB := ck HB hE__; replace HV := ck HV hE__; replace HU := ck HU hE__; clear hE__; clear hg__ hb__ he__; simp only [PT])
      | ((with_reducible refine sl 3 ?_); go_must (refine wpL_boxG rfl 27 (.tmp 1) rfl u.cells.toArray rfl ?_); intro wb3 g3 he__ le_g3 lt_g3 hg__ hb__; have HG3 := Lib.hid hg__; have hE__ := cU HB bup hb__; replace HB := ck HB hE__; replace HV := ck HV hE__; replace HU := ck HU hE__; replace HG2 := ck HG2 hE__; clear hE__; clear hg__ hb__ he__; simp only [PT])
      | (go_at_call 17; go_must (refine (blkAwake_any _).mono ?_); intro e wc1 hr; obtain ⟨rfl, hb__⟩ := hr; have hE__ := cU HB bup hb__; replace HB := ck HB hE__; replace HV := ck HV hE__; replace HU := ck HU hE__; replace HG2 := ck HG2 hE__; replace HG3 := ck HG3 hE__; clear hE__; clear hb__)
      | ((with_reducible refine sl 8 ?_); go_must (refine wpL_load rfl 27 (.tmp 2) rfl g2 0 rfl (v.cells) _ (range_block HG2.out) Try.underlying27 rfl HBI.out ?_); simp only [PT])
      | (go_at_call 18; (with_reducible show Calls _ _ #[Value.agg v.cells.toArray] _ _); go_must (refine (few_at _ v HF1.out _ (HV.out.below bup)).mono ?_); intro e wc2 hr; obtain ⟨rfl, hb__⟩ := hr; have hE__ := cU HB bup hb__; replace HB := ck HB hE__; replace HV := ck HV hE__; replace HU := ck HU hE__; replace HG2 := ck HG2 hE__; replace HG3 := ck HG3 hE__; clear hE__; clear hb__))
    go_ret
    exact ⟨rfl, HB.out⟩
  · cases hf2 : fewB u
    · have HF1 := Lib.hid hf1
      have HF2 := Lib.hid hf2
      clear hf1 hf2 hv hu
      go_enter Try.func3, Try.ntmps3
      go_wp2_with (first
        | ((with_reducible refine sl 2 ?_); go_must (refine wpL_boxG rfl 27 (.tmp 0) rfl v.cells.toArray rfl ?_); intro wb2 g2 he__ le_g2 lt_g2 hg__ hb__; have HG2 := Lib.hid hg__; have hE__ := cU HB bup hb__; replace HB := ck HB hE__; replace HV := ck HV hE__; replace HU := ck HU hE__; clear hE__; clear hg__ hb__ he__; simp only [PT])
        | ((with_reducible refine sl 3 ?_); go_must (refine wpL_boxG rfl 27 (.tmp 1) rfl u.cells.toArray rfl ?_); intro wb3 g3 he__ le_g3 lt_g3 hg__ hb__; have HG3 := Lib.hid hg__; have hE__ := cU HB bup hb__; replace HB := ck HB hE__; replace HV := ck HV hE__; replace HU := ck HU hE__; replace HG2 := ck HG2 hE__; clear hE__; clear hg__ hb__ he__; simp only [PT])
        | (go_at_call 17; go_must (refine (blkAwake_any _).mono ?_); intro e wc1 hr; obtain ⟨rfl, hb__⟩ := hr; have hE__ := cU HB bup hb__; replace HB := ck HB hE__; replace HV := ck HV hE__; replace HU := ck HU hE__; replace HG2 := ck HG2 hE__; replace HG3 := ck HG3 hE__; clear hE__; clear hb__)
        | ((with_reducible refine sl 8 ?_); go_must (refine wpL_load rfl 27 (.tmp 2) rfl g2 0 rfl (v.cells) _ (range_block HG2.out) Try.underlying27 rfl HBI.out ?_); simp only [PT])
        | (go_at_call 18; (with_reducible show Calls _ _ #[Value.agg v.cells.toArray] _ _); go_must (refine (few_at _ v HF1.out _ (HV.out.below bup)).mono ?_); intro e wc2 hr; obtain ⟨rfl, hb__⟩ := hr; have hE__ := cU HB bup hb__; replace HB := ck HB hE__; replace HV := ck HV hE__; replace HU := ck HU hE__; replace HG2 := ck HG2 hE__; replace HG3 := ck HG3 hE__; clear hE__; clear hb__)
        | ((with_reducible refine sl 13 ?_); go_must (refine wpL_load rfl 27 (.tmp 3) rfl g3 0 rfl (u.cells) _ (range_block HG3.out) Try.underlying27 rfl HBI.out ?_); simp only [PT])
        | (go_at_call 18; (with_reducible show Calls _ _ #[Value.agg u.cells.toArray] _ _); go_must (refine (few_at _ u HF2.out _ (HU.out.below bup)).mono ?_); intro e wc3 hr; obtain ⟨rfl, hb__⟩ := hr; have hE__ := cU HB bup hb__; replace HB := ck HB hE__; replace HV := ck HV hE__; replace HU := ck HU hE__; replace HG2 := ck HG2 hE__; replace HG3 := ck HG3 hE__; clear hE__; clear hb__))
      go_ret
      exact ⟨rfl, HB.out⟩
    · have HF1 := Lib.hid hf1
      have HF2 := Lib.hid hf2
      have HS1 := Lib.hid (SmB.of_few hf1)
      have HW1 := Lib.hid wv
      obtain ⟨R, hR⟩ : ∃ R, R = rightP v.val := ⟨_, rfl⟩
      have HR := Lib.hid hR.symm
      obtain ⟨S, hS⟩ : ∃ S, S = sameP v.val u.val := ⟨_, rfl⟩
      have HS := Lib.hid hS.symm
      clear hf1 hf2 hv hu wv wu hR hS
      go_enter Try.func3, Try.ntmps3
      go_wp2_with (first
        | ((with_reducible refine sl 2 ?_); go_must (refine wpL_boxG rfl 27 (.tmp 0) rfl v.cells.toArray rfl ?_); intro wb2 g2 he__ le_g2 lt_g2 hg__ hb__; have HG2 := Lib.hid hg__; have hE__ := cU HB bup hb__; replace HB := ck HB hE__; replace HV := ck HV hE__; replace HU := ck HU hE__; clear hE__; clear hg__ hb__ he__; simp only [PT])
        | ((with_reducible refine sl 3 ?_); go_must (refine wpL_boxG rfl 27 (.tmp 1) rfl u.cells.toArray rfl ?_); intro wb3 g3 he__ le_g3 lt_g3 hg__ hb__; have HG3 := Lib.hid hg__; have hE__ := cU HB bup hb__; replace HB := ck HB hE__; replace HV := ck HV hE__; replace HU := ck HU hE__; replace HG2 := ck HG2 hE__; clear hE__; clear hg__ hb__ he__; simp only [PT])
        | (go_at_call 17; go_must (refine (blkAwake_any _).mono ?_); intro e wc1 hr; obtain ⟨rfl, hb__⟩ := hr; have hE__ := cU HB bup hb__; replace HB := ck HB hE__; replace HV := ck HV hE__; replace HU := ck HU hE__; replace HG2 := ck HG2 hE__; replace HG3 := ck HG3 hE__; clear hE__; clear hb__)
        | ((with_reducible refine sl 8 ?_); go_must (refine wpL_load rfl 27 (.tmp 2) rfl g2 0 rfl (v.cells) _ (range_block HG2.out) Try.underlying27 rfl HBI.out ?_); simp only [PT])
        | (go_at_call 18; (with_reducible show Calls _ _ #[Value.agg v.cells.toArray] _ _); go_must (refine (few_at _ v HF1.out _ (HV.out.below bup)).mono ?_); intro e wc2 hr; obtain ⟨rfl, hb__⟩ := hr; have hE__ := cU HB bup hb__; replace HB := ck HB hE__; replace HV := ck HV hE__; replace HU := ck HU hE__; replace HG2 := ck HG2 hE__; replace HG3 := ck HG3 hE__; clear hE__; clear hb__)
        | ((with_reducible refine sl 13 ?_); go_must (refine wpL_load rfl 27 (.tmp 3) rfl g3 0 rfl (u.cells) _ (range_block HG3.out) Try.underlying27 rfl HBI.out ?_); simp only [PT])
        | (go_at_call 18; (with_reducible show Calls _ _ #[Value.agg u.cells.toArray] _ _); go_must (refine (few_at _ u HF2.out _ (HU.out.below bup)).mono ?_); intro e wc3 hr; obtain ⟨rfl, hb__⟩ := hr; have hE__ := cU HB bup hb__; replace HB := ck HB hE__; replace HV := ck HV hE__; replace HU := ck HU hE__; replace HG2 := ck HG2 hE__; replace HG3 := ck HG3 hE__; clear hE__; clear hb__))
      refine wp_region_held_drew (S := fun u__ => u__.heap[g2]? = some (.cells v.cells.toArray 27 (0, 0)) ∧ u__.heap[g3]? = some (.cells u.cells.toArray 27 (0, 0))) (by kernel_rfl) ?_ (fun hHeld => ?_)
      focus (exact ⟨HG2.out, HG3.out⟩)
      refine' tk 0 (oi := ⟨some 18, _, _, _, _, _⟩) (v := _) rfl (by kernel_rfl) (yieldsIf_load_mid (by rfl) _ _ rfl _ _ rfl (v.cells) _ (fun _ h => range_block h.1) (Try.underlying27) rfl (HBI.out)) hHeld ?_
      simp only [PT]
      refine' tk 2 (oi := ⟨some 20, _, _, _, _, _⟩) (v := _) rfl (by kernel_rfl) (yieldsIf_load_mid (by rfl) _ _ rfl _ _ rfl (v.cells) _ (fun _ h => range_block h.1) (Try.underlying27) rfl (HBI.out)) hHeld ?_
      simp only [PT]
      refine wpAnyH_ready (rs := [1]) (by kernel_rfl) (by simp) ?_
      refine (AllReadyH.cons (o := ⟨some 19, _, _, _, _, _⟩) rfl (fun K hK => ?_) AllReadyH.nil)
      focus (go_simp; go_must (refine (blkRight_at R v HR.out _ (HV.out.below bup) HS1.out HW1.out).mono ?_); intro e wr hr; obtain ⟨rfl, hb__⟩ := hr; have hE__ := cU HB bup hb__; replace HB := ck HB hE__; replace HV := ck HV hE__; replace HU := ck HU hE__; replace HG2 := ck HG2 hE__; replace HG3 := ck HG3 hE__; clear hE__; clear hb__; go_wp2_with fail)
      refine hK.out _ _ ?_ (fun hHeld => ?_)
      focus (exact ⟨HG2.out, HG3.out⟩)
      clear hK K
      try simp only [PT]
      refine wpAnyH_ready (rs := [3]) (by kernel_rfl) (by simp) ?_
      refine (AllReadyH.cons (o := ⟨some 21, _, _, _, _, _⟩) rfl (fun K hK => ?_) AllReadyH.nil)
      focus (go_simp; go_must (refine (refRight_at R v HR.out _ (HV.out.below bup) HS1.out HW1.out).mono ?_); intro e wr hr; obtain ⟨rfl, hb__⟩ := hr; have hE__ := cU HB bup hb__; replace HB := ck HB hE__; replace HV := ck HV hE__; replace HU := ck HU hE__; replace HG2 := ck HG2 hE__; replace HG3 := ck HG3 hE__; clear hE__; clear hb__; go_wp2_with fail)
      refine hK.out _ _ ?_ (fun hHeld => ?_)
      focus (exact ⟨HG2.out, HG3.out⟩)
      clear hK K
      try simp only [PT]
      refine tk 4 (oi := ⟨some 22, _, _, _, _, _⟩) (v := ?_) rfl (by kernel_rfl) (.inl ⟨by rfl, ?_⟩) hHeld ?_; rotate_left; focus (intro w hSw; (try dsimp only at hSw); go_simp; try with_reducible rfl)
      simp only [PT]
      refine tk 5 (oi := ⟨some 23, _, _, _, _, _⟩) (v := ?_) rfl (by kernel_rfl) (.inl ⟨by rfl, ?_⟩) hHeld ?_; rotate_left; focus (intro w hSw; (try dsimp only at hSw); go_simp; try with_reducible rfl)
      simp only [PT]
      first | (refine tk 6 (oi := ⟨some 24, _, _, _, _, _⟩) (v := undef) rfl (by kernel_rfl) (.inr ⟨by rfl, rfl⟩) hHeld ?_) | (refine' tk 6 (oi := ⟨some 24, _, _, _, _, _⟩) (v := _) rfl (by kernel_rfl) (yieldsIf_load_mid (by rfl) _ _ rfl _ _ rfl (v.cells) _ (fun _ h => range_block h.1) (Try.underlying27) rfl (HBI.out)) hHeld ?_)
      simp only [PT]
      first | (refine tk 7 (oi := ⟨some 25, _, _, _, _, _⟩) (v := undef) rfl (by kernel_rfl) (.inr ⟨by rfl, rfl⟩) hHeld ?_) | (refine' tk 7 (oi := ⟨some 25, _, _, _, _, _⟩) (v := _) rfl (by kernel_rfl) (yieldsIf_load_mid (by rfl) _ _ rfl _ _ rfl (u.cells) _ (fun _ h => range_block h.2) (Try.underlying27) rfl (HBI.out)) hHeld ?_)
      simp only [PT]
      first | (refine tk 9 (oi := ⟨some 27, _, _, _, _, _⟩) (v := undef) rfl (by kernel_rfl) (.inr ⟨by rfl, rfl⟩) hHeld ?_) | (refine' tk 9 (oi := ⟨some 27, _, _, _, _, _⟩) (v := _) rfl (by kernel_rfl) (yieldsIf_load_mid (by rfl) _ _ rfl _ _ rfl (v.cells) _ (fun _ h => range_block h.1) (Try.underlying27) rfl (HBI.out)) hHeld ?_)
      simp only [PT]
      first | (refine tk 10 (oi := ⟨some 28, _, _, _, _, _⟩) (v := undef) rfl (by kernel_rfl) (.inr ⟨by rfl, rfl⟩) hHeld ?_) | (refine' tk 10 (oi := ⟨some 28, _, _, _, _, _⟩) (v := _) rfl (by kernel_rfl) (yieldsIf_load_mid (by rfl) _ _ rfl _ _ rfl (u.cells) _ (fun _ h => range_block h.2) (Try.underlying27) rfl (HBI.out)) hHeld ?_)
      simp only [PT]
      refine wpAnyH_ready (rs := [8]) (by kernel_rfl) (by simp) ?_
      refine (AllReadyH.cons (o := ⟨some 26, _, _, _, _, _⟩) rfl (fun K hK => ?_) AllReadyH.nil)
      focus (go_simp; go_must (refine (blkSame_at S v u HS.out _ (HV.out.below bup) (HU.out.below bup)).mono ?_); intro e wr hr; obtain ⟨rfl, hb__⟩ := hr; have hE__ := cU HB bup hb__; replace HB := ck HB hE__; replace HV := ck HV hE__; replace HU := ck HU hE__; replace HG2 := ck HG2 hE__; replace HG3 := ck HG3 hE__; clear hE__; clear hb__; go_wp2_with fail)
      refine hK.out _ _ ?_ (fun hHeld => ?_)
      focus (exact ⟨HG2.out, HG3.out⟩)
      clear hK K
      try simp only [PT]
      refine wpAnyH_ready (rs := [11]) (by kernel_rfl) (by simp) ?_
      refine (AllReadyH.cons (o := ⟨some 29, _, _, _, _, _⟩) rfl (fun K hK => ?_) AllReadyH.nil)
      focus (go_simp; go_must (refine (refBSame_at S v u HS.out _ (HV.out.below bup) (HU.out.below bup)).mono ?_); intro e wr hr; obtain ⟨rfl, hb__⟩ := hr; have hE__ := cU HB bup hb__; replace HB := ck HB hE__; replace HV := ck HV hE__; replace HU := ck HU hE__; replace HG2 := ck HG2 hE__; replace HG3 := ck HG3 hE__; clear hE__; clear hb__; go_wp2_with fail)
      refine hK.out _ _ ?_ (fun hHeld => ?_)
      focus (exact ⟨HG2.out, HG3.out⟩)
      clear hK K
      try simp only [PT]
      first | (refine tk 12 (oi := ⟨some 30, _, _, _, _, _⟩) (v := undef) rfl (by kernel_rfl) (.inr ⟨by rfl, rfl⟩) hHeld ?_) | (refine tk 12 (oi := ⟨some 30, _, _, _, _, _⟩) (v := ?_) rfl (by kernel_rfl) (.inl ⟨by rfl, ?_⟩) hHeld ?_; rotate_left; focus (intro w hSw; (try dsimp only at hSw); go_simp; try with_reducible rfl))
      simp only [PT]
      refine tk 13 (oi := ⟨some 31, _, _, _, _, _⟩) (v := ?_) rfl (by kernel_rfl) (.inl ⟨by rfl, ?_⟩) hHeld ?_; rotate_left; focus (intro w hSw; (try dsimp only at hSw); go_simp; try with_reducible rfl)
      simp only [PT]
      refine tk 14 (oi := ⟨some 32, _, _, _, _, _⟩) (v := ?_) rfl (by kernel_rfl) (.inl ⟨by rfl, ?_⟩) hHeld ?_; rotate_left; focus (intro w hSw; (try dsimp only at hSw); go_simp; try with_reducible rfl)
      simp only [PT]
      first | (refine tk 15 (oi := ⟨some 33, _, _, _, _, _⟩) (v := undef) rfl (by kernel_rfl) (.inr ⟨by rfl, rfl⟩) hHeld ?_) | (refine' tk 15 (oi := ⟨some 33, _, _, _, _, _⟩) (v := _) rfl (by kernel_rfl) (yieldsIf_load_mid (by rfl) _ _ rfl _ _ rfl (v.cells) _ (fun _ h => range_block h.1) (Try.underlying27) rfl (HBI.out)) hHeld ?_)
      simp only [PT]
      first | (refine tk 16 (oi := ⟨some 34, _, _, _, _, _⟩) (v := undef) rfl (by kernel_rfl) (.inr ⟨by rfl, rfl⟩) hHeld ?_) | (refine' tk 16 (oi := ⟨some 34, _, _, _, _, _⟩) (v := _) rfl (by kernel_rfl) (yieldsIf_load_mid (by rfl) _ _ rfl _ _ rfl (v.cells) _ (fun _ h => range_block h.1) (Try.underlying27) rfl (HBI.out)) hHeld ?_)
      simp only [PT]
      refine wpAnyH_ready (rs := [17]) (by kernel_rfl) (by simp) ?_
      refine (AllReadyH.cons (o := ⟨some 35, _, _, _, _, _⟩) rfl (fun K hK => ?_) AllReadyH.nil)
      focus (go_simp; go_must (refine (blkSame_at true v v (sameP_self _) _ (HV.out.below bup) (HV.out.below bup)).mono ?_); intro e wr hr; obtain ⟨rfl, hb__⟩ := hr; have hE__ := cU HB bup hb__; replace HB := ck HB hE__; replace HV := ck HV hE__; replace HU := ck HU hE__; replace HG2 := ck HG2 hE__; replace HG3 := ck HG3 hE__; clear hE__; clear hb__; go_wp2_with fail)
      refine hK.out _ _ ?_ (fun hHeld => ?_)
      focus (exact ⟨HG2.out, HG3.out⟩)
      clear hK K
      try simp only [PT]
      refine tk 18 (oi := ⟨some 36, _, _, _, _, _⟩) (v := ?_) rfl (by kernel_rfl) (.inl ⟨by rfl, ?_⟩) hHeld ?_; rotate_left; focus (intro w hSw; (try dsimp only at hSw); go_simp; try with_reducible rfl)
      simp only [PT]
      refine tk 19 (oi := ⟨some 4, _, _, _, _, _⟩) (v := ?_) rfl (by kernel_rfl) (.inl ⟨by rfl, ?_⟩) hHeld ?_; rotate_left; focus (intro w hSw; (try dsimp only at hSw); go_simp; try with_reducible rfl)
      simp only [PT]
      refine wpAnyH_done (by kernel_rfl) ?_ _
      all_goals
        go_wp2_with fail
        go_ret
        exact ⟨by simp, HB.out⟩

end Go.Proofs.Ytmfplinbbcoahaa
