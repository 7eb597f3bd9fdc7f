/-
  Joined by program (merge.py): PcLawA.
-/
import Derived.RegionTactic
import Derived.BigRegion
import Derived.Test.YtmfplinbbcoahaaM10
import Derived.Test.YtmfplinbbcoahaaM11
import Derived.Test.YtmfplinbbcoahaaM14
set_option linter.unusedVariables false
set_option linter.unusedSimpArgs false
set_option maxRecDepth 100000
set_option maxHeartbeats 16000000
namespace Go.Proofs.Ytmfplinbbcoahaa
open Go.RowKit Go.Sort
theorem puts27_walk (ad : Option Addr) (n c : Nat) (vs : List BlkV) (w : World) (hv : Blks w ad n c vs) (hw : ∀ v ∈ vs, wfB v.val) :
    Calls Try.prog 10 #[.slice ad n c] w fun e w' => e = .returned (.bool true) ∧ Below w.heap.size w w' := by
  have HB := Hd (Below.refl w.heap.size w)
  have HV := Hd hv
  have hc := hv.le
  have HN := Hd hv.len
  have HW := Hd hw
  obtain ⟨F, hF⟩ : ∃ F, fewC vs = F := ⟨_, rfl⟩
  have HF := Hd hF
  clear hv hw hF
  cases F
  · skip
    go_enter Try.func10, Try.ntmps10
    go_wp2_with (first
 | (go_at_call 28; (refine (pcAwake_any _).mono ?_); intro e wc1 hr; obtain ⟨rfl, hb__⟩ := hr; have hE__ := cU HB bup hb__; replace HB := ck HB hE__; replace HV := ck HV hE__; clear hE__; clear hb__)
 | (go_at_call 29; (with_reducible show Calls _ _ #[Value.slice ad _ _] _ _); (refine (few27_any _ ad n c vs HF.out _ (HV.out.below bup)).mono ?_); intro e wc2 hr; obtain ⟨rfl, hb__⟩ := hr; have hE__ := cU HB bup hb__; replace HB := ck HB hE__; replace HV := ck HV hE__; clear hE__; clear hb__))
    go_ret
    exact ⟨rfl, HB.out⟩
  have hs50 : n ≤ 50 := by have h1 := (fewC_spec HF.out).1; have h2 := HN.out; omega
  have HSM := Hd (fun v hv => ⟨(fewC_spec HF.out).2 v hv, HW.out v hv⟩ : ∀ v ∈ vs, SmB v ∧ wfB v.val)
  have HWA := Hd (wf_all HW.out)
  obtain ⟨R, hR⟩ : ∃ R, rightC (bvals vs) = R := ⟨_, rfl⟩
  have HR := Hd hR
  cases R
  · clear hR
    go_enter Try.func10, Try.ntmps10
    go_wp2_with (first
 | (go_at_call 28; (refine (pcAwake_any _).mono ?_); intro e wc1 hr; obtain ⟨rfl, hb__⟩ := hr; have hE__ := cU HB bup hb__; replace HB := ck HB hE__; replace HV := ck HV hE__; clear hE__; clear hb__)
 | (go_at_call 29; (with_reducible show Calls _ _ #[Value.slice ad _ _] _ _); (refine (few27_any _ ad n c vs HF.out _ (HV.out.below bup)).mono ?_); intro e wc2 hr; obtain ⟨rfl, hb__⟩ := hr; have hE__ := cU HB bup hb__; replace HB := ck HB hE__; replace HV := ck HV hE__; clear hE__; clear hb__)
 | (go_at_call 30; (refine (pcPut_wrong ad n c vs HR.out _ (HV.out.below bup) (by omega) HSM.out).mono ?_); intro e wc3 hr; obtain ⟨rfl, hb__⟩ := hr; have hE__ := cU HB bup hb__; replace HB := ck HB hE__; replace HV := ck HV hE__; clear hE__; clear hb__)
 | (go_at_call 31; (refine (refRightC_at false ad n c vs HR.out _ (HV.out.below bup) (by omega) HSM.out).mono ?_); intro e wc4 hr; obtain ⟨rfl, hb__⟩ := hr; have hE__ := cU HB bup hb__; replace HB := ck HB hE__; replace HV := ck HV hE__; clear hE__; clear hb__)
 | (go_at_call 32; (refine (pcRight_at false ad n c vs HR.out _ (HV.out.below bup) (by omega) HSM.out).mono ?_); intro e wc5 hr; obtain ⟨rfl, hb__⟩ := hr; have hE__ := cU HB bup hb__; replace HB := ck HB hE__; replace HV := ck HV hE__; clear hE__; clear hb__))
    go_ret
    exact ⟨rfl, HB.out⟩
  · obtain ⟨LC, hLC⟩ : ∃ L, L = bytesC noS (bvals vs) := ⟨_, rfl⟩
    obtain ⟨S, hS⟩ : ∃ S, LC.length = S := ⟨_, rfl⟩
    have HLC := Hd hLC
    have HS := Hd hS
    have HA : Hid (allS noS (bvals vs) = true) := Hd (by simp only [rightC, Bool.and_eq_true] at hR; exact hR.1)
    clear hR hLC hS
    go_enter Try.func10, Try.ntmps10
    go_wp2_with (first
 | (go_at_call 28; (refine (pcAwake_any _).mono ?_); intro e wc1 hr; obtain ⟨rfl, hb__⟩ := hr; have hE__ := cU HB bup hb__; replace HB := ck HB hE__; replace HV := ck HV hE__; clear hE__; clear hb__)
 | (go_at_call 29; (with_reducible show Calls _ _ #[Value.slice ad _ _] _ _); (refine (few27_any _ ad n c vs HF.out _ (HV.out.below bup)).mono ?_); intro e wc2 hr; obtain ⟨rfl, hb__⟩ := hr; have hE__ := cU HB bup hb__; replace HB := ck HB hE__; replace HV := ck HV hE__; clear hE__; clear hb__)
 | (go_at_call 30; (refine (pcPut_at LC S ad n c vs HLC.out HS.out HR.out _ (HV.out.below bup) (by omega) HSM.out).mono ?_); intro e wc3 hr; obtain ⟨ad5, c5, rfl, ho__, hb__⟩ := hr; have H5 := Hd (Bs.of_own ho__); clear ho__; have hE__ := cU HB bup hb__; replace HB := ck HB hE__; replace HV := ck HV hE__; clear hE__; clear hb__)
 | (go_at_call 31; (refine (refRightC_at true ad n c vs HR.out _ (HV.out.below bup) (by omega) HSM.out).mono ?_); intro e wc4 hr; obtain ⟨rfl, hb__⟩ := hr; have hE__ := cU HB bup hb__; replace HB := ck HB hE__; replace HV := ck HV hE__; replace H5 := ck H5 hE__; clear hE__; clear hb__))
    refine wp_region_held_drew (S := fun u__ => True) (by kernel_rfl) ?_ (fun hHeld => ?_); (focus (exact trivial)); (refine tk 0 (oi := ⟨some 33, _, _, _, _, _⟩) (v := ?_) rfl (by kernel_rfl) (.inl ⟨by rfl, ?_⟩) hHeld ?_; rotate_left; focus (intro w hSw; (try dsimp only at hSw); go_simp; try with_reducible rfl)); simp only [PT]; refine wpAnyH_ready (rs := [1]) (by kernel_rfl) (by simp) ?_; refine (AllReadyH.cons (o := ⟨some 34, _, _, _, _, _⟩) rfl (fun K hK => ?_) AllReadyH.nil); (focus (go_simp; (refine (pcRight_at true ad n c vs HR.out _ (HV.out.below bup) (by omega) HSM.out).mono ?_); intro e wr hr; obtain ⟨rfl, hb__⟩ := hr; have hE__ := cU HB bup hb__; replace HB := ck HB hE__; replace HV := ck HV hE__; replace H5 := ck H5 hE__; clear hE__; clear hb__; go_wp2_with fail)); refine hK.out _ _ ?_ (fun hHeld => ?_); (focus (exact trivial)); clear hK K; (try simp only [PT]); (refine tk 2 (oi := ⟨some 35, _, _, _, _, _⟩) (v := ?_) rfl (by kernel_rfl) (.inl ⟨by rfl, ?_⟩) hHeld ?_; rotate_left; focus (intro w hSw; (try dsimp only at hSw); go_simp; try with_reducible rfl)); simp only [PT]; (first | (refine tk 3 (oi := ⟨some 36, _, _, _, _, _⟩) (v := undef) rfl (by kernel_rfl) (.inr ⟨by rfl, rfl⟩) hHeld ?_) | (refine tk 3 (oi := ⟨some 36, _, _, _, _, _⟩) (v := ?_) rfl (by kernel_rfl) (.inl ⟨by rfl, ?_⟩) hHeld ?_; rotate_left; focus (intro w hSw; (try dsimp only at hSw); go_simp; try with_reducible rfl))); simp only [PT]; (first | (refine tk 4 (oi := ⟨some 37, _, _, _, _, _⟩) (v := undef) rfl (by kernel_rfl) (.inr ⟨by rfl, rfl⟩) hHeld ?_) | (refine tk 4 (oi := ⟨some 37, _, _, _, _, _⟩) (v := ?_) rfl (by kernel_rfl) (.inl ⟨by rfl, ?_⟩) hHeld ?_; rotate_left; focus (intro w hSw; (try dsimp only at hSw); go_simp; try with_reducible rfl))); simp only [PT]; (refine tk 5 (oi := ⟨some 38, _, _, _, _, _⟩) (v := ?_) rfl (by kernel_rfl) (.inl ⟨by rfl, ?_⟩) hHeld ?_; rotate_left; focus (intro w hSw; (try dsimp only at hSw); go_simp; try with_reducible rfl)); simp only [PT]; (refine tk 6 (oi := ⟨some 39, _, _, _, _, _⟩) (v := ?_) rfl (by kernel_rfl) (.inl ⟨by rfl, ?_⟩) hHeld ?_; rotate_left; focus (intro w hSw; (try dsimp only at hSw); go_simp; try with_reducible rfl)); simp only [PT]; (first | (refine tk 7 (oi := ⟨some 40, _, _, _, _, _⟩) (v := undef) rfl (by kernel_rfl) (.inr ⟨by rfl, rfl⟩) hHeld ?_) | (refine tk 7 (oi := ⟨some 40, _, _, _, _, _⟩) (v := ?_) rfl (by kernel_rfl) (.inl ⟨by rfl, ?_⟩) hHeld ?_; rotate_left; focus (intro w hSw; (try dsimp only at hSw); go_simp; try with_reducible rfl))); simp only [PT]; (first | (refine tk 9 (oi := ⟨some 42, _, _, _, _, _⟩) (v := undef) rfl (by kernel_rfl) (.inr ⟨by rfl, rfl⟩) hHeld ?_) | (refine tk 9 (oi := ⟨some 42, _, _, _, _, _⟩) (v := ?_) rfl (by kernel_rfl) (.inl ⟨by rfl, ?_⟩) hHeld ?_; rotate_left; focus (intro w hSw; (try dsimp only at hSw); go_simp; try with_reducible rfl))); simp only [PT]; refine wpAnyH_ready (rs := [8, 10]) (by kernel_rfl) (by simp) ?_; refine (AllReadyH.cons (o := ⟨some 41, _, _, _, _, _⟩) rfl (fun K hK => ?_) (AllReadyH.cons (o := ⟨some 43, _, _, _, _, _⟩) rfl (fun K hK => ?_) AllReadyH.nil)); ((refine step_str Try.underlying24 Try.underlying5 Try.underlying9 rfl (.tmp 40) rfl rfl (H5.out.below bup) ?_)); refine hK.out _ _ ?_ (fun hHeld => ?_); (focus (exact trivial)); clear hK K; (try simp only [PT]); refine wpAnyH_ready (rs := [10]) (by kernel_rfl) (by simp) ?_; refine (AllReadyH.cons (o := ⟨some 43, _, _, _, _, _⟩) rfl (fun K hK => ?_) AllReadyH.nil); (focus (go_simp; (refine (refBytesC_at LC S ad n c vs HLC.out HS.out _ (HV.out.below bup) (by omega) HSM.out HA.out).mono ?_); intro e wr hr; obtain ⟨ad6, c6, rfl, ho__, hb__⟩ := hr; have hE__ := cU HB bup hb__; replace HB := ck HB hE__; replace HV := ck HV hE__; replace H5 := ck H5 hE__; clear hE__; have H6 := Hd (Bs.of_own ho__); clear hb__ ho__; go_wp2_with fail)); refine hK.out _ _ ?_ (fun hHeld => ?_); (focus (exact trivial)); clear hK K; (try simp only [PT])
    refine wpAnyH_ready (rs := [11]) (by kernel_rfl) (by simp) ?_; refine (AllReadyH.cons (o := ⟨some 44, _, _, _, _, _⟩) rfl (fun K hK => ?_) AllReadyH.nil); ((refine step_str Try.underlying24 Try.underlying5 Try.underlying9 rfl (.tmp 43) rfl rfl (H6.out.below bup) ?_)); refine hK.out _ _ ?_ (fun hHeld => ?_); (focus (exact trivial)); clear hK K; (try simp only [PT]); (first | (refine tk 12 (oi := ⟨some 45, _, _, _, _, _⟩) (v := undef) rfl (by kernel_rfl) (.inr ⟨by rfl, rfl⟩) hHeld ?_) | (refine tk 12 (oi := ⟨some 45, _, _, _, _, _⟩) (v := ?_) rfl (by kernel_rfl) (.inl ⟨by rfl, ?_⟩) hHeld ?_; rotate_left; focus (intro w hSw; (try dsimp only at hSw); go_simp; try with_reducible rfl))); simp only [PT]; (refine tk 13 (oi := ⟨some 46, _, _, _, _, _⟩) (v := ?_) rfl (by kernel_rfl) (.inl ⟨by rfl, ?_⟩) hHeld ?_; rotate_left; focus (intro w hSw; (try dsimp only at hSw); go_simp; try with_reducible rfl)); simp only [PT]; (refine tk 14 (oi := ⟨some 2, _, _, _, _, _⟩) (v := ?_) rfl (by kernel_rfl) (.inl ⟨by rfl, ?_⟩) hHeld ?_; rotate_left; focus (intro w hSw; (try dsimp only at hSw); go_simp; try with_reducible rfl)); simp only [PT]; refine wpAnyH_done (by kernel_rfl) ?_ _; rotate_left; (focus (go_simp; (refine (refBytesC_at LC S ad n c vs HLC.out HS.out _ (HV.out.below bup) (by omega) HSM.out HA.out).mono ?_); intro e wr hr; obtain ⟨ad6, c6, rfl, ho__, hb__⟩ := hr; have hE__ := cU HB bup hb__; replace HB := ck HB hE__; replace HV := ck HV hE__; replace H5 := ck H5 hE__; clear hE__; have H6 := Hd (Bs.of_own ho__); clear hb__ ho__; go_wp2_with fail)); refine hK.out _ _ ?_ (fun hHeld => ?_); (focus (exact trivial)); clear hK K; (try simp only [PT]); refine wpAnyH_ready (rs := [8, 11]) (by kernel_rfl) (by simp) ?_; refine (AllReadyH.cons (o := ⟨some 41, _, _, _, _, _⟩) rfl (fun K hK => ?_) (AllReadyH.cons (o := ⟨some 44, _, _, _, _, _⟩) rfl (fun K hK => ?_) AllReadyH.nil)); ((refine step_str Try.underlying24 Try.underlying5 Try.underlying9 rfl (.tmp 40) rfl rfl (H5.out.below bup) ?_)); refine hK.out _ _ ?_ (fun hHeld => ?_); (focus (exact trivial)); clear hK K; (try simp only [PT]); refine wpAnyH_ready (rs := [11]) (by kernel_rfl) (by simp) ?_; refine (AllReadyH.cons (o := ⟨some 44, _, _, _, _, _⟩) rfl (fun K hK => ?_) AllReadyH.nil); ((refine step_str Try.underlying24 Try.underlying5 Try.underlying9 rfl (.tmp 43) rfl rfl (H6.out.below bup) ?_)); refine hK.out _ _ ?_ (fun hHeld => ?_); (focus (exact trivial)); clear hK K; (try simp only [PT]); (first | (refine tk 12 (oi := ⟨some 45, _, _, _, _, _⟩) (v := undef) rfl (by kernel_rfl) (.inr ⟨by rfl, rfl⟩) hHeld ?_) | (refine tk 12 (oi := ⟨some 45, _, _, _, _, _⟩) (v := ?_) rfl (by kernel_rfl) (.inl ⟨by rfl, ?_⟩) hHeld ?_; rotate_left; focus (intro w hSw; (try dsimp only at hSw); go_simp; try with_reducible rfl))); simp only [PT]; (refine tk 13 (oi := ⟨some 46, _, _, _, _, _⟩) (v := ?_) rfl (by kernel_rfl) (.inl ⟨by rfl, ?_⟩) hHeld ?_; rotate_left; focus (intro w hSw; (try dsimp only at hSw); go_simp; try with_reducible rfl)); simp only [PT]; (refine tk 14 (oi := ⟨some 2, _, _, _, _, _⟩) (v := ?_) rfl (by kernel_rfl) (.inl ⟨by rfl, ?_⟩) hHeld ?_; rotate_left; focus (intro w hSw; (try dsimp only at hSw); go_simp; try with_reducible rfl)); simp only [PT]; refine wpAnyH_done (by kernel_rfl) ?_ _; rotate_left; ((refine step_str Try.underlying24 Try.underlying5 Try.underlying9 rfl (.tmp 43) rfl rfl (H6.out.below bup) ?_)); refine hK.out _ _ ?_ (fun hHeld => ?_); (focus (exact trivial)); clear hK K; (try simp only [PT]); refine wpAnyH_ready (rs := [8]) (by kernel_rfl) (by simp) ?_; refine (AllReadyH.cons (o := ⟨some 41, _, _, _, _, _⟩) rfl (fun K hK => ?_) AllReadyH.nil); ((refine step_str Try.underlying24 Try.underlying5 Try.underlying9 rfl (.tmp 40) rfl rfl (H5.out.below bup) ?_)); refine hK.out _ _ ?_ (fun hHeld => ?_); (focus (exact trivial)); clear hK K; (try simp only [PT])
    (first | (refine tk 12 (oi := ⟨some 45, _, _, _, _, _⟩) (v := undef) rfl (by kernel_rfl) (.inr ⟨by rfl, rfl⟩) hHeld ?_) | (refine tk 12 (oi := ⟨some 45, _, _, _, _, _⟩) (v := ?_) rfl (by kernel_rfl) (.inl ⟨by rfl, ?_⟩) hHeld ?_; rotate_left; focus (intro w hSw; (try dsimp only at hSw); go_simp; try with_reducible rfl))); simp only [PT]; (refine tk 13 (oi := ⟨some 46, _, _, _, _, _⟩) (v := ?_) rfl (by kernel_rfl) (.inl ⟨by rfl, ?_⟩) hHeld ?_; rotate_left; focus (intro w hSw; (try dsimp only at hSw); go_simp; try with_reducible rfl)); simp only [PT]; (refine tk 14 (oi := ⟨some 2, _, _, _, _, _⟩) (v := ?_) rfl (by kernel_rfl) (.inl ⟨by rfl, ?_⟩) hHeld ?_; rotate_left; focus (intro w hSw; (try dsimp only at hSw); go_simp; try with_reducible rfl)); simp only [PT]; refine wpAnyH_done (by kernel_rfl) ?_ _; rotate_left
    all_goals
      go_wp2_with fail
      go_ret
      exact ⟨by simp, HB.out⟩
end Go.Proofs.Ytmfplinbbcoahaa
