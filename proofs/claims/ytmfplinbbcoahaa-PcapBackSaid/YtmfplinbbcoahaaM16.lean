/-
  Joined by program (merge.py): PcLawC.
-/
import Derived.Test.YtmfplinbbcoahaaM10
import Derived.Test.YtmfplinbbcoahaaM11
set_option linter.unusedVariables false
set_option linter.unusedSimpArgs false
set_option maxRecDepth 100000
set_option maxHeartbeats 16000000
namespace Go.Proofs.Ytmfplinbbcoahaa
open Go.RowKit Go.Sort
theorem back27_walk (ad : Option Addr) (n c : Nat) (vs : List BlkV) (adb : Option Addr) (nb cb : Nat) (lb : List UInt8) (w : World) (hv : Blks w ad n c vs) (hw : ∀ v ∈ vs, wfB v.val) (hs : Bs w adb nb cb lb) :
    Calls Try.prog 12 #[.slice ad n c, .slice adb nb cb] w fun e w' => e = .returned (.bool true) ∧ Below w.heap.size w w' := by
  have HB := Hd (Below.refl w.heap.size w)
  have HV := Hd hv
  have hc := hv.le
  have HN := Hd hv.len
  have HW := Hd hw
  obtain ⟨F, hF⟩ : ∃ F, fewC vs = F := ⟨_, rfl⟩
  have HF := Hd hF
  clear hv hw hF
  have HL := Hd hs
  have hlb := hs.len
  have hle := hs.le
  have HSI := Hd spot_size
  clear hs
  cases F
  · skip
    go_enter Try.func12, Try.ntmps12
    go_wp2_with (first
 | (go_at_call 28; (refine (pcAwake_any _).mono ?_); intro e wc1 hr; obtain ⟨rfl, hb__⟩ := hr; have hE__ := cU HB bup hb__; replace HB := ck HB hE__; replace HV := ck HV hE__; replace HL := ck HL hE__; clear hE__; clear hb__)
 | (go_at_call 29; (with_reducible show Calls _ _ #[Value.slice ad _ _] _ _); (refine (few27_any _ ad n c vs HF.out _ (HV.out.below bup)).mono ?_); intro e wc2 hr; obtain ⟨rfl, hb__⟩ := hr; have hE__ := cU HB bup hb__; replace HB := ck HB hE__; replace HV := ck HV hE__; replace HL := ck HL hE__; clear hE__; clear hb__))
    go_ret
    exact ⟨rfl, HB.out⟩
  have hs50 : n ≤ 50 := by have h1 := (fewC_spec HF.out).1; have h2 := HN.out; omega
  have HSM := Hd (fun v hv => ⟨(fewC_spec HF.out).2 v hv, HW.out v hv⟩ : ∀ v ∈ vs, SmB v ∧ wfB v.val)
  have HWA := Hd (wf_all HW.out)
  by_cases hi : 20000 < nb
  · have hi2 : (20000 : Int) < (nb : Int) := by omega
    go_enter Try.func12, Try.ntmps12
    go_wp2_with (first
 | (go_at_call 28; (refine (pcAwake_any _).mono ?_); intro e wc1 hr; obtain ⟨rfl, hb__⟩ := hr; have hE__ := cU HB bup hb__; replace HB := ck HB hE__; replace HV := ck HV hE__; replace HL := ck HL hE__; clear hE__; clear hb__)
 | (go_at_call 29; (with_reducible show Calls _ _ #[Value.slice ad _ _] _ _); (refine (few27_any _ ad n c vs HF.out _ (HV.out.below bup)).mono ?_); intro e wc2 hr; obtain ⟨rfl, hb__⟩ := hr; have hE__ := cU HB bup hb__; replace HB := ck HB hE__; replace HV := ck HV hE__; replace HL := ck HL hE__; clear hE__; clear hb__))
    go_ret
    exact ⟨rfl, HB.out⟩
  have hi2 : ¬ (20000 : Int) < (nb : Int) := by omega
  obtain ⟨P, A, E, hP⟩ : ∃ P A E, readP lb = (P, (A, E)) := ⟨_, _, _, rfl⟩
  obtain ⟨M, hM⟩ : ∃ M, P.length = M := ⟨_, rfl⟩
  have HP := Hd hP
  have HM := Hd hM
  have hri := readP_right lb 20016 (by omega) (by omega)
  have hno := readP_none lb
  rw [hP] at hri hno
  simp only at hri hno
  have hMn : M ≤ 20000 := by have := hri.2.2; omega
  have HPA := Hd hri.1
  have HPS := Hd hri.2.1
  have HNO := Hd hno
  obtain ⟨R, hR⟩ : ∃ R, rightC (bvals vs) = R := ⟨_, rfl⟩
  have HR := Hd hR
  clear hP hlb hri hno
  cases R
  · clear hR
    by_cases hM0 : M = 0
    · subst hM0
      obtain ⟨hA0, hE0⟩ := HNO.out (List.length_eq_zero_iff.1 HM.out)
      subst hA0
      clear hM
      go_enter Try.func12, Try.ntmps12
      go_wp2_with (first
 | (go_at_call 28; (refine (pcAwake_any _).mono ?_); intro e wc1 hr; obtain ⟨rfl, hb__⟩ := hr; have hE__ := cU HB bup hb__; replace HB := ck HB hE__; replace HV := ck HV hE__; replace HL := ck HL hE__; clear hE__; clear hb__)
 | (go_at_call 29; (with_reducible show Calls _ _ #[Value.slice ad _ _] _ _); (refine (few27_any _ ad n c vs HF.out _ (HV.out.below bup)).mono ?_); intro e wc2 hr; obtain ⟨rfl, hb__⟩ := hr; have hE__ := cU HB bup hb__; replace HB := ck HB hE__; replace HV := ck HV hE__; replace HL := ck HL hE__; clear hE__; clear hb__)
 | (go_at_call 30; (with_reducible show Calls _ _ #[Value.slice ad _ _] _ _); (refine (pcPut_wrong ad n c vs HR.out _ (HV.out.below bup) (by omega) HSM.out).mono ?_); intro e wc3 hr; obtain ⟨rfl, hb__⟩ := hr; have hE__ := cU HB bup hb__; replace HB := ck HB hE__; replace HV := ck HV hE__; replace HL := ck HL hE__; clear hE__; clear hb__)
 | (go_at_call 34; (with_reducible show Calls _ _ #[Value.slice adb _ _] _ _); (refine (pcRead_at P 0 E 0 adb nb cb lb HP.out HM.out _ (HL.out.below bup) (by omega)).mono ?_); intro e wc4 hr; obtain ⟨ad3, c3, vs3, rfl, hv3, hl3, ho__, hb__⟩ := hr; have HX3 := Hd (show Blks _ ad3 0 c3 vs3 from hl3 ▸ ho__.blks); have HV3 := Hd hv3; clear ho__ hv3 hl3; have hE__ := cU HB bup hb__; replace HB := ck HB hE__; replace HV := ck HV hE__; replace HL := ck HL hE__; clear hE__; clear hb__)
 | ((with_reducible refine sl 10 ?_); (refine wpL_allocG rfl 49 rfl (.agg (spotC (0, 0)).toArray) (spotC (0, 0)).toArray 2 (by kernel_rfl) rfl ?_); intro ws10 g10 he__ le_g10 lt_g10 hg__ hb__; have HG10 := Hd hg__; have HE10 := Hd hb__; clear hg__ hb__ he__; simp only [PT])
 | ((with_reducible show wpList _ _ _ (⟨none, .store _ (.tmp 10) (.tmp 58), _, _, _, _⟩ :: _) _ _); (refine wpL_storeRow rfl 49 (.tmp 10) (.tmp 58) rfl g10 (spotC (0, E)).toArray rfl rfl HG10.out HSI.out rfl (spot_one _) ?_); intro wt10 hs__ hr__; (have hb__ := HE10.out.grown hr__ HE10.out.size (fun k e => (by cases e; exact le_g10))); (have hE__ := cU HB bup hb__; replace HB := ck HB hE__; replace HV := ck HV hE__; replace HL := ck HL hE__; replace HX3 := ck HX3 hE__; clear hE__); clear HG10 HE10; have HG10 := Hd hs__; clear hs__ hr__ hb__; simp only [PT])
 | ((with_reducible refine sl 62 ?_); (refine wpL_load rfl 49 (.tmp 10) rfl g10 0 rfl (spotC (0, E)) _ (range_block HG10.out) Try.underlying49 rfl HSI.out ?_); simp only [PT])
 | ((with_reducible refine sl 64 ?_); (refine wpL_neS (0, E) (0, 0) true (by simp [hE0]) rfl (.tmp 62) (.tmp 63) rfl rfl rfl ?_); simp only [PT])
 | ((with_reducible refine sl 67 ?_); (refine wpL_loadF rfl 3 (.tmp 66) rfl g10 0 rfl (.int .i64 0) HG10.out rfl Try.underlying3 rfl ?_); simp only [PT]))
      go_ret
      exact ⟨rfl, HB.out⟩
    obtain ⟨LP, hLP⟩ : ∃ L, L = bytesC noS P := ⟨_, rfl⟩
    obtain ⟨SP, hSP⟩ : ∃ S, LP.length = S := ⟨_, rfl⟩
    have HLP := Hd hLP
    have HSP := Hd hSP
    have HRP : Hid (rightC P = true) := Hd (by unfold rightC; rw [HPA.out, Bool.true_and, decide_eq_true_eq]; omega)
    have hSPn : SP ≤ 500000000 := by
      have h := bytesM_le 20016 noS P (fun x hx => (HPS.out x hx).2.2)
      rw [← hLP, hSP] at h
      have : 20016 * P.length ≤ 20016 * 20000 := Nat.mul_le_mul_left _ (by omega)
      omega
    clear hLP hSP hM
    go_enter Try.func12, Try.ntmps12
    go_wp2_with (first
 | (go_at_call 28; (refine (pcAwake_any _).mono ?_); intro e wc1 hr; obtain ⟨rfl, hb__⟩ := hr; have hE__ := cU HB bup hb__; replace HB := ck HB hE__; replace HV := ck HV hE__; replace HL := ck HL hE__; clear hE__; clear hb__)
 | (go_at_call 29; (with_reducible show Calls _ _ #[Value.slice ad _ _] _ _); (refine (few27_any _ ad n c vs HF.out _ (HV.out.below bup)).mono ?_); intro e wc2 hr; obtain ⟨rfl, hb__⟩ := hr; have hE__ := cU HB bup hb__; replace HB := ck HB hE__; replace HV := ck HV hE__; replace HL := ck HL hE__; clear hE__; clear hb__)
 | (go_at_call 30; (with_reducible show Calls _ _ #[Value.slice ad _ _] _ _); (refine (pcPut_wrong ad n c vs HR.out _ (HV.out.below bup) (by omega) HSM.out).mono ?_); intro e wc3 hr; obtain ⟨rfl, hb__⟩ := hr; have hE__ := cU HB bup hb__; replace HB := ck HB hE__; replace HV := ck HV hE__; replace HL := ck HL hE__; clear hE__; clear hb__)
 | (go_at_call 34; (with_reducible show Calls _ _ #[Value.slice adb _ _] _ _); (refine (pcRead_at P A E M adb nb cb lb HP.out HM.out _ (HL.out.below bup) (by omega)).mono ?_); intro e wc4 hr; obtain ⟨ad3, c3, vs3, rfl, hv3, hl3, ho__, hb__⟩ := hr; have HX3 := Hd (show Blks _ ad3 M c3 vs3 from hl3 ▸ ho__.blks); have HV3 := Hd hv3; clear ho__ hv3 hl3; have hE__ := cU HB bup hb__; replace HB := ck HB hE__; replace HV := ck HV hE__; replace HL := ck HL hE__; clear hE__; clear hb__)
 | ((with_reducible refine sl 10 ?_); (refine wpL_allocG rfl 49 rfl (.agg (spotC (0, 0)).toArray) (spotC (0, 0)).toArray 2 (by kernel_rfl) rfl ?_); intro ws10 g10 he__ le_g10 lt_g10 hg__ hb__; have HG10 := Hd hg__; have HE10 := Hd hb__; clear hg__ hb__ he__; simp only [PT])
 | ((with_reducible show wpList _ _ _ (⟨none, .store _ (.tmp 10) (.tmp 58), _, _, _, _⟩ :: _) _ _); (refine wpL_storeRow rfl 49 (.tmp 10) (.tmp 58) rfl g10 (spotC (A, E)).toArray rfl rfl HG10.out HSI.out rfl (spot_one _) ?_); intro wt10 hs__ hr__; (have hb__ := HE10.out.grown hr__ HE10.out.size (fun k e => (by cases e; exact le_g10))); (have hE__ := cU HB bup hb__; replace HB := ck HB hE__; replace HV := ck HV hE__; replace HL := ck HL hE__; replace HX3 := ck HX3 hE__; clear hE__); clear HG10 HE10; have HG10 := Hd hs__; clear hs__ hr__ hb__; simp only [PT])
 | (go_at_call 30; (with_reducible show Calls _ _ #[Value.slice ad3 _ _] _ _); (refine (pcPut_at LP SP ad3 M c3 vs3 (by rw [HV3.out]; exact HLP.out) HSP.out (by rw [HV3.out]; exact HRP.out) _ (HX3.out.below bup) (by omega) (read_small HX3.out HV3.out HPS.out)).mono ?_); intro e wc5 hr; obtain ⟨ad4, c4, rfl, ho__, hb__⟩ := hr; have H4 := Hd (Bs.of_own ho__); clear ho__; have hE__ := cU HB bup hb__; replace HB := ck HB hE__; replace HV := ck HV hE__; replace HL := ck HL hE__; replace HX3 := ck HX3 hE__; replace HG10 := ck HG10 hE__; clear hE__; clear hb__)
 | (go_at_call 34; (with_reducible show Calls _ _ #[Value.slice ad4 _ _] _ _); (refine (pcRead_at P 0 0 M ad4 SP c4 LP (by rw [HLP.out]; exact readP_back P HRP.out (fun x hx => (HPS.out x hx).1)) HM.out _ (H4.out.below bup) (by omega)).mono ?_); intro e wc6 hr; obtain ⟨ad5, c5, vs5, rfl, hv5, hl5, ho__, hb__⟩ := hr; have HX5 := Hd (show Blks _ ad5 M c5 vs5 from hl5 ▸ ho__.blks); have HV5 := Hd hv5; clear ho__ hv5 hl5; have hE__ := cU HB bup hb__; replace HB := ck HB hE__; replace HV := ck HV hE__; replace HL := ck HL hE__; replace HX3 := ck HX3 hE__; replace HG10 := ck HG10 hE__; replace H4 := ck H4 hE__; clear hE__; clear hb__)
 | ((with_reducible refine sl 14 ?_); (refine wpL_allocG rfl 49 rfl (.agg (spotC (0, 0)).toArray) (spotC (0, 0)).toArray 2 (by kernel_rfl) rfl ?_); intro ws14 g14 he__ le_g14 lt_g14 hg__ hb__; have HG14 := Hd hg__; have HE14 := Hd hb__; clear hg__ hb__ he__; simp only [PT])
 | ((with_reducible show wpList _ _ _ (⟨none, .store _ (.tmp 14) (.tmp 79), _, _, _, _⟩ :: _) _ _); (refine wpL_storeRow rfl 49 (.tmp 14) (.tmp 79) rfl g14 (spotC (0, 0)).toArray rfl rfl HG14.out HSI.out rfl (spot_one _) ?_); intro wt14 hs__ hr__; (have hb__ := HE14.out.grown hr__ HE14.out.size (fun k e => (by cases e; exact le_g14))); (have hE__ := cU HB bup hb__; replace HB := ck HB hE__; replace HV := ck HV hE__; replace HL := ck HL hE__; replace HX3 := ck HX3 hE__; replace HG10 := ck HG10 hE__; replace H4 := ck H4 hE__; replace HX5 := ck HX5 hE__; clear hE__); clear HG14 HE14; have HG14 := Hd hs__; clear hs__ hr__ hb__; simp only [PT])
 | (go_at_call 32; (with_reducible show Calls _ _ #[Value.slice ad3 _ _] _ _); (refine (pcRight_at true ad3 M c3 vs3 (by rw [HV3.out]; exact HRP.out) _ (HX3.out.below bup) (by omega) (read_small HX3.out HV3.out HPS.out)).mono ?_); intro e wc7 hr; obtain ⟨rfl, hb__⟩ := hr; have hE__ := cU HB bup hb__; replace HB := ck HB hE__; replace HV := ck HV hE__; replace HL := ck HL hE__; replace HX3 := ck HX3 hE__; replace HG10 := ck HG10 hE__; replace H4 := ck H4 hE__; replace HX5 := ck HX5 hE__; replace HG14 := ck HG14 hE__; clear hE__; clear hb__)
 | ((with_reducible refine sl 87 ?_); (refine wpL_load rfl 49 (.tmp 14) rfl g14 0 rfl (spotC (0, 0)) _ (range_block HG14.out) Try.underlying49 rfl HSI.out ?_); simp only [PT])
 | ((with_reducible refine sl 89 ?_); (refine wpL_eqS (0, 0) (0, 0) true (by simp) rfl (.tmp 87) (.tmp 88) rfl rfl rfl ?_); simp only [PT])
 | (go_at_call 36; (with_reducible show Calls _ _ #[Value.slice ad3 _ _, _] _ _); (refine (refSameC_true ad3 M c3 vs3 ad5 M c5 vs5 (by rw [HV3.out, HV5.out]) _ (HX3.out.below bup) (HX5.out.below bup) (by omega)).mono ?_); intro e wc8 hr; obtain ⟨rfl, hb__⟩ := hr; have hE__ := cU HB bup hb__; replace HB := ck HB hE__; replace HV := ck HV hE__; replace HL := ck HL hE__; replace HX3 := ck HX3 hE__; replace HG10 := ck HG10 hE__; replace H4 := ck H4 hE__; replace HX5 := ck HX5 hE__; replace HG14 := ck HG14 hE__; clear hE__; clear hb__))
    go_ret
    exact ⟨rfl, HB.out⟩
  obtain ⟨LC, hLC⟩ : ∃ L, L = bytesC noS (bvals vs) := ⟨_, rfl⟩
  obtain ⟨S, hS⟩ : ∃ S, LC.length = S := ⟨_, rfl⟩
  have hSn : S ≤ 52428800 := by rw [← hS, hLC]; exact bytes_small hR (by rw [bvals_length]; have := HN.out; omega)
  have HLC := Hd hLC
  have HS := Hd hS
  have HBL : Hid ((bvals vs).length = n) := Hd (by rw [bvals_length]; exact HN.out.symm)
  clear hR hLC hS
  by_cases hM0 : M = 0
  · subst hM0
    obtain ⟨hA0, hE0⟩ := HNO.out (List.length_eq_zero_iff.1 HM.out)
    subst hA0
    clear hM
    go_enter Try.func12, Try.ntmps12
    go_wp2_with (first
 | (go_at_call 28; (refine (pcAwake_any _).mono ?_); intro e wc1 hr; obtain ⟨rfl, hb__⟩ := hr; have hE__ := cU HB bup hb__; replace HB := ck HB hE__; replace HV := ck HV hE__; replace HL := ck HL hE__; clear hE__; clear hb__)
 | (go_at_call 29; (with_reducible show Calls _ _ #[Value.slice ad _ _] _ _); (refine (few27_any _ ad n c vs HF.out _ (HV.out.below bup)).mono ?_); intro e wc2 hr; obtain ⟨rfl, hb__⟩ := hr; have hE__ := cU HB bup hb__; replace HB := ck HB hE__; replace HV := ck HV hE__; replace HL := ck HL hE__; clear hE__; clear hb__)
 | (go_at_call 30; (with_reducible show Calls _ _ #[Value.slice ad _ _] _ _); (refine (pcPut_at LC S ad n c vs HLC.out HS.out HR.out _ (HV.out.below bup) (by omega) HSM.out).mono ?_); intro e wc3 hr; obtain ⟨ad1, c1, rfl, ho__, hb__⟩ := hr; have H1 := Hd (Bs.of_own ho__); clear ho__; have hE__ := cU HB bup hb__; replace HB := ck HB hE__; replace HV := ck HV hE__; replace HL := ck HL hE__; clear hE__; clear hb__)
 | (go_at_call 34; (with_reducible show Calls _ _ #[Value.slice ad1 _ _] _ _); (refine (pcRead_at (bvals vs) 0 0 n ad1 S c1 LC (by rw [HLC.out]; exact readP_back _ HR.out HWA.out) HBL.out _ (H1.out.below bup) (by omega)).mono ?_); intro e wc4 hr; obtain ⟨ad2, c2, vs2, rfl, hv2, hl2, ho__, hb__⟩ := hr; have HX2 := Hd (show Blks _ ad2 n c2 vs2 from hl2 ▸ ho__.blks); have HV2 := Hd hv2; clear ho__ hv2 hl2; have hE__ := cU HB bup hb__; replace HB := ck HB hE__; replace HV := ck HV hE__; replace HL := ck HL hE__; clear hE__; clear hb__)
 | ((with_reducible refine sl 8 ?_); (refine wpL_allocG rfl 49 rfl (.agg (spotC (0, 0)).toArray) (spotC (0, 0)).toArray 2 (by kernel_rfl) rfl ?_); intro ws8 g8 he__ le_g8 lt_g8 hg__ hb__; have HG8 := Hd hg__; have HE8 := Hd hb__; clear hg__ hb__ he__; simp only [PT])
 | ((with_reducible show wpList _ _ _ (⟨none, .store _ (.tmp 8) (.tmp 39), _, _, _, _⟩ :: _) _ _); (refine wpL_storeRow rfl 49 (.tmp 8) (.tmp 39) rfl g8 (spotC (0, 0)).toArray rfl rfl HG8.out HSI.out rfl (spot_one _) ?_); intro wt8 hs__ hr__; (have hb__ := HE8.out.grown hr__ HE8.out.size (fun k e => (by cases e; exact le_g8))); (have hE__ := cU HB bup hb__; replace HB := ck HB hE__; replace HV := ck HV hE__; replace HL := ck HL hE__; replace HX2 := ck HX2 hE__; clear hE__); clear HG8 HE8; have HG8 := Hd hs__; clear hs__ hr__ hb__; simp only [PT])
 | ((with_reducible refine sl 40 ?_); (refine wpL_load rfl 49 (.tmp 8) rfl g8 0 rfl (spotC (0, 0)) _ (range_block HG8.out) Try.underlying49 rfl HSI.out ?_); simp only [PT])
 | ((with_reducible refine sl 42 ?_); (refine wpL_neS (0, 0) (0, 0) false (by simp) rfl (.tmp 40) (.tmp 41) rfl rfl rfl ?_); simp only [PT])
 | (go_at_call 36; (with_reducible show Calls _ _ #[Value.slice ad2 _ _, _] _ _); (refine (refSameC_true ad2 n c2 vs2 ad n c vs HV2.out _ (HX2.out.below bup) (HV.out.below bup) (by omega)).mono ?_); intro e wc5 hr; obtain ⟨rfl, hb__⟩ := hr; have hE__ := cU HB bup hb__; replace HB := ck HB hE__; replace HV := ck HV hE__; replace HL := ck HL hE__; replace HX2 := ck HX2 hE__; replace HG8 := ck HG8 hE__; clear hE__; clear hb__)
 | (go_at_call 32; (with_reducible show Calls _ _ #[Value.slice ad2 _ _] _ _); (refine (pcRight_at true ad2 n c2 vs2 (by rw [HV2.out]; exact HR.out) _ (HX2.out.below bup) (by omega) (short_of HV.out.2 HX2.out.2 HV2.out HSM.out)).mono ?_); intro e wc6 hr; obtain ⟨rfl, hb__⟩ := hr; have hE__ := cU HB bup hb__; replace HB := ck HB hE__; replace HV := ck HV hE__; replace HL := ck HL hE__; replace HX2 := ck HX2 hE__; replace HG8 := ck HG8 hE__; clear hE__; clear hb__)
 | (go_at_call 34; (with_reducible show Calls _ _ #[Value.slice adb _ _] _ _); (refine (pcRead_at P 0 E 0 adb nb cb lb HP.out HM.out _ (HL.out.below bup) (by omega)).mono ?_); intro e wc7 hr; obtain ⟨ad3, c3, vs3, rfl, hv3, hl3, ho__, hb__⟩ := hr; have HX3 := Hd (show Blks _ ad3 0 c3 vs3 from hl3 ▸ ho__.blks); have HV3 := Hd hv3; clear ho__ hv3 hl3; have hE__ := cU HB bup hb__; replace HB := ck HB hE__; replace HV := ck HV hE__; replace HL := ck HL hE__; replace HX2 := ck HX2 hE__; replace HG8 := ck HG8 hE__; clear hE__; clear hb__)
 | ((with_reducible refine sl 10 ?_); (refine wpL_allocG rfl 49 rfl (.agg (spotC (0, 0)).toArray) (spotC (0, 0)).toArray 2 (by kernel_rfl) rfl ?_); intro ws10 g10 he__ le_g10 lt_g10 hg__ hb__; have HG10 := Hd hg__; have HE10 := Hd hb__; clear hg__ hb__ he__; simp only [PT])
 | ((with_reducible show wpList _ _ _ (⟨none, .store _ (.tmp 10) (.tmp 58), _, _, _, _⟩ :: _) _ _); (refine wpL_storeRow rfl 49 (.tmp 10) (.tmp 58) rfl g10 (spotC (0, E)).toArray rfl rfl HG10.out HSI.out rfl (spot_one _) ?_); intro wt10 hs__ hr__; (have hb__ := HE10.out.grown hr__ HE10.out.size (fun k e => (by cases e; exact le_g10))); (have hE__ := cU HB bup hb__; replace HB := ck HB hE__; replace HV := ck HV hE__; replace HL := ck HL hE__; replace HX2 := ck HX2 hE__; replace HG8 := ck HG8 hE__; replace HX3 := ck HX3 hE__; clear hE__); clear HG10 HE10; have HG10 := Hd hs__; clear hs__ hr__ hb__; simp only [PT])
 | ((with_reducible refine sl 62 ?_); (refine wpL_load rfl 49 (.tmp 10) rfl g10 0 rfl (spotC (0, E)) _ (range_block HG10.out) Try.underlying49 rfl HSI.out ?_); simp only [PT])
 | ((with_reducible refine sl 64 ?_); (refine wpL_neS (0, E) (0, 0) true (by simp [hE0]) rfl (.tmp 62) (.tmp 63) rfl rfl rfl ?_); simp only [PT])
 | ((with_reducible refine sl 67 ?_); (refine wpL_loadF rfl 3 (.tmp 66) rfl g10 0 rfl (.int .i64 0) HG10.out rfl Try.underlying3 rfl ?_); simp only [PT]))
    go_ret
    exact ⟨rfl, HB.out⟩
  obtain ⟨LP, hLP⟩ : ∃ L, L = bytesC noS P := ⟨_, rfl⟩
  obtain ⟨SP, hSP⟩ : ∃ S, LP.length = S := ⟨_, rfl⟩
  have HLP := Hd hLP
  have HSP := Hd hSP
  have HRP : Hid (rightC P = true) := Hd (by unfold rightC; rw [HPA.out, Bool.true_and, decide_eq_true_eq]; omega)
  have hSPn : SP ≤ 500000000 := by
    have h := bytesM_le 20016 noS P (fun x hx => (HPS.out x hx).2.2)
    rw [← hLP, hSP] at h
    have : 20016 * P.length ≤ 20016 * 20000 := Nat.mul_le_mul_left _ (by omega)
    omega
  clear hLP hSP hM
  go_enter Try.func12, Try.ntmps12
  go_wp2_with (first
 | (go_at_call 28; (refine (pcAwake_any _).mono ?_); intro e wc1 hr; obtain ⟨rfl, hb__⟩ := hr; have hE__ := cU HB bup hb__; replace HB := ck HB hE__; replace HV := ck HV hE__; replace HL := ck HL hE__; clear hE__; clear hb__)
 | (go_at_call 29; (with_reducible show Calls _ _ #[Value.slice ad _ _] _ _); (refine (few27_any _ ad n c vs HF.out _ (HV.out.below bup)).mono ?_); intro e wc2 hr; obtain ⟨rfl, hb__⟩ := hr; have hE__ := cU HB bup hb__; replace HB := ck HB hE__; replace HV := ck HV hE__; replace HL := ck HL hE__; clear hE__; clear hb__)
 | (go_at_call 30; (with_reducible show Calls _ _ #[Value.slice ad _ _] _ _); (refine (pcPut_at LC S ad n c vs HLC.out HS.out HR.out _ (HV.out.below bup) (by omega) HSM.out).mono ?_); intro e wc3 hr; obtain ⟨ad1, c1, rfl, ho__, hb__⟩ := hr; have H1 := Hd (Bs.of_own ho__); clear ho__; have hE__ := cU HB bup hb__; replace HB := ck HB hE__; replace HV := ck HV hE__; replace HL := ck HL hE__; clear hE__; clear hb__)
 | (go_at_call 34; (with_reducible show Calls _ _ #[Value.slice ad1 _ _] _ _); (refine (pcRead_at (bvals vs) 0 0 n ad1 S c1 LC (by rw [HLC.out]; exact readP_back _ HR.out HWA.out) HBL.out _ (H1.out.below bup) (by omega)).mono ?_); intro e wc4 hr; obtain ⟨ad2, c2, vs2, rfl, hv2, hl2, ho__, hb__⟩ := hr; have HX2 := Hd (show Blks _ ad2 n c2 vs2 from hl2 ▸ ho__.blks); have HV2 := Hd hv2; clear ho__ hv2 hl2; have hE__ := cU HB bup hb__; replace HB := ck HB hE__; replace HV := ck HV hE__; replace HL := ck HL hE__; clear hE__; clear hb__)
 | ((with_reducible refine sl 8 ?_); (refine wpL_allocG rfl 49 rfl (.agg (spotC (0, 0)).toArray) (spotC (0, 0)).toArray 2 (by kernel_rfl) rfl ?_); intro ws8 g8 he__ le_g8 lt_g8 hg__ hb__; have HG8 := Hd hg__; have HE8 := Hd hb__; clear hg__ hb__ he__; simp only [PT])
 | ((with_reducible show wpList _ _ _ (⟨none, .store _ (.tmp 8) (.tmp 39), _, _, _, _⟩ :: _) _ _); (refine wpL_storeRow rfl 49 (.tmp 8) (.tmp 39) rfl g8 (spotC (0, 0)).toArray rfl rfl HG8.out HSI.out rfl (spot_one _) ?_); intro wt8 hs__ hr__; (have hb__ := HE8.out.grown hr__ HE8.out.size (fun k e => (by cases e; exact le_g8))); (have hE__ := cU HB bup hb__; replace HB := ck HB hE__; replace HV := ck HV hE__; replace HL := ck HL hE__; replace HX2 := ck HX2 hE__; clear hE__); clear HG8 HE8; have HG8 := Hd hs__; clear hs__ hr__ hb__; simp only [PT])
 | ((with_reducible refine sl 40 ?_); (refine wpL_load rfl 49 (.tmp 8) rfl g8 0 rfl (spotC (0, 0)) _ (range_block HG8.out) Try.underlying49 rfl HSI.out ?_); simp only [PT])
 | ((with_reducible refine sl 42 ?_); (refine wpL_neS (0, 0) (0, 0) false (by simp) rfl (.tmp 40) (.tmp 41) rfl rfl rfl ?_); simp only [PT])
 | (go_at_call 36; (with_reducible show Calls _ _ #[Value.slice ad2 _ _, _] _ _); (refine (refSameC_true ad2 n c2 vs2 ad n c vs HV2.out _ (HX2.out.below bup) (HV.out.below bup) (by omega)).mono ?_); intro e wc5 hr; obtain ⟨rfl, hb__⟩ := hr; have hE__ := cU HB bup hb__; replace HB := ck HB hE__; replace HV := ck HV hE__; replace HL := ck HL hE__; replace HX2 := ck HX2 hE__; replace HG8 := ck HG8 hE__; clear hE__; clear hb__)
 | (go_at_call 32; (with_reducible show Calls _ _ #[Value.slice ad2 _ _] _ _); (refine (pcRight_at true ad2 n c2 vs2 (by rw [HV2.out]; exact HR.out) _ (HX2.out.below bup) (by omega) (short_of HV.out.2 HX2.out.2 HV2.out HSM.out)).mono ?_); intro e wc6 hr; obtain ⟨rfl, hb__⟩ := hr; have hE__ := cU HB bup hb__; replace HB := ck HB hE__; replace HV := ck HV hE__; replace HL := ck HL hE__; replace HX2 := ck HX2 hE__; replace HG8 := ck HG8 hE__; clear hE__; clear hb__)
 | (go_at_call 34; (with_reducible show Calls _ _ #[Value.slice adb _ _] _ _); (refine (pcRead_at P A E M adb nb cb lb HP.out HM.out _ (HL.out.below bup) (by omega)).mono ?_); intro e wc7 hr; obtain ⟨ad3, c3, vs3, rfl, hv3, hl3, ho__, hb__⟩ := hr; have HX3 := Hd (show Blks _ ad3 M c3 vs3 from hl3 ▸ ho__.blks); have HV3 := Hd hv3; clear ho__ hv3 hl3; have hE__ := cU HB bup hb__; replace HB := ck HB hE__; replace HV := ck HV hE__; replace HL := ck HL hE__; replace HX2 := ck HX2 hE__; replace HG8 := ck HG8 hE__; clear hE__; clear hb__)
 | ((with_reducible refine sl 10 ?_); (refine wpL_allocG rfl 49 rfl (.agg (spotC (0, 0)).toArray) (spotC (0, 0)).toArray 2 (by kernel_rfl) rfl ?_); intro ws10 g10 he__ le_g10 lt_g10 hg__ hb__; have HG10 := Hd hg__; have HE10 := Hd hb__; clear hg__ hb__ he__; simp only [PT])
 | ((with_reducible show wpList _ _ _ (⟨none, .store _ (.tmp 10) (.tmp 58), _, _, _, _⟩ :: _) _ _); (refine wpL_storeRow rfl 49 (.tmp 10) (.tmp 58) rfl g10 (spotC (A, E)).toArray rfl rfl HG10.out HSI.out rfl (spot_one _) ?_); intro wt10 hs__ hr__; (have hb__ := HE10.out.grown hr__ HE10.out.size (fun k e => (by cases e; exact le_g10))); (have hE__ := cU HB bup hb__; replace HB := ck HB hE__; replace HV := ck HV hE__; replace HL := ck HL hE__; replace HX2 := ck HX2 hE__; replace HG8 := ck HG8 hE__; replace HX3 := ck HX3 hE__; clear hE__); clear HG10 HE10; have HG10 := Hd hs__; clear hs__ hr__ hb__; simp only [PT])
 | (go_at_call 30; (with_reducible show Calls _ _ #[Value.slice ad3 _ _] _ _); (refine (pcPut_at LP SP ad3 M c3 vs3 (by rw [HV3.out]; exact HLP.out) HSP.out (by rw [HV3.out]; exact HRP.out) _ (HX3.out.below bup) (by omega) (read_small HX3.out HV3.out HPS.out)).mono ?_); intro e wc8 hr; obtain ⟨ad4, c4, rfl, ho__, hb__⟩ := hr; have H4 := Hd (Bs.of_own ho__); clear ho__; have hE__ := cU HB bup hb__; replace HB := ck HB hE__; replace HV := ck HV hE__; replace HL := ck HL hE__; replace HX2 := ck HX2 hE__; replace HG8 := ck HG8 hE__; replace HX3 := ck HX3 hE__; replace HG10 := ck HG10 hE__; clear hE__; clear hb__)
 | (go_at_call 34; (with_reducible show Calls _ _ #[Value.slice ad4 _ _] _ _); (refine (pcRead_at P 0 0 M ad4 SP c4 LP (by rw [HLP.out]; exact readP_back P HRP.out (fun x hx => (HPS.out x hx).1)) HM.out _ (H4.out.below bup) (by omega)).mono ?_); intro e wc9 hr; obtain ⟨ad5, c5, vs5, rfl, hv5, hl5, ho__, hb__⟩ := hr; have HX5 := Hd (show Blks _ ad5 M c5 vs5 from hl5 ▸ ho__.blks); have HV5 := Hd hv5; clear ho__ hv5 hl5; have hE__ := cU HB bup hb__; replace HB := ck HB hE__; replace HV := ck HV hE__; replace HL := ck HL hE__; replace HX2 := ck HX2 hE__; replace HG8 := ck HG8 hE__; replace HX3 := ck HX3 hE__; replace HG10 := ck HG10 hE__; replace H4 := ck H4 hE__; clear hE__; clear hb__)
 | ((with_reducible refine sl 14 ?_); (refine wpL_allocG rfl 49 rfl (.agg (spotC (0, 0)).toArray) (spotC (0, 0)).toArray 2 (by kernel_rfl) rfl ?_); intro ws14 g14 he__ le_g14 lt_g14 hg__ hb__; have HG14 := Hd hg__; have HE14 := Hd hb__; clear hg__ hb__ he__; simp only [PT])
 | ((with_reducible show wpList _ _ _ (⟨none, .store _ (.tmp 14) (.tmp 79), _, _, _, _⟩ :: _) _ _); (refine wpL_storeRow rfl 49 (.tmp 14) (.tmp 79) rfl g14 (spotC (0, 0)).toArray rfl rfl HG14.out HSI.out rfl (spot_one _) ?_); intro wt14 hs__ hr__; (have hb__ := HE14.out.grown hr__ HE14.out.size (fun k e => (by cases e; exact le_g14))); (have hE__ := cU HB bup hb__; replace HB := ck HB hE__; replace HV := ck HV hE__; replace HL := ck HL hE__; replace HX2 := ck HX2 hE__; replace HG8 := ck HG8 hE__; replace HX3 := ck HX3 hE__; replace HG10 := ck HG10 hE__; replace H4 := ck H4 hE__; replace HX5 := ck HX5 hE__; clear hE__); clear HG14 HE14; have HG14 := Hd hs__; clear hs__ hr__ hb__; simp only [PT])
 | (go_at_call 32; (with_reducible show Calls _ _ #[Value.slice ad3 _ _] _ _); (refine (pcRight_at true ad3 M c3 vs3 (by rw [HV3.out]; exact HRP.out) _ (HX3.out.below bup) (by omega) (read_small HX3.out HV3.out HPS.out)).mono ?_); intro e wc10 hr; obtain ⟨rfl, hb__⟩ := hr; have hE__ := cU HB bup hb__; replace HB := ck HB hE__; replace HV := ck HV hE__; replace HL := ck HL hE__; replace HX2 := ck HX2 hE__; replace HG8 := ck HG8 hE__; replace HX3 := ck HX3 hE__; replace HG10 := ck HG10 hE__; replace H4 := ck H4 hE__; replace HX5 := ck HX5 hE__; replace HG14 := ck HG14 hE__; clear hE__; clear hb__)
 | ((with_reducible refine sl 87 ?_); (refine wpL_load rfl 49 (.tmp 14) rfl g14 0 rfl (spotC (0, 0)) _ (range_block HG14.out) Try.underlying49 rfl HSI.out ?_); simp only [PT])
 | ((with_reducible refine sl 89 ?_); (refine wpL_eqS (0, 0) (0, 0) true (by simp) rfl (.tmp 87) (.tmp 88) rfl rfl rfl ?_); simp only [PT])
 | (go_at_call 36; (with_reducible show Calls _ _ #[Value.slice ad3 _ _, _] _ _); (refine (refSameC_true ad3 M c3 vs3 ad5 M c5 vs5 (by rw [HV3.out, HV5.out]) _ (HX3.out.below bup) (HX5.out.below bup) (by omega)).mono ?_); intro e wc11 hr; obtain ⟨rfl, hb__⟩ := hr; have hE__ := cU HB bup hb__; replace HB := ck HB hE__; replace HV := ck HV hE__; replace HL := ck HL hE__; replace HX2 := ck HX2 hE__; replace HG8 := ck HG8 hE__; replace HX3 := ck HX3 hE__; replace HG10 := ck HG10 hE__; replace H4 := ck H4 hE__; replace HX5 := ck HX5 hE__; replace HG14 := ck HG14 hE__; clear hE__; clear hb__))
  go_ret
  exact ⟨rfl, HB.out⟩
end Go.Proofs.Ytmfplinbbcoahaa
