/-
  Joined by program (merge.py): PlainPcap3, PcLawK2, PcLawE.
-/
import Derived.Test.YtmfplinbbcoahaaM10
import Derived.Test.YtmfplinbbcoahaaM11
set_option linter.unusedVariables false
set_option linter.unusedSimpArgs false
set_option maxRecDepth 100000
set_option maxHeartbeats 16000000
namespace Go.Proofs.Ytmfplinbbcoahaa
open Go.RowKit Go.Sort
def lenC (l : List PB) (k : Nat) : Nat := (bytesC noS (l.take k)).length
theorem allS_take {s : PS} {l : List PB} (h : allS s l = true) (k : Nat) : allS s (l.take k) = true := by
  have e : allS s (l.take k ++ l.drop k) = true := by rw [List.take_append_drop]; exact h
  rw [allS_append, Bool.and_eq_true] at e
  exact e.1
theorem right_take {l : List PB} (h : rightC l = true) (k : Nat) (hk : 0 < k) : rightC (l.take k) = true := by
  simp only [rightC, Bool.and_eq_true, decide_eq_true_eq] at h ⊢
  exact ⟨allS_take h.1 k, by rw [List.length_take]; omega⟩
theorem lenC_succ (l : List PB) (k : Nat) (x : PB) (hx : l[k]? = some x) : lenC l (k + 1) = lenC l k + sizeB x := by
  unfold lenC
  rw [List.take_add_one, hx, Option.toList_some, bytesC_snoc, List.length_append, bytesB_length]
theorem lenC_all (l : List PB) : lenC l l.length = (bytesC noS l).length := by unfold lenC; rw [List.take_length]
theorem cuts_at (l : List PB) (h : rightC l = true) (hw : ∀ x ∈ l, wfB x) (k : Nat) (hk : k < l.length) (q : Nat) (h1 : lenC l k ≤ q) (h2 : q < lenC l (k + 1)) (h0 : k = 0 ∨ q ≠ lenC l k) :
    readP ((bytesC noS l).take q) = (l.take k, (lenC l k, 2)) := by
  obtain ⟨x, hx⟩ : ∃ x, l[k]? = some x := ⟨l[k], List.getElem?_eq_getElem hk⟩
  have hs := lenC_succ l k x hx
  have hl : l = l.take k ++ x :: l.drop (k + 1) := by
    have e := (List.getElem?_eq_some_iff.1 hx).2
    rw [← e, List.getElem_cons_drop, List.take_append_drop]
  have hb : bytesC noS l = bytesC noS (l.take k) ++ (bytesB (stS noS (l.take k)).big x ++ bytesC (nextS (stS noS (l.take k)) x) (l.drop (k + 1))) := by
    conv => lhs; rw [hl]
    rw [bytesC_append]
    rfl
  have ht : (bytesC noS l).take q = bytesC noS (l.take k) ++ (bytesB (stS noS (l.take k)).big x).take (q - lenC l k) := by
    rw [hb, List.take_append, List.take_of_length_le h1, List.take_append]
    show _ ++ (_ ++ List.take (q - lenC l k - _) _) = _
    rw [bytesB_length, show q - lenC l k - sizeB x = 0 by omega, List.take_zero, List.append_nil]
    rfl
  have ha : allS noS (l.take k ++ [x]) = true := by
    have := allS_take (show allS noS l = true by simp only [rightC, Bool.and_eq_true] at h; exact h.1) (k + 1)
    rwa [List.take_add_one, hx] at this
  rw [ht]
  refine readP_cut (l.take k) x _ ha (fun y hy => hw y ?_) (by omega) ?_
  · rcases List.mem_append.1 hy with hy | hy
    · exact List.mem_of_mem_take hy
    · simp at hy
      rw [hy]
      exact List.mem_of_getElem? hx
  · rcases h0 with h0 | h0
    · left; rw [h0]; rfl
    · right; omega
theorem cuts_at0 (l : List PB) (h : rightC l = true) (hw : ∀ x ∈ l, wfB x) (k : Nat) (h0 : 0 < k) : readP ((bytesC noS l).take (lenC l k)) = (l.take k, (0, 0)) := by
  have hb : bytesC noS l = bytesC noS (l.take k) ++ bytesC (stS noS (l.take k)) (l.drop k) := by
    conv => lhs; rw [← List.take_append_drop k l]
    rw [bytesC_append]
  rw [hb]
  unfold lenC
  rw [List.take_left' rfl]
  exact readP_back _ (right_take h k h0) (fun x hx => hw x (List.mem_of_mem_take hx))
theorem bcells_take (vs : List BlkV) : ∀ (j : Nat), bcells (vs.take j) = (bcells vs).take (j * 11) := by
  induction vs with
  | nil => intro j; simp [bcells]
  | cons v vs ih =>
    intro j
    cases j with
    | zero => simp [bcells]
    | succ j =>
      have e : bcells (v :: vs) = v.cells ++ bcells vs := rfl
      have e2 : bcells ((v :: vs).take (j + 1)) = v.cells ++ bcells (vs.take j) := rfl
      rw [e, e2, List.take_append, List.take_of_length_le (show v.cells.length ≤ (j + 1) * 11 by rw [bcell_len]; omega), bcell_len, ih, show (j + 1) * 11 - 11 = j * 11 by omega]
theorem Blks.part {w : World} {ad : Option Addr} {n c : Nat} {vs : List BlkV} (h : Blks w ad n c vs) (j : Nat) (hj : j ≤ n) (ad' : Option Addr) (ha : Hid (ad' = subAd ad c 0 11)) : Blks w ad' j c (vs.take j) := by
  have hs := Sl.sub h.1 (l := 0) (h := j) (Nat.zero_le _) hj
  simp only [Nat.zero_mul, Nat.sub_zero, List.drop_zero] at hs
  rw [← bcells_take, ← ha.out] at hs
  exact ⟨hs, fun v hv => h.2 v (List.mem_of_mem_take hv)⟩
theorem bvals_tk (vs : List BlkV) (k : Nat) : bvals (vs.take k) = (bvals vs).take k := by simp [bvals]
theorem cuts27_walk (ad : Option Addr) (n c : Nat) (vs : List BlkV) (a1 : Int) (w : World) (hv : Blks w ad n c vs) (hw : ∀ v ∈ vs, wfB v.val) (h1 : 0 ≤ a1 ∧ a1 ≤ 65535) :
    Calls Try.prog 13 #[.slice ad n c, .int .u16 a1] w fun e w' => e = .returned (.bool true) ∧ Below w.heap.size w w' := by
  have HB := Hd (Below.refl w.heap.size w)
  have HV := Hd hv
  have hc := hv.le
  have HN := Hd hv.len
  have HW := Hd hw
  obtain ⟨F, hF⟩ : ∃ F, fewC vs = F := ⟨_, rfl⟩
  have HF := Hd hF
  clear hv hw hF
  obtain ⟨h10, h11⟩ := h1
  have HSI := Hd spot_size
  cases F
  · skip
    go_enter Try.func13, Try.ntmps13
    go_wp2_with (first
 | (go_at_call 28; (refine (pcAwake_any _).mono ?_); intro e wc1 hr; obtain ⟨rfl, hb__⟩ := hr; have hE__ := cU HB bup hb__; replace HB := ck HB hE__; replace HV := ck HV hE__; clear hE__; clear hb__)
 | (go_at_call 29; (with_reducible show Calls _ _ #[Value.slice ad _ _] _ _); (refine (few27_any _ ad n c vs HF.out _ (HV.out.below bup)).mono ?_); intro e wc2 hr; obtain ⟨rfl, hb__⟩ := hr; have hE__ := cU HB bup hb__; replace HB := ck HB hE__; replace HV := ck HV hE__; clear hE__; clear hb__))
    go_ret
    exact ⟨rfl, HB.out⟩
  have hs50 : n ≤ 50 := by have h1 := (fewC_spec HF.out).1; have h2 := HN.out; omega
  have HSM := Hd (fun v hv => ⟨(fewC_spec HF.out).2 v hv, HW.out v hv⟩ : ∀ v ∈ vs, SmB v ∧ wfB v.val)
  have HWA := Hd (wf_all HW.out)
  obtain ⟨R, hR⟩ : ∃ R, rightC (bvals vs) = R := ⟨_, rfl⟩
  have HR := Hd hR
  cases R
  · clear hR
    go_enter Try.func13, Try.ntmps13
    go_wp2_with (first
 | (go_at_call 28; (refine (pcAwake_any _).mono ?_); intro e wc1 hr; obtain ⟨rfl, hb__⟩ := hr; have hE__ := cU HB bup hb__; replace HB := ck HB hE__; replace HV := ck HV hE__; clear hE__; clear hb__)
 | (go_at_call 29; (with_reducible show Calls _ _ #[Value.slice ad _ _] _ _); (refine (few27_any _ ad n c vs HF.out _ (HV.out.below bup)).mono ?_); intro e wc2 hr; obtain ⟨rfl, hb__⟩ := hr; have hE__ := cU HB bup hb__; replace HB := ck HB hE__; replace HV := ck HV hE__; clear hE__; clear hb__)
 | (go_at_call 30; (refine (pcPut_wrong ad n c vs HR.out _ (HV.out.below bup) (by omega) HSM.out).mono ?_); intro e wc3 hr; obtain ⟨rfl, hb__⟩ := hr; have hE__ := cU HB bup hb__; replace HB := ck HB hE__; replace HV := ck HV hE__; clear hE__; clear hb__))
    go_ret
    exact ⟨rfl, HB.out⟩
  obtain ⟨LC, hLC⟩ : ∃ L, L = bytesC noS (bvals vs) := ⟨_, rfl⟩
  obtain ⟨S, hS⟩ : ∃ S, LC.length = S := ⟨_, rfl⟩
  have hSn : S ≤ 52428800 := by rw [← hS, hLC]; exact bytes_small hR (by rw [bvals_length]; have := HN.out; omega)
  have hS0 : 0 < S := by
    have h1 := bytesC_ge noS (bvals vs)
    have h2 : 0 < (bvals vs).length := by simp only [rightC, Bool.and_eq_true, decide_eq_true_eq] at hR; exact hR.2
    rw [← hLC, hS] at h1
    omega
  obtain ⟨q, hq⟩ : ∃ q : Nat, a1 % (S : Int) = (q : Int) := ⟨(a1 % (S : Int)).toNat, by have := Int.emod_nonneg a1 (show (S : Int) ≠ 0 by omega); omega⟩
  have HQ := Hd hq
  have hqS : q < S := by have := Int.emod_lt_of_pos a1 (show (0 : Int) < (S : Int) by omega); omega
  obtain ⟨P, A, E, hP⟩ : ∃ P A E, readP (LC.take q) = (P, (A, E)) := ⟨_, _, _, rfl⟩
  obtain ⟨M, hM⟩ : ∃ M, P.length = M := ⟨_, rfl⟩
  have HP := Hd hP
  have HM := Hd hM
  have HLC := Hd hLC
  have HS := Hd hS
  have HST : Hid (lenC (bvals vs) n = S) := Hd (by rw [← hS, hLC, ← lenC_all, bvals_length, ← HN.out])
  have HVw := HV
  clear hR hLC hS hP hM
  go_enter Try.func13, Try.ntmps13
  go_wp2_with (first
 | (go_at_call 28; (refine (pcAwake_any _).mono ?_); intro e wc1 hr; obtain ⟨rfl, hb__⟩ := hr; have hE__ := cU HB bup hb__; replace HB := ck HB hE__; replace HV := ck HV hE__; clear hE__; clear hb__)
 | (go_at_call 29; (with_reducible show Calls _ _ #[Value.slice ad _ _] _ _); (refine (few27_any _ ad n c vs HF.out _ (HV.out.below bup)).mono ?_); intro e wc2 hr; obtain ⟨rfl, hb__⟩ := hr; have hE__ := cU HB bup hb__; replace HB := ck HB hE__; replace HV := ck HV hE__; clear hE__; clear hb__)
 | (go_at_call 30; (refine (pcPut_at LC S ad n c vs HLC.out HS.out HR.out _ (HV.out.below bup) (by omega) HSM.out).mono ?_); intro e wc3 hr; obtain ⟨adb, cb, rfl, ho__, hb__⟩ := hr; have H5 := Hd (Bs.of_own ho__); clear ho__; have hE__ := cU HB bup hb__; replace HB := ck HB hE__; replace HV := ck HV hE__; clear hE__; clear hb__)
 | ((with_reducible refine sl 44 ?_); (have hcb := H5.out.le); (refine wpL_sliceG elB rfl (.tmp 42) none (some (.tmp 43)) rfl rfl 0 q (.inl ⟨rfl, rfl⟩) (.inr ⟨.i64, (by show some (Value.int .i64 (a1 % (S : Int))) = _; rw [HQ.out])⟩) (by omega) (by omega) q cb (by omega) (by omega) ?_); intro adq hadq; (have H6 := Hd (Bs.partG H5.out 0 q q cb (by omega) (by omega) (by omega) (by omega) adq hadq (LC.take q) (by rw [List.drop_zero]))); clear hadq; simp only [PT])
 | (go_at_call 34; (refine (pcRead_at P A E M adq q cb (LC.take q) HP.out HM.out _ (H6.out.below bup) (by omega)).mono ?_); intro e wc4 hr; obtain ⟨adx, cx, vsx, rfl, hvx, hlx, ho__, hb__⟩ := hr; have HX := Hd (show Blks _ adx M cx vsx from hlx ▸ ho__.blks); have HVX := Hd hvx; clear ho__ hvx hlx; have hE__ := cU HB bup hb__; replace HB := ck HB hE__; replace HV := ck HV hE__; clear hE__; clear hb__)
 | ((with_reducible refine sl 9 ?_); (refine wpL_allocG rfl 49 rfl (.agg (spotC (0, 0)).toArray) (spotC (0, 0)).toArray 2 (by kernel_rfl) rfl ?_); intro ws9 g9 he__ le_g9 lt_g9 hg__ hb__; have HG9 := Hd hg__; have HE9 := Hd hb__; clear hg__ hb__ he__; simp only [PT])
 | ((with_reducible show wpList _ _ _ (⟨none, .store _ (.tmp 9) (.tmp 47), _, _, _, _⟩ :: _) _ _); (refine wpL_storeRow rfl 49 (.tmp 9) (.tmp 47) rfl g9 (spotC (A, E)).toArray rfl rfl HG9.out HSI.out rfl (spot_one _) ?_); intro wt9 hs__ hr__; (have hb__ := HE9.out.grown hr__ HE9.out.size (fun k e => (by cases e; exact le_g9))); (have hE__ := cU HB bup hb__; replace HB := ck HB hE__; replace HV := ck HV hE__; replace HX := ck HX hE__; clear hE__); clear HG9 HE9; have HG9 := Hd hs__; clear hs__ hr__ hb__; simp only [PT]))
  clear hq
  go_loopw [10, 11] (fun u i wr => ∃ (k T : Nat), k ≤ n ∧ i = .int .i64 (k : Int) ∧ u = .int .i64 (T : Int) ∧ T ≤ q ∧ Hid (T = lenC (bvals vs) k) ∧ Hid (Blks wr adx M cx vsx) ∧ Hid (wr.heap[g9]? = some (.cells (spotC (A, E)).toArray 49 (0, 0))) ∧ Hid (Below w.heap.size w wr)) (fun _ i _ => n - (intOf i).toNat)
  case atStart => exact ⟨0, 0, by omega, rfl, rfl, by omega, Hd rfl, HX, HG9, HB⟩
  case round =>
    obtain ⟨k, T, hk, rfl, rfl, hTq, HT, HXr, HGr, HBr⟩ := hrel
    clear HX HG9 HB HV
    have HX := HXr
    have HG9 := HGr
    have HB := HBr
    have HV := Hd (HVw.out.below HBr.out)
    clear HXr HGr HBr
    by_cases hend : k = n
    · exfalso
      have h1 := HT.out
      rw [hend] at h1
      have h2 := HST.out
      omega
    have hlt : k < n := by omega
    obtain ⟨x, hx⟩ : ∃ x, x = vs[k]'(by have := HN.out; omega) := ⟨_, rfl⟩
    have HXK : Hid ((bvals vs)[k]? = some x.val) := Hd (by simp only [bvals, List.getElem?_map, List.getElem?_eq_getElem (show k < vs.length by have := HN.out; omega), hx]; rfl)
    obtain ⟨T2, hT2⟩ : ∃ T, lenC (bvals vs) (k + 1) = T := ⟨_, rfl⟩
    have hTT : T + 12 ≤ T2 := by
      have h1 := lenC_succ (bvals vs) k x.val HXK.out
      have h2 := sizeB_ge x.val
      have h3 := HT.out
      omega
    have hT2n : T2 ≤ 1000000000 := by
      have h1 := bytesC_le noS (bvals (vs.take (k + 1))) (by rw [bvals_tk]; exact allS_take (by have h := HR.out; simp only [rightC, Bool.and_eq_true] at h; exact h.1) _)
      rw [bvals_length, List.length_take] at h1
      have h2 : (bytesC noS (bvals (vs.take (k + 1)))).length = T2 := by rw [bvals_tk]; exact hT2
      omega
    obtain ⟨LK, hLK⟩ : ∃ L, L = bytesC noS (bvals (vs.take (k + 1))) := ⟨_, rfl⟩
    have HLK := Hd hLK
    have HLT : Hid (LK.length = T2) := Hd (by rw [hLK, bvals_tk]; exact hT2)
    have HRK : Hid (rightC (bvals (vs.take (k + 1))) = true) := Hd (by rw [bvals_tk]; exact right_take HR.out _ (by omega))
    have HSK := Hd (fun v hv => HSM.out v (List.mem_of_mem_take hv) : ∀ v ∈ vs.take (k + 1), SmB v ∧ wfB v.val)
    have HT2 := Hd hT2
    clear hx hT2 hLK
    by_cases hq0 : 0 < k ∧ q = T
    · obtain ⟨hk0, hqT⟩ := hq0
      have hrd := cuts_at0 (bvals vs) HR.out HWA.out k hk0
      rw [← HLC.out, ← HT.out, ← hqT, HP.out] at hrd
      simp only [Prod.mk.injEq] at hrd
      have HPE := Hd hrd.1
      have HPA : Hid ((A, E) = (0, 0)) := Hd (Prod.ext hrd.2.1 hrd.2.2)
      clear hrd
      have hMk : M ≤ k := by have h := HM.out; rw [HPE.out, List.length_take, bvals_length] at h; have h2 := HN.out; omega
      subst hqT
      go_wp2_with (first
 | ((with_reducible refine sl 58 ?_); (refine wpL_sliceG elK rfl (.tmp 55) none (some (.tmp 57)) rfl rfl 0 (k + 1) (.inl ⟨rfl, rfl⟩) (.inr ⟨.i64, (by first | rfl | (simp; done))⟩) (by omega) (by omega) (k + 1) c (by omega) (by omega) ?_); intro ad58 had58; (have HPK := Hd (HV.out.part (k + 1) (by omega) ad58 had58)); clear had58; simp only [PT])
 | (go_at_call 30; (refine (pcPut_at LK T2 ad58 (k + 1) c (vs.take (k + 1)) HLK.out HLT.out HRK.out _ (HPK.out.below bup) (by omega) HSK.out).mono ?_); intro e wc1 hr; obtain ⟨ad59, c59, rfl, _, hb__⟩ := hr; have hE__ := cU HB bup hb__; replace HB := ck HB hE__; replace HV := ck HV hE__; replace HX := ck HX hE__; replace HG9 := ck HG9 hE__; clear hE__; clear hb__)
 | ((with_reducible refine sl 69 ?_); (refine wpL_load rfl 49 (.tmp 9) rfl g9 0 rfl (spotC (A, E)) _ (range_block HG9.out) Try.underlying49 rfl HSI.out ?_); simp only [PT])
 | ((with_reducible refine sl 71 ?_); (refine wpL_eqS (A, E) (0, 0) true (by rw [HPA.out]; simp) rfl (.tmp 69) (.tmp 70) rfl rfl rfl ?_); simp only [PT])
 | ((with_reducible refine sl 76 ?_); (refine wpL_sliceG elK rfl (.tmp 74) none (some (.tmp 75)) rfl rfl 0 (k) (.inl ⟨rfl, rfl⟩) (.inr ⟨.i64, (by first | rfl | (simp; done))⟩) (by omega) (by omega) (k) c (by omega) (by omega) ?_); intro ad76 had76; (have HS76 := Hd (HV.out.part (k) (by omega) ad76 had76)); clear had76; simp only [PT])
 | (go_at_call 36; (refine (refSameC_true adx M cx vsx ad76 k c (vs.take k) (by rw [HVX.out, HPE.out, bvals_tk]) _ (HX.out.below bup) (HS76.out.below bup) (by omega)).mono ?_); intro e wc2 hr; obtain ⟨rfl, hb__⟩ := hr; have hE__ := cU HB bup hb__; replace HB := ck HB hE__; replace HV := ck HV hE__; replace HX := ck HX hE__; replace HG9 := ck HG9 hE__; replace HS76 := ck HS76 hE__; clear hE__; clear hb__))
      go_ret
      exact ⟨rfl, HB.out⟩
    have hq1 : k = 0 ∨ q ≠ T := by omega
    by_cases hq2 : q < T2
    · skip
      have hrd := cuts_at (bvals vs) HR.out HWA.out k (by rw [bvals_length]; have := HN.out; omega) q (by rw [← HT.out]; exact hTq) (by rw [HT2.out]; exact hq2) (by rw [← HT.out]; exact hq1)
      rw [← HLC.out, HP.out, ← HT.out] at hrd
      simp only [Prod.mk.injEq] at hrd
      have HPE := Hd hrd.1
      have HPA : Hid ((A, E) = (T, 2)) := Hd (Prod.ext hrd.2.1 hrd.2.2)
      clear hrd
      have hMk : M ≤ k := by have h := HM.out; rw [HPE.out, List.length_take, bvals_length] at h; have h2 := HN.out; omega
      rcases hq1 with hk0 | hqT
      · have hk00 : k ≤ 0 := by omega
        clear hk0
        go_wp2_with (first
 | ((with_reducible refine sl 58 ?_); (refine wpL_sliceG elK rfl (.tmp 55) none (some (.tmp 57)) rfl rfl 0 (k + 1) (.inl ⟨rfl, rfl⟩) (.inr ⟨.i64, (by first | rfl | (simp; done))⟩) (by omega) (by omega) (k + 1) c (by omega) (by omega) ?_); intro ad58 had58; (have HPK := Hd (HV.out.part (k + 1) (by omega) ad58 had58)); clear had58; simp only [PT])
 | (go_at_call 30; (refine (pcPut_at LK T2 ad58 (k + 1) c (vs.take (k + 1)) HLK.out HLT.out HRK.out _ (HPK.out.below bup) (by omega) HSK.out).mono ?_); intro e wc1 hr; obtain ⟨ad59, c59, rfl, _, hb__⟩ := hr; have hE__ := cU HB bup hb__; replace HB := ck HB hE__; replace HV := ck HV hE__; replace HX := ck HX hE__; replace HG9 := ck HG9 hE__; clear hE__; clear hb__)
 | ((with_reducible refine sl 83 ?_); (refine wpL_load rfl 49 (.tmp 9) rfl g9 0 rfl (spotC (A, E)) _ (range_block HG9.out) Try.underlying49 rfl HSI.out ?_); simp only [PT])
 | ((with_reducible refine sl 86 ?_); (refine wpL_eqS (A, E) (T, 2) true (by rw [HPA.out]; simp) rfl (.tmp 83) (.tmp 85) rfl rfl rfl ?_); simp only [PT])
 | ((with_reducible refine sl 91 ?_); (refine wpL_sliceG elK rfl (.tmp 89) none (some (.tmp 90)) rfl rfl 0 (k) (.inl ⟨rfl, rfl⟩) (.inr ⟨.i64, (by first | rfl | (simp; done))⟩) (by omega) (by omega) (k) c (by omega) (by omega) ?_); intro ad91 had91; (have HS91 := Hd (HV.out.part (k) (by omega) ad91 had91)); clear had91; simp only [PT])
 | (go_at_call 36; (refine (refSameC_true adx M cx vsx ad91 k c (vs.take k) (by rw [HVX.out, HPE.out, bvals_tk]) _ (HX.out.below bup) (HS91.out.below bup) (by omega)).mono ?_); intro e wc2 hr; obtain ⟨rfl, hb__⟩ := hr; have hE__ := cU HB bup hb__; replace HB := ck HB hE__; replace HV := ck HV hE__; replace HX := ck HX hE__; replace HG9 := ck HG9 hE__; replace HS91 := ck HS91 hE__; clear hE__; clear hb__))
        go_ret
        exact ⟨rfl, HB.out⟩
      by_cases hk0 : 0 < k
      · skip
        go_wp2_with (first
 | ((with_reducible refine sl 58 ?_); (refine wpL_sliceG elK rfl (.tmp 55) none (some (.tmp 57)) rfl rfl 0 (k + 1) (.inl ⟨rfl, rfl⟩) (.inr ⟨.i64, (by first | rfl | (simp; done))⟩) (by omega) (by omega) (k + 1) c (by omega) (by omega) ?_); intro ad58 had58; (have HPK := Hd (HV.out.part (k + 1) (by omega) ad58 had58)); clear had58; simp only [PT])
 | (go_at_call 30; (refine (pcPut_at LK T2 ad58 (k + 1) c (vs.take (k + 1)) HLK.out HLT.out HRK.out _ (HPK.out.below bup) (by omega) HSK.out).mono ?_); intro e wc1 hr; obtain ⟨ad59, c59, rfl, _, hb__⟩ := hr; have hE__ := cU HB bup hb__; replace HB := ck HB hE__; replace HV := ck HV hE__; replace HX := ck HX hE__; replace HG9 := ck HG9 hE__; clear hE__; clear hb__)
 | ((with_reducible refine sl 83 ?_); (refine wpL_load rfl 49 (.tmp 9) rfl g9 0 rfl (spotC (A, E)) _ (range_block HG9.out) Try.underlying49 rfl HSI.out ?_); simp only [PT])
 | ((with_reducible refine sl 86 ?_); (refine wpL_eqS (A, E) (T, 2) true (by rw [HPA.out]; simp) rfl (.tmp 83) (.tmp 85) rfl rfl rfl ?_); simp only [PT])
 | ((with_reducible refine sl 91 ?_); (refine wpL_sliceG elK rfl (.tmp 89) none (some (.tmp 90)) rfl rfl 0 (k) (.inl ⟨rfl, rfl⟩) (.inr ⟨.i64, (by first | rfl | (simp; done))⟩) (by omega) (by omega) (k) c (by omega) (by omega) ?_); intro ad91 had91; (have HS91 := Hd (HV.out.part (k) (by omega) ad91 had91)); clear had91; simp only [PT])
 | (go_at_call 36; (refine (refSameC_true adx M cx vsx ad91 k c (vs.take k) (by rw [HVX.out, HPE.out, bvals_tk]) _ (HX.out.below bup) (HS91.out.below bup) (by omega)).mono ?_); intro e wc2 hr; obtain ⟨rfl, hb__⟩ := hr; have hE__ := cU HB bup hb__; replace HB := ck HB hE__; replace HV := ck HV hE__; replace HX := ck HX hE__; replace HG9 := ck HG9 hE__; replace HS91 := ck HS91 hE__; clear hE__; clear hb__))
        go_ret
        exact ⟨rfl, HB.out⟩
      · skip
        go_wp2_with (first
 | ((with_reducible refine sl 58 ?_); (refine wpL_sliceG elK rfl (.tmp 55) none (some (.tmp 57)) rfl rfl 0 (k + 1) (.inl ⟨rfl, rfl⟩) (.inr ⟨.i64, (by first | rfl | (simp; done))⟩) (by omega) (by omega) (k + 1) c (by omega) (by omega) ?_); intro ad58 had58; (have HPK := Hd (HV.out.part (k + 1) (by omega) ad58 had58)); clear had58; simp only [PT])
 | (go_at_call 30; (refine (pcPut_at LK T2 ad58 (k + 1) c (vs.take (k + 1)) HLK.out HLT.out HRK.out _ (HPK.out.below bup) (by omega) HSK.out).mono ?_); intro e wc1 hr; obtain ⟨ad59, c59, rfl, _, hb__⟩ := hr; have hE__ := cU HB bup hb__; replace HB := ck HB hE__; replace HV := ck HV hE__; replace HX := ck HX hE__; replace HG9 := ck HG9 hE__; clear hE__; clear hb__)
 | ((with_reducible refine sl 83 ?_); (refine wpL_load rfl 49 (.tmp 9) rfl g9 0 rfl (spotC (A, E)) _ (range_block HG9.out) Try.underlying49 rfl HSI.out ?_); simp only [PT])
 | ((with_reducible refine sl 86 ?_); (refine wpL_eqS (A, E) (T, 2) true (by rw [HPA.out]; simp) rfl (.tmp 83) (.tmp 85) rfl rfl rfl ?_); simp only [PT])
 | ((with_reducible refine sl 91 ?_); (refine wpL_sliceG elK rfl (.tmp 89) none (some (.tmp 90)) rfl rfl 0 (k) (.inl ⟨rfl, rfl⟩) (.inr ⟨.i64, (by first | rfl | (simp; done))⟩) (by omega) (by omega) (k) c (by omega) (by omega) ?_); intro ad91 had91; (have HS91 := Hd (HV.out.part (k) (by omega) ad91 had91)); clear had91; simp only [PT])
 | (go_at_call 36; (refine (refSameC_true adx M cx vsx ad91 k c (vs.take k) (by rw [HVX.out, HPE.out, bvals_tk]) _ (HX.out.below bup) (HS91.out.below bup) (by omega)).mono ?_); intro e wc2 hr; obtain ⟨rfl, hb__⟩ := hr; have hE__ := cU HB bup hb__; replace HB := ck HB hE__; replace HV := ck HV hE__; replace HX := ck HX hE__; replace HG9 := ck HG9 hE__; replace HS91 := ck HS91 hE__; clear hE__; clear hb__))
        go_ret
        exact ⟨rfl, HB.out⟩
    have hqn : q ≠ T := by omega
    clear hq1 hq0
    by_cases hk0 : 0 < k
    · skip
      go_wp2_with (first
 | ((with_reducible refine sl 58 ?_); (refine wpL_sliceG elK rfl (.tmp 55) none (some (.tmp 57)) rfl rfl 0 (k + 1) (.inl ⟨rfl, rfl⟩) (.inr ⟨.i64, (by first | rfl | (simp; done))⟩) (by omega) (by omega) (k + 1) c (by omega) (by omega) ?_); intro ad58 had58; (have HPK := Hd (HV.out.part (k + 1) (by omega) ad58 had58)); clear had58; simp only [PT])
 | (go_at_call 30; (refine (pcPut_at LK T2 ad58 (k + 1) c (vs.take (k + 1)) HLK.out HLT.out HRK.out _ (HPK.out.below bup) (by omega) HSK.out).mono ?_); intro e wc1 hr; obtain ⟨ad59, c59, rfl, _, hb__⟩ := hr; have hE__ := cU HB bup hb__; replace HB := ck HB hE__; replace HV := ck HV hE__; replace HX := ck HX hE__; replace HG9 := ck HG9 hE__; clear hE__; clear hb__))
      go_roundw
      case rel => exact ⟨k + 1, T2, by omega, by go_num, rfl, by omega, Hd HT2.out.symm, HX, HG9, HB⟩
      case measure => first | (simp [intOf]; done) | (simp [intOf]; omega)
    · skip
      go_wp2_with (first
 | ((with_reducible refine sl 58 ?_); (refine wpL_sliceG elK rfl (.tmp 55) none (some (.tmp 57)) rfl rfl 0 (k + 1) (.inl ⟨rfl, rfl⟩) (.inr ⟨.i64, (by first | rfl | (simp; done))⟩) (by omega) (by omega) (k + 1) c (by omega) (by omega) ?_); intro ad58 had58; (have HPK := Hd (HV.out.part (k + 1) (by omega) ad58 had58)); clear had58; simp only [PT])
 | (go_at_call 30; (refine (pcPut_at LK T2 ad58 (k + 1) c (vs.take (k + 1)) HLK.out HLT.out HRK.out _ (HPK.out.below bup) (by omega) HSK.out).mono ?_); intro e wc1 hr; obtain ⟨ad59, c59, rfl, _, hb__⟩ := hr; have hE__ := cU HB bup hb__; replace HB := ck HB hE__; replace HV := ck HV hE__; replace HX := ck HX hE__; replace HG9 := ck HG9 hE__; clear hE__; clear hb__))
      go_roundw
      case rel => exact ⟨k + 1, T2, by omega, by go_num, rfl, by omega, Hd HT2.out.symm, HX, HG9, HB⟩
      case measure => first | (simp [intOf]; done) | (simp [intOf]; omega)
end Go.Proofs.Ytmfplinbbcoahaa
