/-
  Joined by program (merge.py): Blk6, RBy, LawKitR, RefPc3, PcLawR.
-/
import Derived.Test.YtmfplinbbcoahaaM6
import Derived.Test.YtmfplinbbcoahaaM9
import Derived.Test.YtmfplinbbcoahaaM11
import Derived.Test.YtmfplinbbcoahaaM13
set_option linter.unusedVariables false
set_option linter.unusedSimpArgs false
set_option maxRecDepth 100000
set_option maxHeartbeats 16000000
namespace Go.Proofs.Ytmfplinbbcoahaa
open Go.RowKit Go.Sort
theorem refMay_any (v : BlkV) (w : World) (hv : Blk w v) (hl : v.len < 4294967296) (ht : v.type < 4294967296) :
    Calls Try.prog 24 #[.agg v.cells.toArray] w fun e w' => e = .returned (.bool (mayP v.val)) ∧ Below w.heap.size w w' := by
  have HB := Hd (Below.refl w.heap.size w)
  have HV := Hd hv
  have HM := Hd (mayV_val hv)
  unfold lastV at HM
  have HBI := Hd blk_info
  have hdn := hv.1.le
  obtain ⟨M, hM⟩ : ∃ M, M = mayP v.val := ⟨_, rfl⟩
  rw [← hM] at HM ⊢
  obtain ⟨F, hF⟩ : ∃ F, F = fitsP v.val := ⟨_, rfl⟩
  rw [← hF] at HM
  have HF := Hd hF
  obtain ⟨Wo, hWo⟩ : ∃ W, W = wrongO (vals v.os) := ⟨_, rfl⟩
  obtain ⟨Wn, hWn⟩ : ∃ W, W = wrongO (vals v.ns) := ⟨_, rfl⟩
  obtain ⟨KT, hKT⟩ : ∃ K, K = kindP v.type := ⟨_, rfl⟩
  rw [← hWo, ← hWn, ← hKT] at HM
  have HWo := Hd hWo
  have HWn := Hd hWn
  have HKT := Hd hKT
  clear hv hM hF hWo hWn hKT
  by_cases h1 : v.kind < 1
  · go_enter Try.func24, Try.ntmps24
    go_wp2_with (first
 | ((with_reducible refine sl 1 ?_); (refine wpL_box rfl 27 (.tmp 0) rfl v.cells.toArray rfl ?_); intro w1 hg1 hb1; have HG1 := Hd hg1; have hE__ := cU HB bup hb1; replace HB := ck HB hE__; clear hE__; clear hg1 hb1; obtain ⟨c0, c1, c2, c3, c4, c5, c6, c7, c8, c9, c10⟩ := blk_cells HG1.out; simp only [PT])
 | ((with_reducible refine sl 13 ?_); refine wpL_load rfl 27 (.tmp 1) rfl w.heap.size 0 rfl v.cells _ (range_block HG1.out) Try.underlying27 rfl HBI.out ?_; simp only [PT])
 | (go_at_call 49; (refine (fits_any v _ (HV.out.below (HB.out.trans (Below.mono bup HB.out.size))) (by omega) (by omega)).mono ?_); intro e w5 hr; rw [← HF.out] at hr; obtain ⟨rfl, hb5⟩ := hr; have hE__ := cU HB bup hb5; replace HB := ck HB hE__; replace HG1 := ck HG1 hE__; clear hE__; clear hb5 c0 c1 c2 c3 c4 c5 c6 c7 c8 c9 c10; obtain ⟨c0, c1, c2, c3, c4, c5, c6, c7, c8, c9, c10⟩ := blk_cells HG1.out)
 | (go_at_call 50; (with_reducible show Calls _ _ #[Value.slice v.oad _ _] _ _); (refine (wrong_any v.oad v.on v.oc v.os _ (HV.out.2.2.below (HB.out.trans (Below.mono bup HB.out.size)))).mono ?_); intro e w' hr; rw [← HWo.out] at hr; obtain ⟨rfl, rfl⟩ := hr)
 | (go_at_call 50; (with_reducible show Calls _ _ #[Value.slice v.nad _ _] _ _); (refine (wrong_any v.nad v.nn v.nc v.ns _ (HV.out.2.1.below (HB.out.trans (Below.mono bup HB.out.size)))).mono ?_); intro e w' hr; rw [← HWn.out] at hr; obtain ⟨rfl, rfl⟩ := hr)
 | (go_at_call 51; (refine (refKind_any v.type ht _).mono ?_); intro e w9 hr; rw [← HKT.out] at hr; obtain ⟨rfl, hb9⟩ := hr; have hE__ := cU HB bup hb9; replace HB := ck HB hE__; clear hE__; clear hb9))
    all_goals
      go_ret
      refine ⟨?_, HB.out⟩
      rw [HM.out]
      first
        | (simp [*]; done)
        | (simp [*]; omega)
        | (exfalso; rename_i hx; rcases hx with hx | ⟨_, hx⟩ <;> (simp at hx; omega))
  · by_cases h2 : 7 < v.kind
    · go_enter Try.func24, Try.ntmps24
      go_wp2_with (first
 | ((with_reducible refine sl 1 ?_); (refine wpL_box rfl 27 (.tmp 0) rfl v.cells.toArray rfl ?_); intro w1 hg1 hb1; have HG1 := Hd hg1; have hE__ := cU HB bup hb1; replace HB := ck HB hE__; clear hE__; clear hg1 hb1; obtain ⟨c0, c1, c2, c3, c4, c5, c6, c7, c8, c9, c10⟩ := blk_cells HG1.out; simp only [PT])
 | ((with_reducible refine sl 13 ?_); refine wpL_load rfl 27 (.tmp 1) rfl w.heap.size 0 rfl v.cells _ (range_block HG1.out) Try.underlying27 rfl HBI.out ?_; simp only [PT])
 | (go_at_call 49; (refine (fits_any v _ (HV.out.below (HB.out.trans (Below.mono bup HB.out.size))) (by omega) (by omega)).mono ?_); intro e w5 hr; rw [← HF.out] at hr; obtain ⟨rfl, hb5⟩ := hr; have hE__ := cU HB bup hb5; replace HB := ck HB hE__; replace HG1 := ck HG1 hE__; clear hE__; clear hb5 c0 c1 c2 c3 c4 c5 c6 c7 c8 c9 c10; obtain ⟨c0, c1, c2, c3, c4, c5, c6, c7, c8, c9, c10⟩ := blk_cells HG1.out)
 | (go_at_call 50; (with_reducible show Calls _ _ #[Value.slice v.oad _ _] _ _); (refine (wrong_any v.oad v.on v.oc v.os _ (HV.out.2.2.below (HB.out.trans (Below.mono bup HB.out.size)))).mono ?_); intro e w' hr; rw [← HWo.out] at hr; obtain ⟨rfl, rfl⟩ := hr)
 | (go_at_call 50; (with_reducible show Calls _ _ #[Value.slice v.nad _ _] _ _); (refine (wrong_any v.nad v.nn v.nc v.ns _ (HV.out.2.1.below (HB.out.trans (Below.mono bup HB.out.size)))).mono ?_); intro e w' hr; rw [← HWn.out] at hr; obtain ⟨rfl, rfl⟩ := hr)
 | (go_at_call 51; (refine (refKind_any v.type ht _).mono ?_); intro e w9 hr; rw [← HKT.out] at hr; obtain ⟨rfl, hb9⟩ := hr; have hE__ := cU HB bup hb9; replace HB := ck HB hE__; clear hE__; clear hb9))
      all_goals
        go_ret
        refine ⟨?_, HB.out⟩
        rw [HM.out]
        first
          | (simp [*]; done)
          | (simp [*]; omega)
          | (exfalso; rename_i hx; rcases hx with hx | ⟨_, hx⟩ <;> (simp at hx; omega))
    · cases F
      · go_enter Try.func24, Try.ntmps24
        go_wp2_with (first
 | ((with_reducible refine sl 1 ?_); (refine wpL_box rfl 27 (.tmp 0) rfl v.cells.toArray rfl ?_); intro w1 hg1 hb1; have HG1 := Hd hg1; have hE__ := cU HB bup hb1; replace HB := ck HB hE__; clear hE__; clear hg1 hb1; obtain ⟨c0, c1, c2, c3, c4, c5, c6, c7, c8, c9, c10⟩ := blk_cells HG1.out; simp only [PT])
 | ((with_reducible refine sl 13 ?_); refine wpL_load rfl 27 (.tmp 1) rfl w.heap.size 0 rfl v.cells _ (range_block HG1.out) Try.underlying27 rfl HBI.out ?_; simp only [PT])
 | (go_at_call 49; (refine (fits_any v _ (HV.out.below (HB.out.trans (Below.mono bup HB.out.size))) (by omega) (by omega)).mono ?_); intro e w5 hr; rw [← HF.out] at hr; obtain ⟨rfl, hb5⟩ := hr; have hE__ := cU HB bup hb5; replace HB := ck HB hE__; replace HG1 := ck HG1 hE__; clear hE__; clear hb5 c0 c1 c2 c3 c4 c5 c6 c7 c8 c9 c10; obtain ⟨c0, c1, c2, c3, c4, c5, c6, c7, c8, c9, c10⟩ := blk_cells HG1.out)
 | (go_at_call 50; (with_reducible show Calls _ _ #[Value.slice v.oad _ _] _ _); (refine (wrong_any v.oad v.on v.oc v.os _ (HV.out.2.2.below (HB.out.trans (Below.mono bup HB.out.size)))).mono ?_); intro e w' hr; rw [← HWo.out] at hr; obtain ⟨rfl, rfl⟩ := hr)
 | (go_at_call 50; (with_reducible show Calls _ _ #[Value.slice v.nad _ _] _ _); (refine (wrong_any v.nad v.nn v.nc v.ns _ (HV.out.2.1.below (HB.out.trans (Below.mono bup HB.out.size)))).mono ?_); intro e w' hr; rw [← HWn.out] at hr; obtain ⟨rfl, rfl⟩ := hr)
 | (go_at_call 51; (refine (refKind_any v.type ht _).mono ?_); intro e w9 hr; rw [← HKT.out] at hr; obtain ⟨rfl, hb9⟩ := hr; have hE__ := cU HB bup hb9; replace HB := ck HB hE__; clear hE__; clear hb9))
        all_goals
          go_ret
          refine ⟨?_, HB.out⟩
          rw [HM.out]
          first
            | (simp [*]; done)
            | (simp [*]; omega)
            | (exfalso; rename_i hx; rcases hx with hx | ⟨_, hx⟩ <;> (simp at hx; omega))
      · by_cases h3 : v.link < 0
        · go_enter Try.func24, Try.ntmps24
          go_wp2_with (first
 | ((with_reducible refine sl 1 ?_); (refine wpL_box rfl 27 (.tmp 0) rfl v.cells.toArray rfl ?_); intro w1 hg1 hb1; have HG1 := Hd hg1; have hE__ := cU HB bup hb1; replace HB := ck HB hE__; clear hE__; clear hg1 hb1; obtain ⟨c0, c1, c2, c3, c4, c5, c6, c7, c8, c9, c10⟩ := blk_cells HG1.out; simp only [PT])
 | ((with_reducible refine sl 13 ?_); refine wpL_load rfl 27 (.tmp 1) rfl w.heap.size 0 rfl v.cells _ (range_block HG1.out) Try.underlying27 rfl HBI.out ?_; simp only [PT])
 | (go_at_call 49; (refine (fits_any v _ (HV.out.below (HB.out.trans (Below.mono bup HB.out.size))) (by omega) (by omega)).mono ?_); intro e w5 hr; rw [← HF.out] at hr; obtain ⟨rfl, hb5⟩ := hr; have hE__ := cU HB bup hb5; replace HB := ck HB hE__; replace HG1 := ck HG1 hE__; clear hE__; clear hb5 c0 c1 c2 c3 c4 c5 c6 c7 c8 c9 c10; obtain ⟨c0, c1, c2, c3, c4, c5, c6, c7, c8, c9, c10⟩ := blk_cells HG1.out)
 | (go_at_call 50; (with_reducible show Calls _ _ #[Value.slice v.oad _ _] _ _); (refine (wrong_any v.oad v.on v.oc v.os _ (HV.out.2.2.below (HB.out.trans (Below.mono bup HB.out.size)))).mono ?_); intro e w' hr; rw [← HWo.out] at hr; obtain ⟨rfl, rfl⟩ := hr)
 | (go_at_call 50; (with_reducible show Calls _ _ #[Value.slice v.nad _ _] _ _); (refine (wrong_any v.nad v.nn v.nc v.ns _ (HV.out.2.1.below (HB.out.trans (Below.mono bup HB.out.size)))).mono ?_); intro e w' hr; rw [← HWn.out] at hr; obtain ⟨rfl, rfl⟩ := hr)
 | (go_at_call 51; (refine (refKind_any v.type ht _).mono ?_); intro e w9 hr; rw [← HKT.out] at hr; obtain ⟨rfl, hb9⟩ := hr; have hE__ := cU HB bup hb9; replace HB := ck HB hE__; clear hE__; clear hb9))
          all_goals
            go_ret
            refine ⟨?_, HB.out⟩
            rw [HM.out]
            first
              | (simp [*]; done)
              | (simp [*]; omega)
              | (exfalso; rename_i hx; rcases hx with hx | ⟨_, hx⟩ <;> (simp at hx; omega))
        · by_cases h4 : 65535 < v.link
          · go_enter Try.func24, Try.ntmps24
            go_wp2_with (first
 | ((with_reducible refine sl 1 ?_); (refine wpL_box rfl 27 (.tmp 0) rfl v.cells.toArray rfl ?_); intro w1 hg1 hb1; have HG1 := Hd hg1; have hE__ := cU HB bup hb1; replace HB := ck HB hE__; clear hE__; clear hg1 hb1; obtain ⟨c0, c1, c2, c3, c4, c5, c6, c7, c8, c9, c10⟩ := blk_cells HG1.out; simp only [PT])
 | ((with_reducible refine sl 13 ?_); refine wpL_load rfl 27 (.tmp 1) rfl w.heap.size 0 rfl v.cells _ (range_block HG1.out) Try.underlying27 rfl HBI.out ?_; simp only [PT])
 | (go_at_call 49; (refine (fits_any v _ (HV.out.below (HB.out.trans (Below.mono bup HB.out.size))) (by omega) (by omega)).mono ?_); intro e w5 hr; rw [← HF.out] at hr; obtain ⟨rfl, hb5⟩ := hr; have hE__ := cU HB bup hb5; replace HB := ck HB hE__; replace HG1 := ck HG1 hE__; clear hE__; clear hb5 c0 c1 c2 c3 c4 c5 c6 c7 c8 c9 c10; obtain ⟨c0, c1, c2, c3, c4, c5, c6, c7, c8, c9, c10⟩ := blk_cells HG1.out)
 | (go_at_call 50; (with_reducible show Calls _ _ #[Value.slice v.oad _ _] _ _); (refine (wrong_any v.oad v.on v.oc v.os _ (HV.out.2.2.below (HB.out.trans (Below.mono bup HB.out.size)))).mono ?_); intro e w' hr; rw [← HWo.out] at hr; obtain ⟨rfl, rfl⟩ := hr)
 | (go_at_call 50; (with_reducible show Calls _ _ #[Value.slice v.nad _ _] _ _); (refine (wrong_any v.nad v.nn v.nc v.ns _ (HV.out.2.1.below (HB.out.trans (Below.mono bup HB.out.size)))).mono ?_); intro e w' hr; rw [← HWn.out] at hr; obtain ⟨rfl, rfl⟩ := hr)
 | (go_at_call 51; (refine (refKind_any v.type ht _).mono ?_); intro e w9 hr; rw [← HKT.out] at hr; obtain ⟨rfl, hb9⟩ := hr; have hE__ := cU HB bup hb9; replace HB := ck HB hE__; clear hE__; clear hb9))
            all_goals
              go_ret
              refine ⟨?_, HB.out⟩
              rw [HM.out]
              first
                | (simp [*]; done)
                | (simp [*]; omega)
                | (exfalso; rename_i hx; rcases hx with hx | ⟨_, hx⟩ <;> (simp at hx; omega))
          · by_cases h5 : v.iface < 0
            · go_enter Try.func24, Try.ntmps24
              go_wp2_with (first
 | ((with_reducible refine sl 1 ?_); (refine wpL_box rfl 27 (.tmp 0) rfl v.cells.toArray rfl ?_); intro w1 hg1 hb1; have HG1 := Hd hg1; have hE__ := cU HB bup hb1; replace HB := ck HB hE__; clear hE__; clear hg1 hb1; obtain ⟨c0, c1, c2, c3, c4, c5, c6, c7, c8, c9, c10⟩ := blk_cells HG1.out; simp only [PT])
 | ((with_reducible refine sl 13 ?_); refine wpL_load rfl 27 (.tmp 1) rfl w.heap.size 0 rfl v.cells _ (range_block HG1.out) Try.underlying27 rfl HBI.out ?_; simp only [PT])
 | (go_at_call 49; (refine (fits_any v _ (HV.out.below (HB.out.trans (Below.mono bup HB.out.size))) (by omega) (by omega)).mono ?_); intro e w5 hr; rw [← HF.out] at hr; obtain ⟨rfl, hb5⟩ := hr; have hE__ := cU HB bup hb5; replace HB := ck HB hE__; replace HG1 := ck HG1 hE__; clear hE__; clear hb5 c0 c1 c2 c3 c4 c5 c6 c7 c8 c9 c10; obtain ⟨c0, c1, c2, c3, c4, c5, c6, c7, c8, c9, c10⟩ := blk_cells HG1.out)
 | (go_at_call 50; (with_reducible show Calls _ _ #[Value.slice v.oad _ _] _ _); (refine (wrong_any v.oad v.on v.oc v.os _ (HV.out.2.2.below (HB.out.trans (Below.mono bup HB.out.size)))).mono ?_); intro e w' hr; rw [← HWo.out] at hr; obtain ⟨rfl, rfl⟩ := hr)
 | (go_at_call 50; (with_reducible show Calls _ _ #[Value.slice v.nad _ _] _ _); (refine (wrong_any v.nad v.nn v.nc v.ns _ (HV.out.2.1.below (HB.out.trans (Below.mono bup HB.out.size)))).mono ?_); intro e w' hr; rw [← HWn.out] at hr; obtain ⟨rfl, rfl⟩ := hr)
 | (go_at_call 51; (refine (refKind_any v.type ht _).mono ?_); intro e w9 hr; rw [← HKT.out] at hr; obtain ⟨rfl, hb9⟩ := hr; have hE__ := cU HB bup hb9; replace HB := ck HB hE__; clear hE__; clear hb9))
              all_goals
                go_ret
                refine ⟨?_, HB.out⟩
                rw [HM.out]
                first
                  | (simp [*]; done)
                  | (simp [*]; omega)
                  | (exfalso; rename_i hx; rcases hx with hx | ⟨_, hx⟩ <;> (simp at hx; omega))
            · by_cases h6 : 4294967295 < v.iface
              · go_enter Try.func24, Try.ntmps24
                go_wp2_with (first
 | ((with_reducible refine sl 1 ?_); (refine wpL_box rfl 27 (.tmp 0) rfl v.cells.toArray rfl ?_); intro w1 hg1 hb1; have HG1 := Hd hg1; have hE__ := cU HB bup hb1; replace HB := ck HB hE__; clear hE__; clear hg1 hb1; obtain ⟨c0, c1, c2, c3, c4, c5, c6, c7, c8, c9, c10⟩ := blk_cells HG1.out; simp only [PT])
 | ((with_reducible refine sl 13 ?_); refine wpL_load rfl 27 (.tmp 1) rfl w.heap.size 0 rfl v.cells _ (range_block HG1.out) Try.underlying27 rfl HBI.out ?_; simp only [PT])
 | (go_at_call 49; (refine (fits_any v _ (HV.out.below (HB.out.trans (Below.mono bup HB.out.size))) (by omega) (by omega)).mono ?_); intro e w5 hr; rw [← HF.out] at hr; obtain ⟨rfl, hb5⟩ := hr; have hE__ := cU HB bup hb5; replace HB := ck HB hE__; replace HG1 := ck HG1 hE__; clear hE__; clear hb5 c0 c1 c2 c3 c4 c5 c6 c7 c8 c9 c10; obtain ⟨c0, c1, c2, c3, c4, c5, c6, c7, c8, c9, c10⟩ := blk_cells HG1.out)
 | (go_at_call 50; (with_reducible show Calls _ _ #[Value.slice v.oad _ _] _ _); (refine (wrong_any v.oad v.on v.oc v.os _ (HV.out.2.2.below (HB.out.trans (Below.mono bup HB.out.size)))).mono ?_); intro e w' hr; rw [← HWo.out] at hr; obtain ⟨rfl, rfl⟩ := hr)
 | (go_at_call 50; (with_reducible show Calls _ _ #[Value.slice v.nad _ _] _ _); (refine (wrong_any v.nad v.nn v.nc v.ns _ (HV.out.2.1.below (HB.out.trans (Below.mono bup HB.out.size)))).mono ?_); intro e w' hr; rw [← HWn.out] at hr; obtain ⟨rfl, rfl⟩ := hr)
 | (go_at_call 51; (refine (refKind_any v.type ht _).mono ?_); intro e w9 hr; rw [← HKT.out] at hr; obtain ⟨rfl, hb9⟩ := hr; have hE__ := cU HB bup hb9; replace HB := ck HB hE__; clear hE__; clear hb9))
                all_goals
                  go_ret
                  refine ⟨?_, HB.out⟩
                  rw [HM.out]
                  first
                    | (simp [*]; done)
                    | (simp [*]; omega)
                    | (exfalso; rename_i hx; rcases hx with hx | ⟨_, hx⟩ <;> (simp at hx; omega))
              · by_cases hWo0 : ¬ Wo = 0
                · go_enter Try.func24, Try.ntmps24
                  go_wp2_with (first
 | ((with_reducible refine sl 1 ?_); (refine wpL_box rfl 27 (.tmp 0) rfl v.cells.toArray rfl ?_); intro w1 hg1 hb1; have HG1 := Hd hg1; have hE__ := cU HB bup hb1; replace HB := ck HB hE__; clear hE__; clear hg1 hb1; obtain ⟨c0, c1, c2, c3, c4, c5, c6, c7, c8, c9, c10⟩ := blk_cells HG1.out; simp only [PT])
 | ((with_reducible refine sl 13 ?_); refine wpL_load rfl 27 (.tmp 1) rfl w.heap.size 0 rfl v.cells _ (range_block HG1.out) Try.underlying27 rfl HBI.out ?_; simp only [PT])
 | (go_at_call 49; (refine (fits_any v _ (HV.out.below (HB.out.trans (Below.mono bup HB.out.size))) (by omega) (by omega)).mono ?_); intro e w5 hr; rw [← HF.out] at hr; obtain ⟨rfl, hb5⟩ := hr; have hE__ := cU HB bup hb5; replace HB := ck HB hE__; replace HG1 := ck HG1 hE__; clear hE__; clear hb5 c0 c1 c2 c3 c4 c5 c6 c7 c8 c9 c10; obtain ⟨c0, c1, c2, c3, c4, c5, c6, c7, c8, c9, c10⟩ := blk_cells HG1.out)
 | (go_at_call 50; (with_reducible show Calls _ _ #[Value.slice v.oad _ _] _ _); (refine (wrong_any v.oad v.on v.oc v.os _ (HV.out.2.2.below (HB.out.trans (Below.mono bup HB.out.size)))).mono ?_); intro e w' hr; rw [← HWo.out] at hr; obtain ⟨rfl, rfl⟩ := hr)
 | (go_at_call 50; (with_reducible show Calls _ _ #[Value.slice v.nad _ _] _ _); (refine (wrong_any v.nad v.nn v.nc v.ns _ (HV.out.2.1.below (HB.out.trans (Below.mono bup HB.out.size)))).mono ?_); intro e w' hr; rw [← HWn.out] at hr; obtain ⟨rfl, rfl⟩ := hr)
 | (go_at_call 51; (refine (refKind_any v.type ht _).mono ?_); intro e w9 hr; rw [← HKT.out] at hr; obtain ⟨rfl, hb9⟩ := hr; have hE__ := cU HB bup hb9; replace HB := ck HB hE__; clear hE__; clear hb9))
                  all_goals
                    go_ret
                    refine ⟨?_, HB.out⟩
                    rw [HM.out]
                    first
                      | (simp [*]; done)
                      | (simp [*]; omega)
                      | (exfalso; rename_i hx; rcases hx with hx | ⟨_, hx⟩ <;> (simp at hx; omega))
                · have hWo0e : Wo = 0 := by omega
                  by_cases hWn0 : ¬ Wn = 0
                  · go_enter Try.func24, Try.ntmps24
                    go_wp2_with (first
 | ((with_reducible refine sl 1 ?_); (refine wpL_box rfl 27 (.tmp 0) rfl v.cells.toArray rfl ?_); intro w1 hg1 hb1; have HG1 := Hd hg1; have hE__ := cU HB bup hb1; replace HB := ck HB hE__; clear hE__; clear hg1 hb1; obtain ⟨c0, c1, c2, c3, c4, c5, c6, c7, c8, c9, c10⟩ := blk_cells HG1.out; simp only [PT])
 | ((with_reducible refine sl 13 ?_); refine wpL_load rfl 27 (.tmp 1) rfl w.heap.size 0 rfl v.cells _ (range_block HG1.out) Try.underlying27 rfl HBI.out ?_; simp only [PT])
 | (go_at_call 49; (refine (fits_any v _ (HV.out.below (HB.out.trans (Below.mono bup HB.out.size))) (by omega) (by omega)).mono ?_); intro e w5 hr; rw [← HF.out] at hr; obtain ⟨rfl, hb5⟩ := hr; have hE__ := cU HB bup hb5; replace HB := ck HB hE__; replace HG1 := ck HG1 hE__; clear hE__; clear hb5 c0 c1 c2 c3 c4 c5 c6 c7 c8 c9 c10; obtain ⟨c0, c1, c2, c3, c4, c5, c6, c7, c8, c9, c10⟩ := blk_cells HG1.out)
 | (go_at_call 50; (with_reducible show Calls _ _ #[Value.slice v.oad _ _] _ _); (refine (wrong_any v.oad v.on v.oc v.os _ (HV.out.2.2.below (HB.out.trans (Below.mono bup HB.out.size)))).mono ?_); intro e w' hr; rw [← HWo.out] at hr; obtain ⟨rfl, rfl⟩ := hr)
 | (go_at_call 50; (with_reducible show Calls _ _ #[Value.slice v.nad _ _] _ _); (refine (wrong_any v.nad v.nn v.nc v.ns _ (HV.out.2.1.below (HB.out.trans (Below.mono bup HB.out.size)))).mono ?_); intro e w' hr; rw [← HWn.out] at hr; obtain ⟨rfl, rfl⟩ := hr)
 | (go_at_call 51; (refine (refKind_any v.type ht _).mono ?_); intro e w9 hr; rw [← HKT.out] at hr; obtain ⟨rfl, hb9⟩ := hr; have hE__ := cU HB bup hb9; replace HB := ck HB hE__; clear hE__; clear hb9))
                    all_goals
                      go_ret
                      refine ⟨?_, HB.out⟩
                      rw [HM.out]
                      first
                        | (simp [*]; done)
                        | (simp [*]; omega)
                        | (exfalso; rename_i hx; rcases hx with hx | ⟨_, hx⟩ <;> (simp at hx; omega))
                  · have hWn0e : Wn = 0 := by omega
                    by_cases hk4 : v.kind = 4
                    · have hk7 : ¬ v.kind = 7 := by omega
                      by_cases hA : v.dn = v.len
                      · have hAi : (v.dn : Int) = (v.len : Int) := by omega
                        go_enter Try.func24, Try.ntmps24
                        go_wp2_with (first
 | ((with_reducible refine sl 1 ?_); (refine wpL_box rfl 27 (.tmp 0) rfl v.cells.toArray rfl ?_); intro w1 hg1 hb1; have HG1 := Hd hg1; have hE__ := cU HB bup hb1; replace HB := ck HB hE__; clear hE__; clear hg1 hb1; obtain ⟨c0, c1, c2, c3, c4, c5, c6, c7, c8, c9, c10⟩ := blk_cells HG1.out; simp only [PT])
 | ((with_reducible refine sl 13 ?_); refine wpL_load rfl 27 (.tmp 1) rfl w.heap.size 0 rfl v.cells _ (range_block HG1.out) Try.underlying27 rfl HBI.out ?_; simp only [PT])
 | (go_at_call 49; (refine (fits_any v _ (HV.out.below (HB.out.trans (Below.mono bup HB.out.size))) (by omega) (by omega)).mono ?_); intro e w5 hr; rw [← HF.out] at hr; obtain ⟨rfl, hb5⟩ := hr; have hE__ := cU HB bup hb5; replace HB := ck HB hE__; replace HG1 := ck HG1 hE__; clear hE__; clear hb5 c0 c1 c2 c3 c4 c5 c6 c7 c8 c9 c10; obtain ⟨c0, c1, c2, c3, c4, c5, c6, c7, c8, c9, c10⟩ := blk_cells HG1.out)
 | (go_at_call 50; (with_reducible show Calls _ _ #[Value.slice v.oad _ _] _ _); (refine (wrong_any v.oad v.on v.oc v.os _ (HV.out.2.2.below (HB.out.trans (Below.mono bup HB.out.size)))).mono ?_); intro e w' hr; rw [← HWo.out] at hr; obtain ⟨rfl, rfl⟩ := hr)
 | (go_at_call 50; (with_reducible show Calls _ _ #[Value.slice v.nad _ _] _ _); (refine (wrong_any v.nad v.nn v.nc v.ns _ (HV.out.2.1.below (HB.out.trans (Below.mono bup HB.out.size)))).mono ?_); intro e w' hr; rw [← HWn.out] at hr; obtain ⟨rfl, rfl⟩ := hr)
 | (go_at_call 51; (refine (refKind_any v.type ht _).mono ?_); intro e w9 hr; rw [← HKT.out] at hr; obtain ⟨rfl, hb9⟩ := hr; have hE__ := cU HB bup hb9; replace HB := ck HB hE__; clear hE__; clear hb9))
                        all_goals
                          go_ret
                          refine ⟨?_, HB.out⟩
                          rw [HM.out]
                          first
                            | (simp [*]; done)
                            | (simp [*]; omega)
                            | (exfalso; rename_i hx; rcases hx with hx | ⟨_, hx⟩ <;> (simp at hx; omega))
                      · have hAi : ¬ (v.dn : Int) = (v.len : Int) := by omega
                        by_cases hL : v.dn < v.len
                        · have hLi : (v.dn : Int) < (v.len : Int) := by omega
                          have hLj : ¬ (v.len : Int) < (v.dn : Int) := by omega
                          by_cases hm : v.dn % 4 = 0
                          · have hmi : (v.dn : Int) % 4 = 0 := by omega
                            go_enter Try.func24, Try.ntmps24
                            go_wp2_with (first
 | ((with_reducible refine sl 1 ?_); (refine wpL_box rfl 27 (.tmp 0) rfl v.cells.toArray rfl ?_); intro w1 hg1 hb1; have HG1 := Hd hg1; have hE__ := cU HB bup hb1; replace HB := ck HB hE__; clear hE__; clear hg1 hb1; obtain ⟨c0, c1, c2, c3, c4, c5, c6, c7, c8, c9, c10⟩ := blk_cells HG1.out; simp only [PT])
 | ((with_reducible refine sl 13 ?_); refine wpL_load rfl 27 (.tmp 1) rfl w.heap.size 0 rfl v.cells _ (range_block HG1.out) Try.underlying27 rfl HBI.out ?_; simp only [PT])
 | (go_at_call 49; (refine (fits_any v _ (HV.out.below (HB.out.trans (Below.mono bup HB.out.size))) (by omega) (by omega)).mono ?_); intro e w5 hr; rw [← HF.out] at hr; obtain ⟨rfl, hb5⟩ := hr; have hE__ := cU HB bup hb5; replace HB := ck HB hE__; replace HG1 := ck HG1 hE__; clear hE__; clear hb5 c0 c1 c2 c3 c4 c5 c6 c7 c8 c9 c10; obtain ⟨c0, c1, c2, c3, c4, c5, c6, c7, c8, c9, c10⟩ := blk_cells HG1.out)
 | (go_at_call 50; (with_reducible show Calls _ _ #[Value.slice v.oad _ _] _ _); (refine (wrong_any v.oad v.on v.oc v.os _ (HV.out.2.2.below (HB.out.trans (Below.mono bup HB.out.size)))).mono ?_); intro e w' hr; rw [← HWo.out] at hr; obtain ⟨rfl, rfl⟩ := hr)
 | (go_at_call 50; (with_reducible show Calls _ _ #[Value.slice v.nad _ _] _ _); (refine (wrong_any v.nad v.nn v.nc v.ns _ (HV.out.2.1.below (HB.out.trans (Below.mono bup HB.out.size)))).mono ?_); intro e w' hr; rw [← HWn.out] at hr; obtain ⟨rfl, rfl⟩ := hr)
 | (go_at_call 51; (refine (refKind_any v.type ht _).mono ?_); intro e w9 hr; rw [← HKT.out] at hr; obtain ⟨rfl, hb9⟩ := hr; have hE__ := cU HB bup hb9; replace HB := ck HB hE__; clear hE__; clear hb9))
                            all_goals
                              go_ret
                              refine ⟨?_, HB.out⟩
                              rw [HM.out]
                              first
                                | (simp [*]; done)
                                | (simp [*]; omega)
                                | (exfalso; rename_i hx; rcases hx with hx | ⟨_, hx⟩ <;> (simp at hx; omega))
                          · have hmi : ¬ (v.dn : Int) % 4 = 0 := by omega
                            go_enter Try.func24, Try.ntmps24
                            go_wp2_with (first
 | ((with_reducible refine sl 1 ?_); (refine wpL_box rfl 27 (.tmp 0) rfl v.cells.toArray rfl ?_); intro w1 hg1 hb1; have HG1 := Hd hg1; have hE__ := cU HB bup hb1; replace HB := ck HB hE__; clear hE__; clear hg1 hb1; obtain ⟨c0, c1, c2, c3, c4, c5, c6, c7, c8, c9, c10⟩ := blk_cells HG1.out; simp only [PT])
 | ((with_reducible refine sl 13 ?_); refine wpL_load rfl 27 (.tmp 1) rfl w.heap.size 0 rfl v.cells _ (range_block HG1.out) Try.underlying27 rfl HBI.out ?_; simp only [PT])
 | (go_at_call 49; (refine (fits_any v _ (HV.out.below (HB.out.trans (Below.mono bup HB.out.size))) (by omega) (by omega)).mono ?_); intro e w5 hr; rw [← HF.out] at hr; obtain ⟨rfl, hb5⟩ := hr; have hE__ := cU HB bup hb5; replace HB := ck HB hE__; replace HG1 := ck HG1 hE__; clear hE__; clear hb5 c0 c1 c2 c3 c4 c5 c6 c7 c8 c9 c10; obtain ⟨c0, c1, c2, c3, c4, c5, c6, c7, c8, c9, c10⟩ := blk_cells HG1.out)
 | (go_at_call 50; (with_reducible show Calls _ _ #[Value.slice v.oad _ _] _ _); (refine (wrong_any v.oad v.on v.oc v.os _ (HV.out.2.2.below (HB.out.trans (Below.mono bup HB.out.size)))).mono ?_); intro e w' hr; rw [← HWo.out] at hr; obtain ⟨rfl, rfl⟩ := hr)
 | (go_at_call 50; (with_reducible show Calls _ _ #[Value.slice v.nad _ _] _ _); (refine (wrong_any v.nad v.nn v.nc v.ns _ (HV.out.2.1.below (HB.out.trans (Below.mono bup HB.out.size)))).mono ?_); intro e w' hr; rw [← HWn.out] at hr; obtain ⟨rfl, rfl⟩ := hr)
 | (go_at_call 51; (refine (refKind_any v.type ht _).mono ?_); intro e w9 hr; rw [← HKT.out] at hr; obtain ⟨rfl, hb9⟩ := hr; have hE__ := cU HB bup hb9; replace HB := ck HB hE__; clear hE__; clear hb9))
                            all_goals
                              go_ret
                              refine ⟨?_, HB.out⟩
                              rw [HM.out]
                              first
                                | (simp [*]; done)
                                | (simp [*]; omega)
                                | (exfalso; rename_i hx; rcases hx with hx | ⟨_, hx⟩ <;> (simp at hx; omega))
                        · have hLi : ¬ (v.dn : Int) < (v.len : Int) := by omega
                          have hLj : (v.len : Int) < (v.dn : Int) := by omega
                          go_enter Try.func24, Try.ntmps24
                          go_wp2_with (first
 | ((with_reducible refine sl 1 ?_); (refine wpL_box rfl 27 (.tmp 0) rfl v.cells.toArray rfl ?_); intro w1 hg1 hb1; have HG1 := Hd hg1; have hE__ := cU HB bup hb1; replace HB := ck HB hE__; clear hE__; clear hg1 hb1; obtain ⟨c0, c1, c2, c3, c4, c5, c6, c7, c8, c9, c10⟩ := blk_cells HG1.out; simp only [PT])
 | ((with_reducible refine sl 13 ?_); refine wpL_load rfl 27 (.tmp 1) rfl w.heap.size 0 rfl v.cells _ (range_block HG1.out) Try.underlying27 rfl HBI.out ?_; simp only [PT])
 | (go_at_call 49; (refine (fits_any v _ (HV.out.below (HB.out.trans (Below.mono bup HB.out.size))) (by omega) (by omega)).mono ?_); intro e w5 hr; rw [← HF.out] at hr; obtain ⟨rfl, hb5⟩ := hr; have hE__ := cU HB bup hb5; replace HB := ck HB hE__; replace HG1 := ck HG1 hE__; clear hE__; clear hb5 c0 c1 c2 c3 c4 c5 c6 c7 c8 c9 c10; obtain ⟨c0, c1, c2, c3, c4, c5, c6, c7, c8, c9, c10⟩ := blk_cells HG1.out)
 | (go_at_call 50; (with_reducible show Calls _ _ #[Value.slice v.oad _ _] _ _); (refine (wrong_any v.oad v.on v.oc v.os _ (HV.out.2.2.below (HB.out.trans (Below.mono bup HB.out.size)))).mono ?_); intro e w' hr; rw [← HWo.out] at hr; obtain ⟨rfl, rfl⟩ := hr)
 | (go_at_call 50; (with_reducible show Calls _ _ #[Value.slice v.nad _ _] _ _); (refine (wrong_any v.nad v.nn v.nc v.ns _ (HV.out.2.1.below (HB.out.trans (Below.mono bup HB.out.size)))).mono ?_); intro e w' hr; rw [← HWn.out] at hr; obtain ⟨rfl, rfl⟩ := hr)
 | (go_at_call 51; (refine (refKind_any v.type ht _).mono ?_); intro e w9 hr; rw [← HKT.out] at hr; obtain ⟨rfl, hb9⟩ := hr; have hE__ := cU HB bup hb9; replace HB := ck HB hE__; clear hE__; clear hb9))
                          all_goals
                            go_ret
                            refine ⟨?_, HB.out⟩
                            rw [HM.out]
                            first
                              | (simp [*]; done)
                              | (simp [*]; omega)
                              | (exfalso; rename_i hx; rcases hx with hx | ⟨_, hx⟩ <;> (simp at hx; omega))
                    · by_cases hk7 : v.kind = 7
                      · by_cases hm : v.dn % 4 = 0
                        · have hmi : (v.dn : Int) % 4 = 0 := by omega
                          go_enter Try.func24, Try.ntmps24
                          go_wp2_with (first
 | ((with_reducible refine sl 1 ?_); (refine wpL_box rfl 27 (.tmp 0) rfl v.cells.toArray rfl ?_); intro w1 hg1 hb1; have HG1 := Hd hg1; have hE__ := cU HB bup hb1; replace HB := ck HB hE__; clear hE__; clear hg1 hb1; obtain ⟨c0, c1, c2, c3, c4, c5, c6, c7, c8, c9, c10⟩ := blk_cells HG1.out; simp only [PT])
 | ((with_reducible refine sl 13 ?_); refine wpL_load rfl 27 (.tmp 1) rfl w.heap.size 0 rfl v.cells _ (range_block HG1.out) Try.underlying27 rfl HBI.out ?_; simp only [PT])
 | (go_at_call 49; (refine (fits_any v _ (HV.out.below (HB.out.trans (Below.mono bup HB.out.size))) (by omega) (by omega)).mono ?_); intro e w5 hr; rw [← HF.out] at hr; obtain ⟨rfl, hb5⟩ := hr; have hE__ := cU HB bup hb5; replace HB := ck HB hE__; replace HG1 := ck HG1 hE__; clear hE__; clear hb5 c0 c1 c2 c3 c4 c5 c6 c7 c8 c9 c10; obtain ⟨c0, c1, c2, c3, c4, c5, c6, c7, c8, c9, c10⟩ := blk_cells HG1.out)
 | (go_at_call 50; (with_reducible show Calls _ _ #[Value.slice v.oad _ _] _ _); (refine (wrong_any v.oad v.on v.oc v.os _ (HV.out.2.2.below (HB.out.trans (Below.mono bup HB.out.size)))).mono ?_); intro e w' hr; rw [← HWo.out] at hr; obtain ⟨rfl, rfl⟩ := hr)
 | (go_at_call 50; (with_reducible show Calls _ _ #[Value.slice v.nad _ _] _ _); (refine (wrong_any v.nad v.nn v.nc v.ns _ (HV.out.2.1.below (HB.out.trans (Below.mono bup HB.out.size)))).mono ?_); intro e w' hr; rw [← HWn.out] at hr; obtain ⟨rfl, rfl⟩ := hr)
 | (go_at_call 51; (refine (refKind_any v.type ht _).mono ?_); intro e w9 hr; rw [← HKT.out] at hr; obtain ⟨rfl, hb9⟩ := hr; have hE__ := cU HB bup hb9; replace HB := ck HB hE__; clear hE__; clear hb9))
                          all_goals
                            go_ret
                            refine ⟨?_, HB.out⟩
                            rw [HM.out]
                            first
                              | (simp [*]; done)
                              | (simp [*]; omega)
                              | (exfalso; rename_i hx; rcases hx with hx | ⟨_, hx⟩ <;> (simp at hx; omega))
                        · have hmi : ¬ (v.dn : Int) % 4 = 0 := by omega
                          go_enter Try.func24, Try.ntmps24
                          go_wp2_with (first
 | ((with_reducible refine sl 1 ?_); (refine wpL_box rfl 27 (.tmp 0) rfl v.cells.toArray rfl ?_); intro w1 hg1 hb1; have HG1 := Hd hg1; have hE__ := cU HB bup hb1; replace HB := ck HB hE__; clear hE__; clear hg1 hb1; obtain ⟨c0, c1, c2, c3, c4, c5, c6, c7, c8, c9, c10⟩ := blk_cells HG1.out; simp only [PT])
 | ((with_reducible refine sl 13 ?_); refine wpL_load rfl 27 (.tmp 1) rfl w.heap.size 0 rfl v.cells _ (range_block HG1.out) Try.underlying27 rfl HBI.out ?_; simp only [PT])
 | (go_at_call 49; (refine (fits_any v _ (HV.out.below (HB.out.trans (Below.mono bup HB.out.size))) (by omega) (by omega)).mono ?_); intro e w5 hr; rw [← HF.out] at hr; obtain ⟨rfl, hb5⟩ := hr; have hE__ := cU HB bup hb5; replace HB := ck HB hE__; replace HG1 := ck HG1 hE__; clear hE__; clear hb5 c0 c1 c2 c3 c4 c5 c6 c7 c8 c9 c10; obtain ⟨c0, c1, c2, c3, c4, c5, c6, c7, c8, c9, c10⟩ := blk_cells HG1.out)
 | (go_at_call 50; (with_reducible show Calls _ _ #[Value.slice v.oad _ _] _ _); (refine (wrong_any v.oad v.on v.oc v.os _ (HV.out.2.2.below (HB.out.trans (Below.mono bup HB.out.size)))).mono ?_); intro e w' hr; rw [← HWo.out] at hr; obtain ⟨rfl, rfl⟩ := hr)
 | (go_at_call 50; (with_reducible show Calls _ _ #[Value.slice v.nad _ _] _ _); (refine (wrong_any v.nad v.nn v.nc v.ns _ (HV.out.2.1.below (HB.out.trans (Below.mono bup HB.out.size)))).mono ?_); intro e w' hr; rw [← HWn.out] at hr; obtain ⟨rfl, rfl⟩ := hr)
 | (go_at_call 51; (refine (refKind_any v.type ht _).mono ?_); intro e w9 hr; rw [← HKT.out] at hr; obtain ⟨rfl, hb9⟩ := hr; have hE__ := cU HB bup hb9; replace HB := ck HB hE__; clear hE__; clear hb9))
                          all_goals
                            go_ret
                            refine ⟨?_, HB.out⟩
                            rw [HM.out]
                            first
                              | (simp [*]; done)
                              | (simp [*]; omega)
                              | (exfalso; rename_i hx; rcases hx with hx | ⟨_, hx⟩ <;> (simp at hx; omega))
                      · go_enter Try.func24, Try.ntmps24
                        go_wp2_with (first
 | ((with_reducible refine sl 1 ?_); (refine wpL_box rfl 27 (.tmp 0) rfl v.cells.toArray rfl ?_); intro w1 hg1 hb1; have HG1 := Hd hg1; have hE__ := cU HB bup hb1; replace HB := ck HB hE__; clear hE__; clear hg1 hb1; obtain ⟨c0, c1, c2, c3, c4, c5, c6, c7, c8, c9, c10⟩ := blk_cells HG1.out; simp only [PT])
 | ((with_reducible refine sl 13 ?_); refine wpL_load rfl 27 (.tmp 1) rfl w.heap.size 0 rfl v.cells _ (range_block HG1.out) Try.underlying27 rfl HBI.out ?_; simp only [PT])
 | (go_at_call 49; (refine (fits_any v _ (HV.out.below (HB.out.trans (Below.mono bup HB.out.size))) (by omega) (by omega)).mono ?_); intro e w5 hr; rw [← HF.out] at hr; obtain ⟨rfl, hb5⟩ := hr; have hE__ := cU HB bup hb5; replace HB := ck HB hE__; replace HG1 := ck HG1 hE__; clear hE__; clear hb5 c0 c1 c2 c3 c4 c5 c6 c7 c8 c9 c10; obtain ⟨c0, c1, c2, c3, c4, c5, c6, c7, c8, c9, c10⟩ := blk_cells HG1.out)
 | (go_at_call 50; (with_reducible show Calls _ _ #[Value.slice v.oad _ _] _ _); (refine (wrong_any v.oad v.on v.oc v.os _ (HV.out.2.2.below (HB.out.trans (Below.mono bup HB.out.size)))).mono ?_); intro e w' hr; rw [← HWo.out] at hr; obtain ⟨rfl, rfl⟩ := hr)
 | (go_at_call 50; (with_reducible show Calls _ _ #[Value.slice v.nad _ _] _ _); (refine (wrong_any v.nad v.nn v.nc v.ns _ (HV.out.2.1.below (HB.out.trans (Below.mono bup HB.out.size)))).mono ?_); intro e w' hr; rw [← HWn.out] at hr; obtain ⟨rfl, rfl⟩ := hr)
 | (go_at_call 51; (refine (refKind_any v.type ht _).mono ?_); intro e w9 hr; rw [← HKT.out] at hr; obtain ⟨rfl, hb9⟩ := hr; have hE__ := cU HB bup hb9; replace HB := ck HB hE__; clear hE__; clear hb9))
                        all_goals
                          go_ret
                          refine ⟨?_, HB.out⟩
                          rw [HM.out]
                          first
                            | (simp [*]; done)
                            | (simp [*]; omega)
                            | (exfalso; rename_i hx; rcases hx with hx | ⟨_, hx⟩ <;> (simp at hx; omega))
theorem refBytes_any (v : BlkV) (big : Bool) (w : World) (hv : Blk w v) (hf : SmB v) (hm : mayP v.val = true) (hw : wfB v.val) :
    Calls Try.prog 25 #[.agg v.cells.toArray, .bool big] w (RetB 5 (bytesB big v.val) w) := by
  have hkk : 1 ≤ v.kind ∧ v.kind ≤ 7 := ((mayP_iff v.val).1 hm).1
  have hk : v.kind = 1 ∨ v.kind = 2 ∨ v.kind = 3 ∨ v.kind = 4 ∨ v.kind = 5 ∨ v.kind = 6 ∨ v.kind = 7 := by omega
  rcases hk with hk | hk | hk | hk | hk | hk | hk
  · exact refBytes1 v big w hv hk hf hm hw
  · exact refBytes2 v big w hv hk hf hm hw
  · exact refBytes3 v big w hv hk hf hm hw
  · exact refBytes4 v big w hv hk hf hm hw
  · by_cases hne : vals v.ns = []
    · exact refBytes5a v big w hv hk hne hf hm hw
    · exact refBytes5b v big w hv hk hne hf hm hw
  · exact refBytes6 v big w hv hk hf hm hw
  · exact refBytes7 v big w hv hk hf hm hw
theorem refRight_any (v : BlkV) (w : World) (hv : Blk w v) (hf : SmB v) (hw : wfB v.val) :
    Calls Try.prog 20 #[.agg v.cells.toArray] w fun e w' => e = .returned (.bool (rightP v.val)) ∧ Below w.heap.size w w' := by
  have HB := Hd (Below.refl w.heap.size w)
  have HV := Hd hv
  have HF := Hd hf
  have HWF := Hd hw
  have hl : v.len < 4294967296 := hw.2.2.2
  have ht : v.type < 4294967296 := hw.1
  have HBI := Hd blk_info
  have HR : Hid (rightP v.val = (mayP v.val && decide (sizeB v.val ≤ 1048576))) := Hd rfl
  by_cases hm : mayP v.val = true
  rotate_left
  · have hm' : false = mayP v.val := by cases h : mayP v.val <;> simp_all
    have HM := Hd hm'
    clear hv hf hw hm hm'
    go_enter Try.func20, Try.ntmps20
    go_wp2_with (first
 | ((with_reducible refine sl 1 ?_); (refine wpL_boxG rfl 27 (.tmp 0) rfl v.cells.toArray rfl ?_); intro w1 g1 he__ le_g1 lt_g1 hg__ hb__; have HG1 := Hd hg__; have hE__ := cU HB bup hb__; replace HB := ck HB hE__; clear hE__; clear hg__ hb__ he__; simp only [PT])
 | ((with_reducible refine sl 3 ?_); (refine wpL_load rfl 27 (.tmp 1) rfl g1 0 rfl v.cells _ (range_block HG1.out) Try.underlying27 rfl HBI.out ?_); simp only [PT])
 | (go_at_call 24; (refine (refMay_any v _ (HV.out.below (HB.out.trans (Below.mono bup HB.out.size))) hl ht).mono ?_); intro e w5 hr; rw [← HM.out] at hr; obtain ⟨rfl, hb__⟩ := hr; have hE__ := cU HB bup hb__; replace HB := ck HB hE__; replace HG1 := ck HG1 hE__; clear hE__; clear hb__))
    go_ret
    exact ⟨by rw [HR.out, ← HM.out]; rfl, HB.out⟩
  · have HM := Hd hm.symm
    obtain ⟨L, hL⟩ : ∃ L, L = bytesB true v.val := ⟨_, rfl⟩
    have hLl : L.length = sizeB v.val := by rw [hL, bytesB_length]
    have HLL := Hd hLl
    have HL := Hd hL
    by_cases hs : L.length ≤ 1048576
    · have hsi : (L.length : Int) ≤ 1048576 := by omega
      have HS := Hd hs
      clear hv hf hw hm hL hLl hs
      go_enter Try.func20, Try.ntmps20
      go_wp2_with (first
 | ((with_reducible refine sl 1 ?_); (refine wpL_boxG rfl 27 (.tmp 0) rfl v.cells.toArray rfl ?_); intro w1 g1 he__ le_g1 lt_g1 hg__ hb__; have HG1 := Hd hg__; have hE__ := cU HB bup hb__; replace HB := ck HB hE__; clear hE__; clear hg__ hb__ he__; simp only [PT])
 | ((with_reducible refine sl 3 ?_); (refine wpL_load rfl 27 (.tmp 1) rfl g1 0 rfl v.cells _ (range_block HG1.out) Try.underlying27 rfl HBI.out ?_); simp only [PT])
 | ((with_reducible refine sl 6 ?_); (refine wpL_load rfl 27 (.tmp 1) rfl g1 0 rfl v.cells _ (range_block HG1.out) Try.underlying27 rfl HBI.out ?_); simp only [PT])
 | (go_at_call 24; (refine (refMay_any v _ (HV.out.below (HB.out.trans (Below.mono bup HB.out.size))) hl ht).mono ?_); intro e w5 hr; rw [← HM.out] at hr; obtain ⟨rfl, hb__⟩ := hr; have hE__ := cU HB bup hb__; replace HB := ck HB hE__; replace HG1 := ck HG1 hE__; clear hE__; clear hb__)
 | (go_at_call 25; (refine (refBytes_any v true _ (HV.out.below (HB.out.trans (Below.mono bup HB.out.size))) HF.out HM.out.symm HWF.out).mono ?_); intro e w6 hr; rw [← HL.out] at hr; unfold RetB at hr; obtain ⟨ad6, c6, rfl, ho6, hb__⟩ := hr; have hE__ := cU HB bup hb__; replace HB := ck HB hE__; replace HG1 := ck HG1 hE__; clear hE__; clear hb__ ho6))
      go_ret
      exact ⟨by rw [HR.out, ← HM.out, ← HLL.out]; simp [HS.out], HB.out⟩
    · have hsi : ¬ (L.length : Int) ≤ 1048576 := by omega
      have HS := Hd hs
      clear hv hf hw hm hL hLl hs
      go_enter Try.func20, Try.ntmps20
      go_wp2_with (first
 | ((with_reducible refine sl 1 ?_); (refine wpL_boxG rfl 27 (.tmp 0) rfl v.cells.toArray rfl ?_); intro w1 g1 he__ le_g1 lt_g1 hg__ hb__; have HG1 := Hd hg__; have hE__ := cU HB bup hb__; replace HB := ck HB hE__; clear hE__; clear hg__ hb__ he__; simp only [PT])
 | ((with_reducible refine sl 3 ?_); (refine wpL_load rfl 27 (.tmp 1) rfl g1 0 rfl v.cells _ (range_block HG1.out) Try.underlying27 rfl HBI.out ?_); simp only [PT])
 | ((with_reducible refine sl 6 ?_); (refine wpL_load rfl 27 (.tmp 1) rfl g1 0 rfl v.cells _ (range_block HG1.out) Try.underlying27 rfl HBI.out ?_); simp only [PT])
 | (go_at_call 24; (refine (refMay_any v _ (HV.out.below (HB.out.trans (Below.mono bup HB.out.size))) hl ht).mono ?_); intro e w5 hr; rw [← HM.out] at hr; obtain ⟨rfl, hb__⟩ := hr; have hE__ := cU HB bup hb__; replace HB := ck HB hE__; replace HG1 := ck HG1 hE__; clear hE__; clear hb__)
 | (go_at_call 25; (refine (refBytes_any v true _ (HV.out.below (HB.out.trans (Below.mono bup HB.out.size))) HF.out HM.out.symm HWF.out).mono ?_); intro e w6 hr; rw [← HL.out] at hr; unfold RetB at hr; obtain ⟨ad6, c6, rfl, ho6, hb__⟩ := hr; have hE__ := cU HB bup hb__; replace HB := ck HB hE__; replace HG1 := ck HG1 hE__; clear hE__; clear hb__ ho6))
      go_ret
      exact ⟨by rw [HR.out, ← HM.out, ← HLL.out]; (simp [HS.out]; omega), HB.out⟩
theorem refBytes_right (L : List UInt8) (v : BlkV) (big : Bool) (hL : L = bytesB big v.val) (hm : mayP v.val = true) (w : World) (hv : Blk w v) (hf : SmB v) (hw : wfB v.val) :
    Calls Try.prog 25 #[.agg v.cells.toArray, .bool big] w fun e w' => ∃ ad c, e = .returned (.slice ad L.length c) ∧ w'.ownsRow w.heap.size 5 1 (.slice ad L.length c) L.length (BV L) ∧ Below w.heap.size w w' := by
  subst hL
  exact refBytes_any v big w hv hf hm hw
theorem refRight_at (B : Bool) (v : BlkV) (hB : rightP v.val = B) (w : World) (hv : Blk w v) (hf : SmB v) (hl : wfB v.val) :
    Calls Try.prog 20 #[.agg v.cells.toArray] w fun e w' => e = .returned (.bool B) ∧ Below w.heap.size w w' := by
  have := refRight_any v w hv hf hl
  rwa [hB] at this
theorem refRightC_any (ad : Option Addr) (n c : Nat) (vs : List BlkV) (w : World) (hv : Blks w ad n c vs) (hn : n ≤ 1000000) (hall : ∀ v ∈ vs, SmB v ∧ wfB v.val) :
    Calls Try.prog 31 #[.slice ad n c] w fun e w' => e = .returned (.bool (rightC (bvals vs))) ∧ Below w.heap.size w w' := by
  have HV := Hd hv
  have HLN := Hd hv.len
  have HBI := Hd blk_info
  have HALL := Hd hall
  obtain ⟨RC, hRC⟩ : ∃ R, rightC (bvals vs) = R := ⟨_, rfl⟩
  rw [hRC]
  have HRC := Hd hRC
  clear hv hall hRC
  go_enter Try.func31, Try.ntmps31
  go_wp2
  go_loopw [3] (fun i wr => ∃ (k : Nat), k ≤ n ∧ i = .int .i64 (k : Int) ∧ Hid (allS noS (bvals (vs.take k)) = true) ∧ Hid (Below w.heap.size w wr)) (fun i _ => n - (intOf i).toNat)
  case atStart => exact ⟨0, by omega, rfl, Hd rfl, Hd (Below.refl _ _)⟩
  case round =>
    obtain ⟨k, hk, rfl, HA, HB⟩ := hrel
    by_cases hend : k = n
    · subst hend
      have HT : Hid (vs.take k = vs) := Hd (by rw [HLN.out, List.take_length])
      by_cases h0 : 0 < k
      · have hR : RC = true := by rw [← HRC.out]; unfold rightC; have h := HA.out; rw [HT.out] at h; rw [h, bvals_length, ← HLN.out]; simpa using h0
        subst hR
        go_wp2
        go_ret
        exact ⟨rfl, HB.out⟩
      · have hR : RC = false := by rw [← HRC.out]; unfold rightC; rw [bvals_length, ← HLN.out]; simp; omega
        subst hR
        go_wp2
        go_ret
        exact ⟨rfl, HB.out⟩
    · have hlt : k < n := by omega
      obtain ⟨x, hx⟩ : ∃ x, x = vs[k]'(by have := HLN.out; omega) := ⟨_, rfl⟩
      have HX := Hd (show vs[k]? = some x by rw [hx]; exact List.getElem?_eq_getElem (by have := HLN.out; omega))
      have HW := Hd (HALL.out x (by rw [hx]; exact List.getElem_mem _))
      have HBX := Hd (HV.out.2 x (by rw [hx]; exact List.getElem_mem _))
      have HTK : Hid (bvals (vs.take (k + 1)) = bvals (vs.take k) ++ [x.val]) := Hd (by rw [hx]; exact bvals_take vs k (by have := HLN.out; omega))
      have HSP : Hid (bvals vs = bvals (vs.take k) ++ (x.val :: bvals (vs.drop (k + 1)))) := Hd (by rw [hx]; exact bvals_split vs k (by have := HLN.out; omega))
      obtain ⟨b, off, rfl, hbl, hat⟩ := (HV.out.below HB.out).at (by have := HLN.out; omega)
      have HR := Hd (show wr.rangeAt b (off + k * 11) x.cells by rw [hx]; exact hat k (by have := HLN.out; omega))
      clear hx hat
      obtain ⟨R1, h1⟩ : ∃ R, rightP x.val = R := ⟨_, rfl⟩
      obtain ⟨R2, h2⟩ : ∃ R, okS (stS noS (bvals (vs.take k))) x.val = R := ⟨_, rfl⟩
      have HR1 := Hd h1
      have HR2 := Hd h2
      have HG : Hid (goS (stS noS (bvals (vs.take k))) x.val = (R2 && R1)) := Hd (by unfold goS; rw [h1, h2])
      clear h1 h2
      have HSTOP : ∀ _ : (R2 && R1) = false, Hid (RC = false) := fun h => Hd (by rw [← HRC.out]; unfold rightC; rw [HSP.out, allS_stop _ _ _ _ (by rw [HG.out, h])]; rfl)
      cases R1
      · have HF := HSTOP (by simp)
        clear HSTOP
        go_wp2_with (first
 | ((with_reducible refine sl 13 ?_); (refine wpL_load rfl 27 (.tmp 12) rfl b (off + k * 11) rfl x.cells _ HR.out Try.underlying27 rfl HBI.out ?_); simp only [PT])
 | (go_at_call 20; (refine (refRight_at _ x HR1.out _ (HBX.out.below HB.out) HW.out.1 HW.out.2).mono ?_); intro e w6 hr; obtain ⟨rfl, hb__⟩ := hr; have hE__ := cU HB bup hb__; replace HB := ck HB hE__; clear hE__; clear hb__)
 | (go_at_call 65; (refine (fits27_any _ (some ⟨b, off, none⟩) n c vs k x HR2.out _ (HV.out.below HB.out) hn (by omega) HX.out).mono ?_); intro e w7 hr; obtain ⟨rfl, hb__⟩ := hr; have hE__ := cU HB bup hb__; replace HB := ck HB hE__; clear hE__; clear hb__))
        go_ret
        exact ⟨by rw [HF.out]; rfl, HB.out⟩
      cases R2
      · have HF := HSTOP (by simp)
        clear HSTOP
        go_wp2_with (first
 | ((with_reducible refine sl 13 ?_); (refine wpL_load rfl 27 (.tmp 12) rfl b (off + k * 11) rfl x.cells _ HR.out Try.underlying27 rfl HBI.out ?_); simp only [PT])
 | (go_at_call 20; (refine (refRight_at _ x HR1.out _ (HBX.out.below HB.out) HW.out.1 HW.out.2).mono ?_); intro e w6 hr; obtain ⟨rfl, hb__⟩ := hr; have hE__ := cU HB bup hb__; replace HB := ck HB hE__; clear hE__; clear hb__)
 | (go_at_call 65; (refine (fits27_any _ (some ⟨b, off, none⟩) n c vs k x HR2.out _ (HV.out.below HB.out) hn (by omega) HX.out).mono ?_); intro e w7 hr; obtain ⟨rfl, hb__⟩ := hr; have hE__ := cU HB bup hb__; replace HB := ck HB hE__; clear hE__; clear hb__))
        go_ret
        exact ⟨by rw [HF.out]; rfl, HB.out⟩
      clear HSTOP
      go_wp2_with (first
 | ((with_reducible refine sl 13 ?_); (refine wpL_load rfl 27 (.tmp 12) rfl b (off + k * 11) rfl x.cells _ HR.out Try.underlying27 rfl HBI.out ?_); simp only [PT])
 | (go_at_call 20; (refine (refRight_at _ x HR1.out _ (HBX.out.below HB.out) HW.out.1 HW.out.2).mono ?_); intro e w6 hr; obtain ⟨rfl, hb__⟩ := hr; have hE__ := cU HB bup hb__; replace HB := ck HB hE__; clear hE__; clear hb__)
 | (go_at_call 65; (refine (fits27_any _ (some ⟨b, off, none⟩) n c vs k x HR2.out _ (HV.out.below HB.out) hn (by omega) HX.out).mono ?_); intro e w7 hr; obtain ⟨rfl, hb__⟩ := hr; have hE__ := cU HB bup hb__; replace HB := ck HB hE__; clear hE__; clear hb__))
      go_roundw
      case rel => exact ⟨k + 1, by omega, by go_num, Hd (by rw [HTK.out, allS_snoc, HA.out, HG.out]; rfl), HB⟩
      case measure => first | (simp [intOf]; done) | (simp [intOf]; omega)
theorem refBytesC_any (L : List UInt8) (ad : Option Addr) (n c : Nat) (vs : List BlkV) (hL : L = bytesC noS (bvals vs)) (w : World) (hv : Blks w ad n c vs) (hn : n ≤ 1000000) (hall : ∀ v ∈ vs, SmB v ∧ wfB v.val) (hr : allS noS (bvals vs) = true) :
    Calls Try.prog 33 #[.slice ad n c] w fun e w' => ∃ ad c, e = .returned (.slice ad L.length c) ∧ w'.ownsRow w.heap.size 5 1 (.slice ad L.length c) L.length (BV L) ∧ Below w.heap.size w w' := by
  subst hL
  have HV := Hd hv
  have HLN := Hd hv.len
  have HBI := Hd blk_info
  have HALL := Hd hall
  have HRT := Hd hr
  clear hv hall hr
  go_enter Try.func33, Try.ntmps33
  go_wp2
  go_loopw [3, 4] (fun o i wr => ∃ (k : Nat) (ad' : Option Addr) (c' : Nat) (M : List UInt8), k ≤ n ∧ i = .int .i64 (k : Int) ∧ o = .slice ad' M.length c' ∧ M.length ≤ 1048576 * k ∧ Hid (M = bytesC noS (bvals (vs.take k))) ∧ Hid (wr.ownsRow w.heap.size 5 1 (.slice ad' M.length c') M.length (BV M)) ∧ Hid (Below w.heap.size w wr)) (fun _ i _ => n - (intOf i).toNat)
  case atStart => exact ⟨0, none, 0, [], by omega, rfl, rfl, by simp, Hd rfl, Hd (World.ownsRow_nil _ _ _ _), Hd (Below.refl _ _)⟩
  case round =>
    obtain ⟨k, ad', c', M, hk, rfl, rfl, hM, HM, HO, HB⟩ := hrel
    by_cases hend : k = n
    · subst hend
      have HT : Hid (vs.take k = vs) := Hd (by rw [HLN.out, List.take_length])
      have HE : Hid (M = bytesC noS (bvals vs)) := Hd (by rw [HM.out, HT.out])
      go_wp2
      go_ret
      rw [← HE.out]
      exact ⟨ad', c', rfl, HO.out, HB.out⟩
    · have hlt : k < n := by omega
      obtain ⟨x, hx⟩ : ∃ x, x = vs[k]'(by have := HLN.out; omega) := ⟨_, rfl⟩
      have HW := Hd (HALL.out x (by rw [hx]; exact List.getElem_mem _))
      have HBX := Hd (HV.out.2 x (by rw [hx]; exact List.getElem_mem _))
      have HTK : Hid (bvals (vs.take (k + 1)) = bvals (vs.take k) ++ [x.val]) := Hd (by rw [hx]; exact bvals_take vs k (by have := HLN.out; omega))
      have HSP : Hid (bvals vs = bvals (vs.take k) ++ (x.val :: bvals (vs.drop (k + 1)))) := Hd (by rw [hx]; exact bvals_split vs k (by have := HLN.out; omega))
      obtain ⟨b, off, rfl, hbl, hat⟩ := (HV.out.below HB.out).at (by have := HLN.out; omega)
      have HR := Hd (show wr.rangeAt b (off + k * 11) x.cells by rw [hx]; exact hat k (by have := HLN.out; omega))
      clear hx hat
      obtain ⟨S, B, SL, hs⟩ : ∃ S B L, stS noS (bvals (vs.take k)) = ⟨S, B, L⟩ := ⟨_, _, _, rfl⟩
      obtain ⟨N, hN⟩ : ∃ N, SL.length = N := ⟨_, rfl⟩
      have HST := Hd hs
      have HN := Hd hN
      have hgo : goS (stS noS (bvals (vs.take k))) x.val = true := by
        have h := HRT.out
        rw [HSP.out, allS_append, Bool.and_eq_true] at h
        have h2 := h.2
        simp only [allS, Bool.and_eq_true] at h2
        exact h2.1
      have HGO := Hd (goS_parts hgo)
      obtain ⟨Y, hY⟩ : ∃ Y, Y = bytesB B x.val := ⟨_, rfl⟩
      have hYl : Y.length ≤ 1048576 := by rw [hY, bytesB_length]; exact HGO.out.2.2
      have HY := Hd hY
      have HM2 : Hid (M ++ Y = bytesC noS (bvals (vs.take (k + 1)))) := Hd (by rw [HTK.out, bytesC_snoc, HM.out, hY, hs])
      clear hs hN hgo hY
      go_wp2_with (first
 | (go_at_call 66; (refine (snaps_at S B SL N (some ⟨b, off, none⟩) n c vs k HST.out HN.out _ (HV.out.below HB.out) hn (by omega)).mono ?_); intro e w6 hr; obtain ⟨sad, sc, rfl, _, hb__⟩ := hr; have hE__ := cU HB bup hb__; replace HB := ck HB hE__; replace HO := ck HO hE__; replace HR := ck HR hE__; clear hE__; clear hb__)
 | ((with_reducible refine sl 25 ?_); (refine wpL_load rfl 27 (.tmp 24) rfl b (off + k * 11) rfl x.cells _ HR.out Try.underlying27 rfl HBI.out ?_); simp only [PT])
 | (go_at_call 25; (refine (refBytes_right Y x B HY.out HGO.out.2.1 _ (HBX.out.below HB.out) HW.out.1 HW.out.2).mono ?_); intro e w7 hr; obtain ⟨ay, cy, rfl, hy, hb__⟩ := hr; have HYO := Hd (Bs.of_own hy); have hE__ := cU HB bup hb__; replace HB := ck HB hE__; replace HO := ck HO hE__; clear hE__; clear hb__ hy)
 | ((with_reducible refine sl 28 ?_); (refine wpL_appL elB rfl (.tmp 21) (.tmp 27) rfl w.heap.size rfl HO.out rfl HYO.out (M ++ Y) rfl (by rw [List.length_append]; omega) HB.out.size ?_); intro ad9 c9 w9 ho__ hb__; (replace HB := cEb HB bup hb__); clear HO; have HO := Hd ho__; clear ho__ hb__; simp only [PT]))
      go_roundw
      case rel => exact ⟨k + 1, ad9, c9, M ++ Y, by omega, by go_num, rfl, by rw [List.length_append]; omega, HM2, HO, HB⟩
      case measure => first | (simp [intOf]; done) | (simp [intOf]; omega)
theorem refRightC_at (B : Bool) (ad : Option Addr) (n c : Nat) (vs : List BlkV) (hB : rightC (bvals vs) = B) (w : World) (hv : Blks w ad n c vs) (hn : n ≤ 1000000) (hall : ∀ v ∈ vs, SmB v ∧ wfB v.val) :
    Calls Try.prog 31 #[.slice ad n c] w fun e w' => e = .returned (.bool B) ∧ Below w.heap.size w w' := by
  subst hB
  exact refRightC_any ad n c vs w hv hn hall
theorem refBytesC_at (L : List UInt8) (S : Nat) (ad : Option Addr) (n c : Nat) (vs : List BlkV) (hL : L = bytesC noS (bvals vs)) (hS : L.length = S) (w : World) (hv : Blks w ad n c vs) (hn : n ≤ 1000000) (hall : ∀ v ∈ vs, SmB v ∧ wfB v.val) (hr : allS noS (bvals vs) = true) :
    Calls Try.prog 33 #[.slice ad n c] w fun e w' => ∃ ad c, e = .returned (.slice ad S c) ∧ w'.ownsRow w.heap.size 5 1 (.slice ad S c) S (BV L) ∧ Below w.heap.size w w' := by
  subst hS
  exact refBytesC_any L ad n c vs hL w hv hn hall hr
end Go.Proofs.Ytmfplinbbcoahaa
