/-
  Joined by program (merge.py): Blk6, RBy, LawKitR.
-/
import Derived.Test.YtmfplinbbcoahaaM9
import Derived.Test.YtmfplinbbcoahaaM18
import Derived.Test.YtmfplinbbcoahaaM20
import Derived.Test.YtmfplinbbcoahaaM21
/-
  Chapter 26: may a block be? (the document's answer), walked.
-/
namespace Go.Proofs.Ytmfplinbbcoahaa
open Go.RowKit Go.Sort
set_option linter.unusedVariables false
set_option linter.unusedSimpArgs false

set_option maxRecDepth 100000 in
set_option maxHeartbeats 16000000 in
theorem refMay_any (v : BlkV) (w : World) (hv : Blk w v) (hl : v.len < 4294967296) (ht : v.type < 4294967296) :
    Calls Try.prog 24 #[.agg v.cells.toArray] w fun e w' => e = .returned (.bool (mayP v.val)) ∧ Below w.heap.size w w' := by
  have HB := Lib.hid (Below.refl w.heap.size w)
  have HV := Lib.hid hv
  have HM := Lib.hid (mayV_val hv)
  unfold lastV at HM
  have HBI := Lib.hid blk_info
  have hdn := hv.1.le
  obtain ⟨M, hM⟩ : ∃ M, M = mayP v.val := ⟨_, rfl⟩
  rw [← hM] at HM ⊢
  obtain ⟨F, hF⟩ : ∃ F, F = fitsP v.val := ⟨_, rfl⟩
  rw [← hF] at HM
  have HF := Lib.hid hF
  obtain ⟨Wo, hWo⟩ : ∃ W, W = wrongO (vals v.os) := ⟨_, rfl⟩
  obtain ⟨Wn, hWn⟩ : ∃ W, W = wrongO (vals v.ns) := ⟨_, rfl⟩
  obtain ⟨KT, hKT⟩ : ∃ K, K = kindP v.type := ⟨_, rfl⟩
  rw [← hWo, ← hWn, ← hKT] at HM
  have HWo := Lib.hid hWo
  have HWn := Lib.hid hWn
  have HKT := Lib.hid hKT
  clear hv hM hF hWo hWn hKT
  by_cases h1 : v.kind < 1
  · go_enter Try.func24, Try.ntmps24
    go_wp2_with (first
      | ((with_reducible refine sl 1 ?_); go_must (refine wpL_box rfl 27 (.tmp 0) rfl v.cells.toArray rfl ?_); intro w1 hg1 hb1; have HG1 := Lib.hid hg1; have hE__ := cU HB bup hb1; replace HB := ck HB hE__; clear hE__; clear hg1 hb1; obtain ⟨c0, c1, c2, c3, c4, c5, c6, c7, c8, c9, c10⟩ := blk_cells HG1.out; simp only [PT])
      | ((with_reducible refine sl 13 ?_); refine wpL_load rfl 27 (.tmp 1) rfl w.heap.size 0 rfl v.cells _ (range_block HG1.out) Try.underlying27 rfl HBI.out ?_; simp only [PT])
      | (go_at_call 49; go_must (refine (fits_any v _ (HV.out.below (HB.out.trans (Below.mono bup HB.out.size))) (by omega) (by omega)).mono ?_); intro e w5 hr; rw [← HF.out] at hr; obtain ⟨rfl, hb5⟩ := hr; have hE__ := cU HB bup hb5; replace HB := ck HB hE__; replace HG1 := ck HG1 hE__; clear hE__; clear hb5 c0 c1 c2 c3 c4 c5 c6 c7 c8 c9 c10; obtain ⟨c0, c1, c2, c3, c4, c5, c6, c7, c8, c9, c10⟩ := blk_cells HG1.out)
      | (go_at_call 50; (with_reducible show Calls _ _ #[Value.slice v.oad _ _] _ _); go_must (refine (wrong_any v.oad v.on v.oc v.os _ (HV.out.2.2.below (HB.out.trans (Below.mono bup HB.out.size)))).mono ?_); intro e w' hr; rw [← HWo.out] at hr; obtain ⟨rfl, rfl⟩ := hr)
      | (go_at_call 50; (with_reducible show Calls _ _ #[Value.slice v.nad _ _] _ _); go_must (refine (wrong_any v.nad v.nn v.nc v.ns _ (HV.out.2.1.below (HB.out.trans (Below.mono bup HB.out.size)))).mono ?_); intro e w' hr; rw [← HWn.out] at hr; obtain ⟨rfl, rfl⟩ := hr)
      | (go_at_call 51; go_must (refine (refKind_any v.type ht _).mono ?_); intro e w9 hr; rw [← HKT.out] at hr; obtain ⟨rfl, hb9⟩ := hr; have hE__ := cU HB bup hb9; replace HB := ck HB hE__; clear hE__; clear hb9))
    all_goals
      go_ret
      refine ⟨?_, HB.out⟩
      rw [HM.out]
      first
        | (simp [*]; done)
        | (simp [*]; omega)
        | (exfalso; rename_i hx; rcases hx with hx | ⟨_, hx⟩ <;> (simp at hx; omega))
  · by_cases h2 : 7 < v.kind
    · go_enter Try.func24, Try.ntmps24
      go_wp2_with (first
        | ((with_reducible refine sl 1 ?_); go_must (refine wpL_box rfl 27 (.tmp 0) rfl v.cells.toArray rfl ?_); intro w1 hg1 hb1; have HG1 := Lib.hid hg1; have hE__ := cU HB bup hb1; replace HB := ck HB hE__; clear hE__; clear hg1 hb1; obtain ⟨c0, c1, c2, c3, c4, c5, c6, c7, c8, c9, c10⟩ := blk_cells HG1.out; simp only [PT])
        | ((with_reducible refine sl 13 ?_); refine wpL_load rfl 27 (.tmp 1) rfl w.heap.size 0 rfl v.cells _ (range_block HG1.out) Try.underlying27 rfl HBI.out ?_; simp only [PT])
        | (go_at_call 49; go_must (refine (fits_any v _ (HV.out.below (HB.out.trans (Below.mono bup HB.out.size))) (by omega) (by omega)).mono ?_); intro e w5 hr; rw [← HF.out] at hr; obtain ⟨rfl, hb5⟩ := hr; have hE__ := cU HB bup hb5; replace HB := ck HB hE__; replace HG1 := ck HG1 hE__; clear hE__; clear hb5 c0 c1 c2 c3 c4 c5 c6 c7 c8 c9 c10; obtain ⟨c0, c1, c2, c3, c4, c5, c6, c7, c8, c9, c10⟩ := blk_cells HG1.out)
        | (go_at_call 50; (with_reducible show Calls _ _ #[Value.slice v.oad _ _] _ _); go_must (refine (wrong_any v.oad v.on v.oc v.os _ (HV.out.2.2.below (HB.out.trans (Below.mono bup HB.out.size)))).mono ?_); intro e w' hr; rw [← HWo.out] at hr; obtain ⟨rfl, rfl⟩ := hr)
        | (go_at_call 50; (with_reducible show Calls _ _ #[Value.slice v.nad _ _] _ _); go_must (refine (wrong_any v.nad v.nn v.nc v.ns _ (HV.out.2.1.below (HB.out.trans (Below.mono bup HB.out.size)))).mono ?_); intro e w' hr; rw [← HWn.out] at hr; obtain ⟨rfl, rfl⟩ := hr)
        | (go_at_call 51; go_must (refine (refKind_any v.type ht _).mono ?_); intro e w9 hr; rw [← HKT.out] at hr; obtain ⟨rfl, hb9⟩ := hr; have hE__ := cU HB bup hb9; replace HB := ck HB hE__; clear hE__; clear hb9))
      all_goals
        go_ret
        refine ⟨?_, HB.out⟩
        rw [HM.out]
        first
          | (simp [*]; done)
          | (simp [*]; omega)
          | (exfalso; rename_i hx; rcases hx with hx | ⟨_, hx⟩ <;> (simp at hx; omega))
    · cases F
      · go_enter Try.func24, Try.ntmps24
        go_wp2_with (first
          | ((with_reducible refine sl 1 ?_); go_must (refine wpL_box rfl 27 (.tmp 0) rfl v.cells.toArray rfl ?_); intro w1 hg1 hb1; have HG1 := Lib.hid hg1; have hE__ := cU HB bup hb1; replace HB := ck HB hE__; clear hE__; clear hg1 hb1; obtain ⟨c0, c1, c2, c3, c4, c5, c6, c7, c8, c9, c10⟩ := blk_cells HG1.out; simp only [PT])
          | ((with_reducible refine sl 13 ?_); refine wpL_load rfl 27 (.tmp 1) rfl w.heap.size 0 rfl v.cells _ (range_block HG1.out) Try.underlying27 rfl HBI.out ?_; simp only [PT])
          | (go_at_call 49; go_must (refine (fits_any v _ (HV.out.below (HB.out.trans (Below.mono bup HB.out.size))) (by omega) (by omega)).mono ?_); intro e w5 hr; rw [← HF.out] at hr; obtain ⟨rfl, hb5⟩ := hr; have hE__ := cU HB bup hb5; replace HB := ck HB hE__; replace HG1 := ck HG1 hE__; clear hE__; clear hb5 c0 c1 c2 c3 c4 c5 c6 c7 c8 c9 c10; obtain ⟨c0, c1, c2, c3, c4, c5, c6, c7, c8, c9, c10⟩ := blk_cells HG1.out)
          | (go_at_call 50; (with_reducible show Calls _ _ #[Value.slice v.oad _ _] _ _); go_must (refine (wrong_any v.oad v.on v.oc v.os _ (HV.out.2.2.below (HB.out.trans (Below.mono bup HB.out.size)))).mono ?_); intro e w' hr; rw [← HWo.out] at hr; obtain ⟨rfl, rfl⟩ := hr)
          | (go_at_call 50; (with_reducible show Calls _ _ #[Value.slice v.nad _ _] _ _); go_must (refine (wrong_any v.nad v.nn v.nc v.ns _ (HV.out.2.1.below (HB.out.trans (Below.mono bup HB.out.size)))).mono ?_); intro e w' hr; rw [← HWn.out] at hr; obtain ⟨rfl, rfl⟩ := hr)
          | (go_at_call 51; go_must (refine (refKind_any v.type ht _).mono ?_); intro e w9 hr; rw [← HKT.out] at hr; obtain ⟨rfl, hb9⟩ := hr; have hE__ := cU HB bup hb9; replace HB := ck HB hE__; clear hE__; clear hb9))
        all_goals
          go_ret
          refine ⟨?_, HB.out⟩
          rw [HM.out]
          first
            | (simp [*]; done)
            | (simp [*]; omega)
            | (exfalso; rename_i hx; rcases hx with hx | ⟨_, hx⟩ <;> (simp at hx; omega))
      · by_cases h3 : v.link < 0
        · go_enter Try.func24, Try.ntmps24
          go_wp2_with (first
            | ((with_reducible refine sl 1 ?_); go_must (refine wpL_box rfl 27 (.tmp 0) rfl v.cells.toArray rfl ?_); intro w1 hg1 hb1; have HG1 := Lib.hid hg1; have hE__ := cU HB bup hb1; replace HB := ck HB hE__; clear hE__; clear hg1 hb1; obtain ⟨c0, c1, c2, c3, c4, c5, c6, c7, c8, c9, c10⟩ := blk_cells HG1.out; simp only [PT])
            | ((with_reducible refine sl 13 ?_); refine wpL_load rfl 27 (.tmp 1) rfl w.heap.size 0 rfl v.cells _ (range_block HG1.out) Try.underlying27 rfl HBI.out ?_; simp only [PT])
            | (go_at_call 49; go_must (refine (fits_any v _ (HV.out.below (HB.out.trans (Below.mono bup HB.out.size))) (by omega) (by omega)).mono ?_); intro e w5 hr; rw [← HF.out] at hr; obtain ⟨rfl, hb5⟩ := hr; have hE__ := cU HB bup hb5; replace HB := ck HB hE__; replace HG1 := ck HG1 hE__; clear hE__; clear hb5 c0 c1 c2 c3 c4 c5 c6 c7 c8 c9 c10; obtain ⟨c0, c1, c2, c3, c4, c5, c6, c7, c8, c9, c10⟩ := blk_cells HG1.out)
            | (go_at_call 50; (with_reducible show Calls _ _ #[Value.slice v.oad _ _] _ _); go_must (refine (wrong_any v.oad v.on v.oc v.os _ (HV.out.2.2.below (HB.out.trans (Below.mono bup HB.out.size)))).mono ?_); intro e w' hr; rw [← HWo.out] at hr; obtain ⟨rfl, rfl⟩ := hr)
            | (go_at_call 50; (with_reducible show Calls _ _ #[Value.slice v.nad _ _] _ _); go_must (refine (wrong_any v.nad v.nn v.nc v.ns _ (HV.out.2.1.below (HB.out.trans (Below.mono bup HB.out.size)))).mono ?_); intro e w' hr; rw [← HWn.out] at hr; obtain ⟨rfl, rfl⟩ := hr)
            | (go_at_call 51; go_must (refine (refKind_any v.type ht _).mono ?_); intro e w9 hr; rw [← HKT.out] at hr; obtain ⟨rfl, hb9⟩ := hr; have hE__ := cU HB bup hb9; replace HB := ck HB hE__; clear hE__; clear hb9))
          all_goals
            go_ret
            refine ⟨?_, HB.out⟩
            rw [HM.out]
            first
              | (simp [*]; done)
              | (simp [*]; omega)
              | (exfalso; rename_i hx; rcases hx with hx | ⟨_, hx⟩ <;> (simp at hx; omega))
        · by_cases h4 : 65535 < v.link
          · go_enter Try.func24, Try.ntmps24
            go_wp2_with (first
              | ((with_reducible refine sl 1 ?_); go_must (refine wpL_box rfl 27 (.tmp 0) rfl v.cells.toArray rfl ?_); intro w1 hg1 hb1; have HG1 := Lib.hid hg1; have hE__ := cU HB bup hb1; replace HB := ck HB hE__; clear hE__; clear hg1 hb1; obtain ⟨c0, c1, c2, c3, c4, c5, c6, c7, c8, c9, c10⟩ := blk_cells HG1.out; simp only [PT])
              | ((with_reducible refine sl 13 ?_); refine wpL_load rfl 27 (.tmp 1) rfl w.heap.size 0 rfl v.cells _ (range_block HG1.out) Try.underlying27 rfl HBI.out ?_; simp only [PT])
              | (go_at_call 49; go_must (refine (fits_any v _ (HV.out.below (HB.out.trans (Below.mono bup HB.out.size))) (by omega) (by omega)).mono ?_); intro e w5 hr; rw [← HF.out] at hr; obtain ⟨rfl, hb5⟩ := hr; have hE__ := cU HB bup hb5; replace HB := ck HB hE__; replace HG1 := ck HG1 hE__; clear hE__; clear hb5 c0 c1 c2 c3 c4 c5 c6 c7 c8 c9 c10; obtain ⟨c0, c1, c2, c3, c4, c5, c6, c7, c8, c9, c10⟩ := blk_cells HG1.out)
              | (go_at_call 50; (with_reducible show Calls _ _ #[Value.slice v.oad _ _] _ _); go_must (refine (wrong_any v.oad v.on v.oc v.os _ (HV.out.2.2.below (HB.out.trans (Below.mono bup HB.out.size)))).mono ?_); intro e w' hr; rw [← HWo.out] at hr; obtain ⟨rfl, rfl⟩ := hr)
              | (go_at_call 50; (with_reducible show Calls _ _ #[Value.slice v.nad _ _] _ _); go_must (refine (wrong_any v.nad v.nn v.nc v.ns _ (HV.out.2.1.below (HB.out.trans (Below.mono bup HB.out.size)))).mono ?_); intro e w' hr; rw [← HWn.out] at hr; obtain ⟨rfl, rfl⟩ := hr)
              | (go_at_call 51; go_must (refine (refKind_any v.type ht _).mono ?_); intro e w9 hr; rw [← HKT.out] at hr; obtain ⟨rfl, hb9⟩ := hr; have hE__ := cU HB bup hb9; replace HB := ck HB hE__; clear hE__; clear hb9))
            all_goals
              go_ret
              refine ⟨?_, HB.out⟩
              rw [HM.out]
              first
                | (simp [*]; done)
                | (simp [*]; omega)
                | (exfalso; rename_i hx; rcases hx with hx | ⟨_, hx⟩ <;> (simp at hx; omega))
          · by_cases h5 : v.iface < 0
            · go_enter Try.func24, Try.ntmps24
              go_wp2_with (first
                | ((with_reducible refine sl 1 ?_); go_must (refine wpL_box rfl 27 (.tmp 0) rfl v.cells.toArray rfl ?_); intro w1 hg1 hb1; have HG1 := Lib.hid hg1; have hE__ := cU HB bup hb1; replace HB := ck HB hE__; clear hE__; clear hg1 hb1; obtain ⟨c0, c1, c2, c3, c4, c5, c6, c7, c8, c9, c10⟩ := blk_cells HG1.out; simp only [PT])
                | ((with_reducible refine sl 13 ?_); refine wpL_load rfl 27 (.tmp 1) rfl w.heap.size 0 rfl v.cells _ (range_block HG1.out) Try.underlying27 rfl HBI.out ?_; simp only [PT])
                | (go_at_call 49; go_must (refine (fits_any v _ (HV.out.below (HB.out.trans (Below.mono bup HB.out.size))) (by omega) (by omega)).mono ?_); intro e w5 hr; rw [← HF.out] at hr; obtain ⟨rfl, hb5⟩ := hr; have hE__ := cU HB bup hb5; replace HB := ck HB hE__; replace HG1 := ck HG1 hE__; clear hE__; clear hb5 c0 c1 c2 c3 c4 c5 c6 c7 c8 c9 c10; obtain ⟨c0, c1, c2, c3, c4, c5, c6, c7, c8, c9, c10⟩ := blk_cells HG1.out)
                | (go_at_call 50; (with_reducible show Calls _ _ #[Value.slice v.oad _ _] _ _); go_must (refine (wrong_any v.oad v.on v.oc v.os _ (HV.out.2.2.below (HB.out.trans (Below.mono bup HB.out.size)))).mono ?_); intro e w' hr; rw [← HWo.out] at hr; obtain ⟨rfl, rfl⟩ := hr)
                | (go_at_call 50; (with_reducible show Calls _ _ #[Value.slice v.nad _ _] _ _); go_must (refine (wrong_any v.nad v.nn v.nc v.ns _ (HV.out.2.1.below (HB.out.trans (Below.mono bup HB.out.size)))).mono ?_); intro e w' hr; rw [← HWn.out] at hr; obtain ⟨rfl, rfl⟩ := hr)
                | (go_at_call 51; go_must (refine (refKind_any v.type ht _).mono ?_); intro e w9 hr; rw [← HKT.out] at hr; obtain ⟨rfl, hb9⟩ := hr; have hE__ := cU HB bup hb9; replace HB := ck HB hE__; clear hE__; clear hb9))
              all_goals
                go_ret
                refine ⟨?_, HB.out⟩
                rw [HM.out]
                first
                  | (simp [*]; done)
                  | (simp [*]; omega)
                  | (exfalso; rename_i hx; rcases hx with hx | ⟨_, hx⟩ <;> (simp at hx; omega))
            · by_cases h6 : 4294967295 < v.iface
              · go_enter Try.func24, Try.ntmps24
                go_wp2_with (first
                  | ((with_reducible refine sl 1 ?_); go_must (refine wpL_box rfl 27 (.tmp 0) rfl v.cells.toArray rfl ?_); intro w1 hg1 hb1; have HG1 := Lib.hid hg1; have hE__ := cU HB bup hb1; replace HB := ck HB hE__; clear hE__; clear hg1 hb1; obtain ⟨c0, c1, c2, c3, c4, c5, c6, c7, c8, c9, c10⟩ := blk_cells HG1.out; simp only [PT])
                  | ((with_reducible refine sl 13 ?_); refine wpL_load rfl 27 (.tmp 1) rfl w.heap.size 0 rfl v.cells _ (range_block HG1.out) Try.underlying27 rfl HBI.out ?_; simp only [PT])
                  | (go_at_call 49; go_must (refine (fits_any v _ (HV.out.below (HB.out.trans (Below.mono bup HB.out.size))) (by omega) (by omega)).mono ?_); intro e w5 hr; rw [← HF.out] at hr; obtain ⟨rfl, hb5⟩ := hr; have hE__ := cU HB bup hb5; replace HB := ck HB hE__; replace HG1 := ck HG1 hE__; clear hE__; clear hb5 c0 c1 c2 c3 c4 c5 c6 c7 c8 c9 c10; obtain ⟨c0, c1, c2, c3, c4, c5, c6, c7, c8, c9, c10⟩ := blk_cells HG1.out)
                  | (go_at_call 50; (with_reducible show Calls _ _ #[Value.slice v.oad _ _] _ _); go_must (refine (wrong_any v.oad v.on v.oc v.os _ (HV.out.2.2.below (HB.out.trans (Below.mono bup HB.out.size)))).mono ?_); intro e w' hr; rw [← HWo.out] at hr; obtain ⟨rfl, rfl⟩ := hr)
                  | (go_at_call 50; (with_reducible show Calls _ _ #[Value.slice v.nad _ _] _ _); go_must (refine (wrong_any v.nad v.nn v.nc v.ns _ (HV.out.2.1.below (HB.out.trans (Below.mono bup HB.out.size)))).mono ?_); intro e w' hr; rw [← HWn.out] at hr; obtain ⟨rfl, rfl⟩ := hr)
                  | (go_at_call 51; go_must (refine (refKind_any v.type ht _).mono ?_); intro e w9 hr; rw [← HKT.out] at hr; obtain ⟨rfl, hb9⟩ := hr; have hE__ := cU HB bup hb9; replace HB := ck HB hE__; clear hE__; clear hb9))
                all_goals
                  go_ret
                  refine ⟨?_, HB.out⟩
                  rw [HM.out]
                  first
                    | (simp [*]; done)
                    | (simp [*]; omega)
                    | (exfalso; rename_i hx; rcases hx with hx | ⟨_, hx⟩ <;> (simp at hx; omega))
              · by_cases hWo0 : ¬ Wo = 0
                · go_enter Try.func24, Try.ntmps24
                  go_wp2_with (first
                    | ((with_reducible refine sl 1 ?_); go_must (refine wpL_box rfl 27 (.tmp 0) rfl v.cells.toArray rfl ?_); intro w1 hg1 hb1; have HG1 := Lib.hid hg1; have hE__ := cU HB bup hb1; replace HB := ck HB hE__; clear hE__; clear hg1 hb1; obtain ⟨c0, c1, c2, c3, c4, c5, c6, c7, c8, c9, c10⟩ := blk_cells HG1.out; simp only [PT])
                    | ((with_reducible refine sl 13 ?_); refine wpL_load rfl 27 (.tmp 1) rfl w.heap.size 0 rfl v.cells _ (range_block HG1.out) Try.underlying27 rfl HBI.out ?_; simp only [PT])
                    | (go_at_call 49; go_must (refine (fits_any v _ (HV.out.below (HB.out.trans (Below.mono bup HB.out.size))) (by omega) (by omega)).mono ?_); intro e w5 hr; rw [← HF.out] at hr; obtain ⟨rfl, hb5⟩ := hr; have hE__ := cU HB bup hb5; replace HB := ck HB hE__; replace HG1 := ck HG1 hE__; clear hE__; clear hb5 c0 c1 c2 c3 c4 c5 c6 c7 c8 c9 c10; obtain ⟨c0, c1, c2, c3, c4, c5, c6, c7, c8, c9, c10⟩ := blk_cells HG1.out)
                    | (go_at_call 50; (with_reducible show Calls _ _ #[Value.slice v.oad _ _] _ _); go_must (refine (wrong_any v.oad v.on v.oc v.os _ (HV.out.2.2.below (HB.out.trans (Below.mono bup HB.out.size)))).mono ?_); intro e w' hr; rw [← HWo.out] at hr; obtain ⟨rfl, rfl⟩ := hr)
                    | (go_at_call 50; (with_reducible show Calls _ _ #[Value.slice v.nad _ _] _ _); go_must (refine (wrong_any v.nad v.nn v.nc v.ns _ (HV.out.2.1.below (HB.out.trans (Below.mono bup HB.out.size)))).mono ?_); intro e w' hr; rw [← HWn.out] at hr; obtain ⟨rfl, rfl⟩ := hr)
                    | (go_at_call 51; go_must (refine (refKind_any v.type ht _).mono ?_); intro e w9 hr; rw [← HKT.out] at hr; obtain ⟨rfl, hb9⟩ := hr; have hE__ := cU HB bup hb9; replace HB := ck HB hE__; clear hE__; clear hb9))
                  all_goals
                    go_ret
                    refine ⟨?_, HB.out⟩
                    rw [HM.out]
                    first
                      | (simp [*]; done)
                      | (simp [*]; omega)
                      | (exfalso; rename_i hx; rcases hx with hx | ⟨_, hx⟩ <;> (simp at hx; omega))
                · have hWo0e : Wo = 0 := by omega
                  by_cases hWn0 : ¬ Wn = 0
                  · go_enter Try.func24, Try.ntmps24
                    go_wp2_with (first
                      | ((with_reducible refine sl 1 ?_); go_must (refine wpL_box rfl 27 (.tmp 0) rfl v.cells.toArray rfl ?_); intro w1 hg1 hb1; have HG1 := Lib.hid hg1; have hE__ := cU HB bup hb1; replace HB := ck HB hE__; clear hE__; clear hg1 hb1; obtain ⟨c0, c1, c2, c3, c4, c5, c6, c7, c8, c9, c10⟩ := blk_cells HG1.out; simp only [PT])
                      | ((with_reducible refine sl 13 ?_); refine wpL_load rfl 27 (.tmp 1) rfl w.heap.size 0 rfl v.cells _ (range_block HG1.out) Try.underlying27 rfl HBI.out ?_; simp only [PT])
                      | (go_at_call 49; go_must (refine (fits_any v _ (HV.out.below (HB.out.trans (Below.mono bup HB.out.size))) (by omega) (by omega)).mono ?_); intro e w5 hr; rw [← HF.out] at hr; obtain ⟨rfl, hb5⟩ := hr; have hE__ := cU HB bup hb5; replace HB := ck HB hE__; replace HG1 := ck HG1 hE__; clear hE__; clear hb5 c0 c1 c2 c3 c4 c5 c6 c7 c8 c9 c10; obtain ⟨c0, c1, c2, c3, c4, c5, c6, c7, c8, c9, c10⟩ := blk_cells HG1.out)
                      | (go_at_call 50; (with_reducible show Calls _ _ #[Value.slice v.oad _ _] _ _); go_must (refine (wrong_any v.oad v.on v.oc v.os _ (HV.out.2.2.below (HB.out.trans (Below.mono bup HB.out.size)))).mono ?_); intro e w' hr; rw [← HWo.out] at hr; obtain ⟨rfl, rfl⟩ := hr)
                      | (go_at_call 50; (with_reducible show Calls _ _ #[Value.slice v.nad _ _] _ _); go_must (refine (wrong_any v.nad v.nn v.nc v.ns _ (HV.out.2.1.below (HB.out.trans (Below.mono bup HB.out.size)))).mono ?_); intro e w' hr; rw [← HWn.out] at hr; obtain ⟨rfl, rfl⟩ := hr)
                      | (go_at_call 51; go_must (refine (refKind_any v.type ht _).mono ?_); intro e w9 hr; rw [← HKT.out] at hr; obtain ⟨rfl, hb9⟩ := hr; have hE__ := cU HB bup hb9; replace HB := ck HB hE__; clear hE__; clear hb9))
                    all_goals
                      go_ret
                      refine ⟨?_, HB.out⟩
                      rw [HM.out]
                      first
                        | (simp [*]; done)
                        | (simp [*]; omega)
                        | (exfalso; rename_i hx; rcases hx with hx | ⟨_, hx⟩ <;> (simp at hx; omega))
                  · have hWn0e : Wn = 0 := by omega
                    by_cases hk4 : v.kind = 4
                    · have hk7 : ¬ v.kind = 7 := by omega
                      by_cases hA : v.dn = v.len
                      · have hAi : (v.dn : Int) = (v.len : Int) := by omega
                        go_enter Try.func24, Try.ntmps24
                        go_wp2_with (first
                          | ((with_reducible refine sl 1 ?_); go_must (refine wpL_box rfl 27 (.tmp 0) rfl v.cells.toArray rfl ?_); intro w1 hg1 hb1; have HG1 := Lib.hid hg1; have hE__ := cU HB bup hb1; replace HB := ck HB hE__; clear hE__; clear hg1 hb1; obtain ⟨c0, c1, c2, c3, c4, c5, c6, c7, c8, c9, c10⟩ := blk_cells HG1.out; simp only [PT])
                          | ((with_reducible refine sl 13 ?_); refine wpL_load rfl 27 (.tmp 1) rfl w.heap.size 0 rfl v.cells _ (range_block HG1.out) Try.underlying27 rfl HBI.out ?_; simp only [PT])
                          | (go_at_call 49; go_must (refine (fits_any v _ (HV.out.below (HB.out.trans (Below.mono bup HB.out.size))) (by omega) (by omega)).mono ?_); intro e w5 hr; rw [← HF.out] at hr; obtain ⟨rfl, hb5⟩ := hr; have hE__ := cU HB bup hb5; replace HB := ck HB hE__; replace HG1 := ck HG1 hE__; clear hE__; clear hb5 c0 c1 c2 c3 c4 c5 c6 c7 c8 c9 c10; obtain ⟨c0, c1, c2, c3, c4, c5, c6, c7, c8, c9, c10⟩ := blk_cells HG1.out)
                          | (go_at_call 50; (with_reducible show Calls _ _ #[Value.slice v.oad _ _] _ _); go_must (refine (wrong_any v.oad v.on v.oc v.os _ (HV.out.2.2.below (HB.out.trans (Below.mono bup HB.out.size)))).mono ?_); intro e w' hr; rw [← HWo.out] at hr; obtain ⟨rfl, rfl⟩ := hr)
                          | (go_at_call 50; (with_reducible show Calls _ _ #[Value.slice v.nad _ _] _ _); go_must (refine (wrong_any v.nad v.nn v.nc v.ns _ (HV.out.2.1.below (HB.out.trans (Below.mono bup HB.out.size)))).mono ?_); intro e w' hr; rw [← HWn.out] at hr; obtain ⟨rfl, rfl⟩ := hr)
                          | (go_at_call 51; go_must (refine (refKind_any v.type ht _).mono ?_); intro e w9 hr; rw [← HKT.out] at hr; obtain ⟨rfl, hb9⟩ := hr; have hE__ := cU HB bup hb9; replace HB := ck HB hE__; clear hE__; clear hb9))
                        all_goals
                          go_ret
                          refine ⟨?_, HB.out⟩
                          rw [HM.out]
                          first
                            | (simp [*]; done)
                            | (simp [*]; omega)
                            | (exfalso; rename_i hx; rcases hx with hx | ⟨_, hx⟩ <;> (simp at hx; omega))
                      · have hAi : ¬ (v.dn : Int) = (v.len : Int) := by omega
                        by_cases hL : v.dn < v.len
                        · have hLi : (v.dn : Int) < (v.len : Int) := by omega
                          have hLj : ¬ (v.len : Int) < (v.dn : Int) := by omega
                          by_cases hm : v.dn % 4 = 0
                          · have hmi : (v.dn : Int) % 4 = 0 := by omega
                            go_enter Try.func24, Try.ntmps24
                            go_wp2_with (first
                              | ((with_reducible refine sl 1 ?_); go_must (refine wpL_box rfl 27 (.tmp 0) rfl v.cells.toArray rfl ?_); intro w1 hg1 hb1; have HG1 := Lib.hid hg1; have hE__ := cU HB bup hb1; replace HB := ck HB hE__; clear hE__; clear hg1 hb1; obtain ⟨c0, c1, c2, c3, c4, c5, c6, c7, c8, c9, c10⟩ := blk_cells HG1.out; simp only [PT])
                              | ((with_reducible refine sl 13 ?_); refine wpL_load rfl 27 (.tmp 1) rfl w.heap.size 0 rfl v.cells _ (range_block HG1.out) Try.underlying27 rfl HBI.out ?_; simp only [PT])
                              | (go_at_call 49; go_must (refine (fits_any v _ (HV.out.below (HB.out.trans (Below.mono bup HB.out.size))) (by omega) (by omega)).mono ?_); intro e w5 hr; rw [← HF.out] at hr; obtain ⟨rfl, hb5⟩ := hr; have hE__ := cU HB bup hb5; replace HB := ck HB hE__; replace HG1 := ck HG1 hE__; clear hE__; clear hb5 c0 c1 c2 c3 c4 c5 c6 c7 c8 c9 c10; obtain ⟨c0, c1, c2, c3, c4, c5, c6, c7, c8, c9, c10⟩ := blk_cells HG1.out)
                              | (go_at_call 50; (with_reducible show Calls _ _ #[Value.slice v.oad _ _] _ _); go_must (refine (wrong_any v.oad v.on v.oc v.os _ (HV.out.2.2.below (HB.out.trans (Below.mono bup HB.out.size)))).mono ?_); intro e w' hr; rw [← HWo.out] at hr; obtain ⟨rfl, rfl⟩ := hr)
                              | (go_at_call 50; (with_reducible show Calls _ _ #[Value.slice v.nad _ _] _ _); go_must (refine (wrong_any v.nad v.nn v.nc v.ns _ (HV.out.2.1.below (HB.out.trans (Below.mono bup HB.out.size)))).mono ?_); intro e w' hr; rw [← HWn.out] at hr; obtain ⟨rfl, rfl⟩ := hr)
                              | (go_at_call 51; go_must (refine (refKind_any v.type ht _).mono ?_); intro e w9 hr; rw [← HKT.out] at hr; obtain ⟨rfl, hb9⟩ := hr; have hE__ := cU HB bup hb9; replace HB := ck HB hE__; clear hE__; clear hb9))
                            all_goals
                              go_ret
                              refine ⟨?_, HB.out⟩
                              rw [HM.out]
                              first
                                | (simp [*]; done)
                                | (simp [*]; omega)
                                | (exfalso; rename_i hx; rcases hx with hx | ⟨_, hx⟩ <;> (simp at hx; omega))
                          · have hmi : ¬ (v.dn : Int) % 4 = 0 := by omega
                            go_enter Try.func24, Try.ntmps24
                            go_wp2_with (first
                              | ((with_reducible refine sl 1 ?_); go_must (refine wpL_box rfl 27 (.tmp 0) rfl v.cells.toArray rfl ?_); intro w1 hg1 hb1; have HG1 := Lib.hid hg1; have hE__ := cU HB bup hb1; replace HB := ck HB hE__; clear hE__; clear hg1 hb1; obtain ⟨c0, c1, c2, c3, c4, c5, c6, c7, c8, c9, c10⟩ := blk_cells HG1.out; simp only [PT])
                              | ((with_reducible refine sl 13 ?_); refine wpL_load rfl 27 (.tmp 1) rfl w.heap.size 0 rfl v.cells _ (range_block HG1.out) Try.underlying27 rfl HBI.out ?_; simp only [PT])
                              | (go_at_call 49; go_must (refine (fits_any v _ (HV.out.below (HB.out.trans (Below.mono bup HB.out.size))) (by omega) (by omega)).mono ?_); intro e w5 hr; rw [← HF.out] at hr; obtain ⟨rfl, hb5⟩ := hr; have hE__ := cU HB bup hb5; replace HB := ck HB hE__; replace HG1 := ck HG1 hE__; clear hE__; clear hb5 c0 c1 c2 c3 c4 c5 c6 c7 c8 c9 c10; obtain ⟨c0, c1, c2, c3, c4, c5, c6, c7, c8, c9, c10⟩ := blk_cells HG1.out)
                              | (go_at_call 50; (with_reducible show Calls _ _ #[Value.slice v.oad _ _] _ _); go_must (refine (wrong_any v.oad v.on v.oc v.os _ (HV.out.2.2.below (HB.out.trans (Below.mono bup HB.out.size)))).mono ?_); intro e w' hr; rw [← HWo.out] at hr; obtain ⟨rfl, rfl⟩ := hr)
                              | (go_at_call 50; (with_reducible show Calls _ _ #[Value.slice v.nad _ _] _ _); go_must (refine (wrong_any v.nad v.nn v.nc v.ns _ (HV.out.2.1.below (HB.out.trans (Below.mono bup HB.out.size)))).mono ?_); intro e w' hr; rw [← HWn.out] at hr; obtain ⟨rfl, rfl⟩ := hr)
                              | (go_at_call 51; go_must (refine (refKind_any v.type ht _).mono ?_); intro e w9 hr; rw [← HKT.out] at hr; obtain ⟨rfl, hb9⟩ := hr; have hE__ := cU HB bup hb9; replace HB := ck HB hE__; clear hE__; clear hb9))
                            all_goals
                              go_ret
                              refine ⟨?_, HB.out⟩
                              rw [HM.out]
                              first
                                | (simp [*]; done)
                                | (simp [*]; omega)
                                | (exfalso; rename_i hx; rcases hx with hx | ⟨_, hx⟩ <;> (simp at hx; omega))
                        · have hLi : ¬ (v.dn : Int) < (v.len : Int) := by omega
                          have hLj : (v.len : Int) < (v.dn : Int) := by omega
                          go_enter Try.func24, Try.ntmps24
                          go_wp2_with (first
                            | ((with_reducible refine sl 1 ?_); go_must (refine wpL_box rfl 27 (.tmp 0) rfl v.cells.toArray rfl ?_); intro w1 hg1 hb1; have HG1 := Lib.hid hg1; have hE__ := cU HB bup hb1; replace HB := ck HB hE__; clear hE__; clear hg1 hb1; obtain ⟨c0, c1, c2, c3, c4, c5, c6, c7, c8, c9, c10⟩ := blk_cells HG1.out; simp only [PT])
                            | ((with_reducible refine sl 13 ?_); refine wpL_load rfl 27 (.tmp 1) rfl w.heap.size 0 rfl v.cells _ (range_block HG1.out) Try.underlying27 rfl HBI.out ?_; simp only [PT])
                            | (go_at_call 49; go_must (refine (fits_any v _ (HV.out.below (HB.out.trans (Below.mono bup HB.out.size))) (by omega) (by omega)).mono ?_); intro e w5 hr; rw [← HF.out] at hr; obtain ⟨rfl, hb5⟩ := hr; have hE__ := cU HB bup hb5; replace HB := ck HB hE__; replace HG1 := ck HG1 hE__; clear hE__; clear hb5 c0 c1 c2 c3 c4 c5 c6 c7 c8 c9 c10; obtain ⟨c0, c1, c2, c3, c4, c5, c6, c7, c8, c9, c10⟩ := blk_cells HG1.out)
                            | (go_at_call 50; (with_reducible show Calls _ _ #[Value.slice v.oad _ _] _ _); go_must (refine (wrong_any v.oad v.on v.oc v.os _ (HV.out.2.2.below (HB.out.trans (Below.mono bup HB.out.size)))).mono ?_); intro e w' hr; rw [← HWo.out] at hr; obtain ⟨rfl, rfl⟩ := hr)
                            | (go_at_call 50; (with_reducible show Calls _ _ #[Value.slice v.nad _ _] _ _); go_must (refine (wrong_any v.nad v.nn v.nc v.ns _ (HV.out.2.1.below (HB.out.trans (Below.mono bup HB.out.size)))).mono ?_); intro e w' hr; rw [← HWn.out] at hr; obtain ⟨rfl, rfl⟩ := hr)
                            | (go_at_call 51; go_must (refine (refKind_any v.type ht _).mono ?_); intro e w9 hr; rw [← HKT.out] at hr; obtain ⟨rfl, hb9⟩ := hr; have hE__ := cU HB bup hb9; replace HB := ck HB hE__; clear hE__; clear hb9))
                          all_goals
                            go_ret
                            refine ⟨?_, HB.out⟩
                            rw [HM.out]
                            first
                              | (simp [*]; done)
                              | (simp [*]; omega)
                              | (exfalso; rename_i hx; rcases hx with hx | ⟨_, hx⟩ <;> (simp at hx; omega))
                    · by_cases hk7 : v.kind = 7
                      · by_cases hm : v.dn % 4 = 0
                        · have hmi : (v.dn : Int) % 4 = 0 := by omega
                          go_enter Try.func24, Try.ntmps24
                          go_wp2_with (first
                            | ((with_reducible refine sl 1 ?_); go_must (refine wpL_box rfl 27 (.tmp 0) rfl v.cells.toArray rfl ?_); intro w1 hg1 hb1; have HG1 := Lib.hid hg1; have hE__ := cU HB bup hb1; replace HB := ck HB hE__; clear hE__; clear hg1 hb1; obtain ⟨c0, c1, c2, c3, c4, c5, c6, c7, c8, c9, c10⟩ := blk_cells HG1.out; simp only [PT])
                            | ((with_reducible refine sl 13 ?_); refine wpL_load rfl 27 (.tmp 1) rfl w.heap.size 0 rfl v.cells _ (range_block HG1.out) Try.underlying27 rfl HBI.out ?_; simp only [PT])
                            | (go_at_call 49; go_must (refine (fits_any v _ (HV.out.below (HB.out.trans (Below.mono bup HB.out.size))) (by omega) (by omega)).mono ?_); intro e w5 hr; rw [← HF.out] at hr; obtain ⟨rfl, hb5⟩ := hr; have hE__ := cU HB bup hb5; replace HB := ck HB hE__; replace HG1 := ck HG1 hE__; clear hE__; clear hb5 c0 c1 c2 c3 c4 c5 c6 c7 c8 c9 c10; obtain ⟨c0, c1, c2, c3, c4, c5, c6, c7, c8, c9, c10⟩ := blk_cells HG1.out)
                            | (go_at_call 50; (with_reducible show Calls _ _ #[Value.slice v.oad _ _] _ _); go_must (refine (wrong_any v.oad v.on v.oc v.os _ (HV.out.2.2.below (HB.out.trans (Below.mono bup HB.out.size)))).mono ?_); intro e w' hr; rw [← HWo.out] at hr; obtain ⟨rfl, rfl⟩ := hr)
                            | (go_at_call 50; (with_reducible show Calls _ _ #[Value.slice v.nad _ _] _ _); go_must (refine (wrong_any v.nad v.nn v.nc v.ns _ (HV.out.2.1.below (HB.out.trans (Below.mono bup HB.out.size)))).mono ?_); intro e w' hr; rw [← HWn.out] at hr; obtain ⟨rfl, rfl⟩ := hr)
                            | (go_at_call 51; go_must (refine (refKind_any v.type ht _).mono ?_); intro e w9 hr; rw [← HKT.out] at hr; obtain ⟨rfl, hb9⟩ := hr; have hE__ := cU HB bup hb9; replace HB := ck HB hE__; clear hE__; clear hb9))
                          all_goals
                            go_ret
                            refine ⟨?_, HB.out⟩
                            rw [HM.out]
                            first
                              | (simp [*]; done)
                              | (simp [*]; omega)
                              | (exfalso; rename_i hx; rcases hx with hx | ⟨_, hx⟩ <;> (simp at hx; omega))
                        · have hmi : ¬ (v.dn : Int) % 4 = 0 := by omega
                          go_enter Try.func24, Try.ntmps24
                          go_wp2_with (first
                            | ((with_reducible refine sl 1 ?_); go_must (refine wpL_box rfl 27 (.tmp 0) rfl v.cells.toArray rfl ?_); intro w1 hg1 hb1; have HG1 := Lib.hid hg1; have hE__ := cU HB bup hb1; replace HB := ck HB hE__; clear hE__; clear hg1 hb1; obtain ⟨c0, c1, c2, c3, c4, c5, c6, c7, c8, c9, c10⟩ := blk_cells HG1.out; simp only [PT])
                            | ((with_reducible refine sl 13 ?_); refine wpL_load rfl 27 (.tmp 1) rfl w.heap.size 0 rfl v.cells _ (range_block HG1.out) Try.underlying27 rfl HBI.out ?_; simp only [PT])
                            | (go_at_call 49; go_must (refine (fits_any v _ (HV.out.below (HB.out.trans (Below.mono bup HB.out.size))) (by omega) (by omega)).mono ?_); intro e w5 hr; rw [← HF.out] at hr; obtain ⟨rfl, hb5⟩ := hr; have hE__ := cU HB bup hb5; replace HB := ck HB hE__; replace HG1 := ck HG1 hE__; clear hE__; clear hb5 c0 c1 c2 c3 c4 c5 c6 c7 c8 c9 c10; obtain ⟨c0, c1, c2, c3, c4, c5, c6, c7, c8, c9, c10⟩ := blk_cells HG1.out)
                            | (go_at_call 50; (with_reducible show Calls _ _ #[Value.slice v.oad _ _] _ _); go_must (refine (wrong_any v.oad v.on v.oc v.os _ (HV.out.2.2.below (HB.out.trans (Below.mono bup HB.out.size)))).mono ?_); intro e w' hr; rw [← HWo.out] at hr; obtain ⟨rfl, rfl⟩ := hr)
                            | (go_at_call 50; (with_reducible show Calls _ _ #[Value.slice v.nad _ _] _ _); go_must (refine (wrong_any v.nad v.nn v.nc v.ns _ (HV.out.2.1.below (HB.out.trans (Below.mono bup HB.out.size)))).mono ?_); intro e w' hr; rw [← HWn.out] at hr; obtain ⟨rfl, rfl⟩ := hr)
                            | (go_at_call 51; go_must (refine (refKind_any v.type ht _).mono ?_); intro e w9 hr; rw [← HKT.out] at hr; obtain ⟨rfl, hb9⟩ := hr; have hE__ := cU HB bup hb9; replace HB := ck HB hE__; clear hE__; clear hb9))
                          all_goals
                            go_ret
                            refine ⟨?_, HB.out⟩
                            rw [HM.out]
                            first
                              | (simp [*]; done)
                              | (simp [*]; omega)
                              | (exfalso; rename_i hx; rcases hx with hx | ⟨_, hx⟩ <;> (simp at hx; omega))
                      · go_enter Try.func24, Try.ntmps24
                        go_wp2_with (first
                          | ((with_reducible refine sl 1 ?_); go_must (refine wpL_box rfl 27 (.tmp 0) rfl v.cells.toArray rfl ?_); intro w1 hg1 hb1; have HG1 := Lib.hid hg1; have hE__ := cU HB bup hb1; replace HB := ck HB hE__; clear hE__; clear hg1 hb1; obtain ⟨c0, c1, c2, c3, c4, c5, c6, c7, c8, c9, c10⟩ := blk_cells HG1.out; simp only [PT])
                          | ((with_reducible refine sl 13 ?_); refine wpL_load rfl 27 (.tmp 1) rfl w.heap.size 0 rfl v.cells _ (range_block HG1.out) Try.underlying27 rfl HBI.out ?_; simp only [PT])
                          | (go_at_call 49; go_must (refine (fits_any v _ (HV.out.below (HB.out.trans (Below.mono bup HB.out.size))) (by omega) (by omega)).mono ?_); intro e w5 hr; rw [← HF.out] at hr; obtain ⟨rfl, hb5⟩ := hr; have hE__ := cU HB bup hb5; replace HB := ck HB hE__; replace HG1 := ck HG1 hE__; clear hE__; clear hb5 c0 c1 c2 c3 c4 c5 c6 c7 c8 c9 c10; obtain ⟨c0, c1, c2, c3, c4, c5, c6, c7, c8, c9, c10⟩ := blk_cells HG1.out)
                          | (go_at_call 50; (with_reducible show Calls _ _ #[Value.slice v.oad _ _] _ _); go_must (refine (wrong_any v.oad v.on v.oc v.os _ (HV.out.2.2.below (HB.out.trans (Below.mono bup HB.out.size)))).mono ?_); intro e w' hr; rw [← HWo.out] at hr; obtain ⟨rfl, rfl⟩ := hr)
                          | (go_at_call 50; (with_reducible show Calls _ _ #[Value.slice v.nad _ _] _ _); go_must (refine (wrong_any v.nad v.nn v.nc v.ns _ (HV.out.2.1.below (HB.out.trans (Below.mono bup HB.out.size)))).mono ?_); intro e w' hr; rw [← HWn.out] at hr; obtain ⟨rfl, rfl⟩ := hr)
                          | (go_at_call 51; go_must (refine (refKind_any v.type ht _).mono ?_); intro e w9 hr; rw [← HKT.out] at hr; obtain ⟨rfl, hb9⟩ := hr; have hE__ := cU HB bup hb9; replace HB := ck HB hE__; clear hE__; clear hb9))
                        all_goals
                          go_ret
                          refine ⟨?_, HB.out⟩
                          rw [HM.out]
                          first
                            | (simp [*]; done)
                            | (simp [*]; omega)
                            | (exfalso; rename_i hx; rcases hx with hx | ⟨_, hx⟩ <;> (simp at hx; omega))

end Go.Proofs.Ytmfplinbbcoahaa
/-
  Chapter 26: a block laid by the document; is it right?
-/
namespace Go.Proofs.Ytmfplinbbcoahaa
open Go.RowKit Go.Sort
set_option linter.unusedVariables false
set_option linter.unusedSimpArgs false

theorem refBytes_any (v : BlkV) (big : Bool) (w : World) (hv : Blk w v) (hf : SmB v) (hm : mayP v.val = true) (hw : wfB v.val) :
    Calls Try.prog 25 #[.agg v.cells.toArray, .bool big] w (RetB 5 (bytesB big v.val) w) := by
  have hkk : 1 ≤ v.kind ∧ v.kind ≤ 7 := ((mayP_iff v.val).1 hm).1
  have hk : v.kind = 1 ∨ v.kind = 2 ∨ v.kind = 3 ∨ v.kind = 4 ∨ v.kind = 5 ∨ v.kind = 6 ∨ v.kind = 7 := by omega
  rcases hk with hk | hk | hk | hk | hk | hk | hk
  · exact refBytes1 v big w hv hk hf hm hw
  · exact refBytes2 v big w hv hk hf hm hw
  · exact refBytes3 v big w hv hk hf hm hw
  · exact refBytes4 v big w hv hk hf hm hw
  · by_cases hne : vals v.ns = []
    · exact refBytes5a v big w hv hk hne hf hm hw
    · exact refBytes5b v big w hv hk hne hf hm hw
  · exact refBytes6 v big w hv hk hf hm hw
  · exact refBytes7 v big w hv hk hf hm hw

set_option maxRecDepth 100000 in
set_option maxHeartbeats 8000000 in
theorem refRight_any (v : BlkV) (w : World) (hv : Blk w v) (hf : SmB v) (hw : wfB v.val) :
    Calls Try.prog 20 #[.agg v.cells.toArray] w fun e w' => e = .returned (.bool (rightP v.val)) ∧ Below w.heap.size w w' := by
  have HB := Lib.hid (Below.refl w.heap.size w)
  have HV := Lib.hid hv
  have HF := Lib.hid hf
  have HWF := Lib.hid hw
  have hl : v.len < 4294967296 := hw.2.2.2
  have ht : v.type < 4294967296 := hw.1
  have HBI := Lib.hid blk_info
  have HR : Hid (rightP v.val = (mayP v.val && decide (sizeB v.val ≤ 1048576))) := Lib.hid rfl
  by_cases hm : mayP v.val = true
  rotate_left
  · have hm' : false = mayP v.val := by cases h : mayP v.val <;> simp_all
    have HM := Lib.hid hm'
    clear hv hf hw hm hm'
    go_enter Try.func20, Try.ntmps20
    go_wp2_with (first
      | ((with_reducible refine sl 1 ?_); go_must (refine wpL_boxG rfl 27 (.tmp 0) rfl v.cells.toArray rfl ?_); intro w1 g1 he__ le_g1 lt_g1 hg__ hb__; have HG1 := Lib.hid hg__; have hE__ := cU HB bup hb__; replace HB := ck HB hE__; clear hE__; clear hg__ hb__ he__; simp only [PT])
      | ((with_reducible refine sl 3 ?_); go_must (refine wpL_load rfl 27 (.tmp 1) rfl g1 0 rfl v.cells _ (range_block HG1.out) Try.underlying27 rfl HBI.out ?_); simp only [PT])
      | (go_at_call 24; go_must (refine (refMay_any v _ (HV.out.below (HB.out.trans (Below.mono bup HB.out.size))) hl ht).mono ?_); intro e w5 hr; rw [← HM.out] at hr; obtain ⟨rfl, hb__⟩ := hr; have hE__ := cU HB bup hb__; replace HB := ck HB hE__; replace HG1 := ck HG1 hE__; clear hE__; clear hb__))
    go_ret
    exact ⟨by rw [HR.out, ← HM.out]; rfl, HB.out⟩
  · have HM := Lib.hid hm.symm
    obtain ⟨L, hL⟩ : ∃ L, L = bytesB true v.val := ⟨_, rfl⟩
    have hLl : L.length = sizeB v.val := by rw [hL, bytesB_length]
    have HLL := Lib.hid hLl
    have HL := Lib.hid hL
    by_cases hs : L.length ≤ 1048576
    · have hsi : (L.length : Int) ≤ 1048576 := by omega
      have HS := Lib.hid hs
      clear hv hf hw hm hL hLl hs
      go_enter Try.func20, Try.ntmps20
      go_wp2_with (first
        | ((with_reducible refine sl 1 ?_); go_must (refine wpL_boxG rfl 27 (.tmp 0) rfl v.cells.toArray rfl ?_); intro w1 g1 he__ le_g1 lt_g1 hg__ hb__; have HG1 := Lib.hid hg__; have hE__ := cU HB bup hb__; replace HB := ck HB hE__; clear hE__; clear hg__ hb__ he__; simp only [PT])
        | ((with_reducible refine sl 3 ?_); go_must (refine wpL_load rfl 27 (.tmp 1) rfl g1 0 rfl v.cells _ (range_block HG1.out) Try.underlying27 rfl HBI.out ?_); simp only [PT])
        | ((with_reducible refine sl 6 ?_); go_must (refine wpL_load rfl 27 (.tmp 1) rfl g1 0 rfl v.cells _ (range_block HG1.out) Try.underlying27 rfl HBI.out ?_); simp only [PT])
        | (go_at_call 24; go_must (refine (refMay_any v _ (HV.out.below (HB.out.trans (Below.mono bup HB.out.size))) hl ht).mono ?_); intro e w5 hr; rw [← HM.out] at hr; obtain ⟨rfl, hb__⟩ := hr; have hE__ := cU HB bup hb__; replace HB := ck HB hE__; replace HG1 := ck HG1 hE__; clear hE__; clear hb__)
        | (go_at_call 25; go_must (refine (refBytes_any v true _ (HV.out.below (HB.out.trans (Below.mono bup HB.out.size))) HF.out HM.out.symm HWF.out).mono ?_); intro e w6 hr; rw [← HL.out] at hr; unfold RetB at hr; obtain ⟨ad6, c6, rfl, ho6, hb__⟩ := hr; have hE__ := cU HB bup hb__; replace HB := ck HB hE__; replace HG1 := ck HG1 hE__; clear hE__; clear hb__ ho6))
      go_ret
      exact ⟨by rw [HR.out, ← HM.out, ← HLL.out]; simp [HS.out], HB.out⟩
    · have hsi : ¬ (L.length : Int) ≤ 1048576 := by omega
      have HS := Lib.hid hs
      clear hv hf hw hm hL hLl hs
      go_enter Try.func20, Try.ntmps20
      go_wp2_with (first
        | ((with_reducible refine sl 1 ?_); go_must (refine wpL_boxG rfl 27 (.tmp 0) rfl v.cells.toArray rfl ?_); intro w1 g1 he__ le_g1 lt_g1 hg__ hb__; have HG1 := Lib.hid hg__; have hE__ := cU HB bup hb__; replace HB := ck HB hE__; clear hE__; clear hg__ hb__ he__; simp only [PT])
        | ((with_reducible refine sl 3 ?_); go_must (refine wpL_load rfl 27 (.tmp 1) rfl g1 0 rfl v.cells _ (range_block HG1.out) Try.underlying27 rfl HBI.out ?_); simp only [PT])
        | ((with_reducible refine sl 6 ?_); go_must (refine wpL_load rfl 27 (.tmp 1) rfl g1 0 rfl v.cells _ (range_block HG1.out) Try.underlying27 rfl HBI.out ?_); simp only [PT])
        | (go_at_call 24; go_must (refine (refMay_any v _ (HV.out.below (HB.out.trans (Below.mono bup HB.out.size))) hl ht).mono ?_); intro e w5 hr; rw [← HM.out] at hr; obtain ⟨rfl, hb__⟩ := hr; have hE__ := cU HB bup hb__; replace HB := ck HB hE__; replace HG1 := ck HG1 hE__; clear hE__; clear hb__)
        | (go_at_call 25; go_must (refine (refBytes_any v true _ (HV.out.below (HB.out.trans (Below.mono bup HB.out.size))) HF.out HM.out.symm HWF.out).mono ?_); intro e w6 hr; rw [← HL.out] at hr; unfold RetB at hr; obtain ⟨ad6, c6, rfl, ho6, hb__⟩ := hr; have hE__ := cU HB bup hb__; replace HB := ck HB hE__; replace HG1 := ck HG1 hE__; clear hE__; clear hb__ ho6))
      go_ret
      exact ⟨by rw [HR.out, ← HM.out, ← HLL.out]; (simp [HS.out]; omega), HB.out⟩
end Go.Proofs.Ytmfplinbbcoahaa
/-
  Chapter 26: the document's bytes, and what is right, by what is known.
-/
namespace Go.Proofs.Ytmfplinbbcoahaa
open Go.RowKit Go.Sort
set_option linter.unusedVariables false

theorem refBytes_right (L : List UInt8) (v : BlkV) (big : Bool) (hL : L = bytesB big v.val) (hm : mayP v.val = true) (w : World) (hv : Blk w v) (hf : SmB v) (hw : wfB v.val) :
    Calls Try.prog 25 #[.agg v.cells.toArray, .bool big] w fun e w' => ∃ ad c, e = .returned (.slice ad L.length c) ∧ w'.ownsRow w.heap.size 5 1 (.slice ad L.length c) L.length (BV L) ∧ Below w.heap.size w w' := by
  subst hL
  exact refBytes_any v big w hv hf hm hw
theorem refRight_at (B : Bool) (v : BlkV) (hB : rightP v.val = B) (w : World) (hv : Blk w v) (hf : SmB v) (hl : wfB v.val) :
    Calls Try.prog 20 #[.agg v.cells.toArray] w fun e w' => e = .returned (.bool B) ∧ Below w.heap.size w w' := by
  have := refRight_any v w hv hf hl
  rwa [hB] at this
theorem refMay_at (B : Bool) (v : BlkV) (hB : mayP v.val = B) (w : World) (hv : Blk w v) (hl : wfB v.val) :
    Calls Try.prog 24 #[.agg v.cells.toArray] w fun e w' => e = .returned (.bool B) ∧ Below w.heap.size w w' := by
  have := refMay_any v w hv hl.2.2.2 hl.1
  rwa [hB] at this
end Go.Proofs.Ytmfplinbbcoahaa
