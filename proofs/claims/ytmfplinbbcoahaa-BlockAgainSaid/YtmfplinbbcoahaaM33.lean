/-
  Joined by program (merge.py): LawD.
-/
import Derived.Test.YtmfplinbbcoahaaM18
/-
  Chapter 26: the law BlockAgain, walked.
-/
namespace Go.Proofs.Ytmfplinbbcoahaa
open Go.RowKit Go.Sort
set_option linter.unusedVariables false
set_option linter.unusedSimpArgs false

set_option maxRecDepth 100000 in
set_option maxHeartbeats 16000000 in
theorem again26_walk (ad : Option Addr) (n c : Nat) (l : List UInt8) (big : Bool) (w : World) (hs : Bs w ad n c l) :
    Calls Try.prog 7 #[.slice ad n c, .bool big] w fun e w' => e = .returned (.bool true) ∧ Below w.heap.size w w' := by
  have HB := Lib.hid (Below.refl w.heap.size w)
  have HBI := Lib.hid blk_info
  have HZI := Lib.hid zero_info
  have HL := Lib.hid hs
  have hln := hs.len
  clear hs
  by_cases hn : 70000 < n
  · have hi : (70000 : Int) < (n : Int) := by omega
    go_enter Try.func7, Try.ntmps7
    go_wp2_with (first
      | (go_at_call 17; go_must (refine (blkAwake_any _).mono ?_); intro e wc1 hr; obtain ⟨rfl, hb__⟩ := hr; have hE__ := cU HB bup hb__; replace HB := ck HB hE__; replace HL := ck HL hE__; clear hE__; clear hb__))
    go_ret
    exact ⟨rfl, HB.out⟩
  have hi : ¬ (70000 : Int) < (n : Int) := by omega
  obtain ⟨P, hP⟩ : ∃ P, P = getP big l := ⟨_, rfl⟩
  obtain ⟨X, N, E⟩ := P
  by_cases hE : E = 0
  rotate_left
  · obtain ⟨e1, e2, e3, e4⟩ := get_err big l (by rw [← hP]; exact hE)
    rw [← hP] at e1 e2 e3 e4
    simp only at e1 e2 e3 e4
    have HXN := Lib.hid e1
    subst e2
    have HX := Lib.hid hP.symm
    have hE4 : E = 1 ∨ E = 2 ∨ E = 3 ∨ E = 4 := by omega
    clear hP e1 hE e3 e4 hln
    rcases hE4 with rfl | rfl | rfl | rfl
    all_goals
      go_enter Try.func7, Try.ntmps7
      go_wp2_with (first
        | (go_at_call 17; go_must (refine (blkAwake_any _).mono ?_); intro e wc1 hr; obtain ⟨rfl, hb__⟩ := hr; have hE__ := cU HB bup hb__; replace HB := ck HB hE__; replace HL := ck HL hE__; clear hE__; clear hb__)
        | (go_at_call 26; (with_reducible show Calls _ _ #[Value.slice ad _ _, _] _ _); go_must (refine (blkGet_at X 0 _ ad n c l big HX.out _ (HL.out.below bup) (by omega)).mono ?_); intro e wc2 hr; obtain ⟨v1, rfl, hv__, ho__, hb__⟩ := hr; have HY1 := Lib.hid ho__.blk; have HV1 := Lib.hid hv__; clear ho__ hv__; have hE__ := cU HB bup hb__; replace HB := ck HB hE__; replace HL := ck HL hE__; clear hE__; clear hb__)
        | ((with_reducible refine sl 5 ?_); go_must (refine wpL_newN rfl rfl 27 rfl (.tmp 5) (.tmp 32) rfl (v1.cells).toArray _ HZI.out rfl (bcells_all _) (fun _ => rfl) (fun _ => rfl) ?_); intro wn5 g5 le_g5 lt_g5 hg__ hb__; have HG5 := Lib.hid hg__; have hE__ := cU HB bup hb__; replace HB := ck HB hE__; replace HL := ck HL hE__; replace HY1 := ck HY1 hE__; clear hE__; clear hg__ hb__; simp only [PT])
        | ((with_reducible refine sl 40 ?_); go_must (refine wpL_load rfl 27 (.tmp 5) rfl g5 0 rfl (v1.cells) _ (range_block HG5.out) Try.underlying27 rfl HBI.out ?_); simp only [PT])
        | (go_at_call 21; go_must (refine (blkSame_at true v1 noneV (by rw [HV1.out, HXN.out]; exact sameP_self _) _ (HY1.out.below bup) (blk_none _ _ rfl rfl rfl)).mono ?_); intro e wc3 hr; obtain ⟨rfl, hb__⟩ := hr; have hE__ := cU HB bup hb__; replace HB := ck HB hE__; replace HL := ck HL hE__; replace HY1 := ck HY1 hE__; replace HG5 := ck HG5 hE__; clear hE__; clear hb__))
      go_ret
      exact ⟨by simp, HB.out⟩
  subst hE
  obtain ⟨hm, hw, hz, hN, _, _⟩ := get_ok big l (by rw [← hP])
  rw [← hP] at hm hw hz hN
  simp only at hm hw hz hN
  have HX := Lib.hid hP.symm
  have HM := Lib.hid hm
  have HWF := Lib.hid hw
  obtain ⟨S, hS⟩ : ∃ S, S = sizeB X := ⟨_, rfl⟩
  have hsz : S ≤ 70016 := by rw [hS]; omega
  have hz2 : sizeB X ≤ 1048576 := by omega
  have HSZ : Hid (sizeB X ≤ 70420) := Lib.hid (by omega)
  have HR : Hid (rightP X = true) := Lib.hid (by simp [rightP, hm]; omega)
  obtain ⟨LC, hLC⟩ : ∃ L, L = bytesB big X := ⟨_, rfl⟩
  obtain ⟨LU, hLU⟩ : ∃ L, L = bytesB (!big) X := ⟨_, rfl⟩
  have HLC := Lib.hid hLC
  have HLU := Lib.hid hLU
  have HLCS : Hid (LC.length = S) := Lib.hid (by rw [hLC, bytesB_length, hS])
  have HLUS : Hid (LU.length = S) := Lib.hid (by rw [hLU, bytesB_length, hS])
  have HGC : Hid (getP big LC = (X, S, 0)) := Lib.hid (by
    have := get_back X hm hw hz2 big []
    rw [List.append_nil, ← hLC, ← hS] at this
    exact this)
  have HGU : Hid (getP (!big) LU = (X, S, 0)) := Lib.hid (by
    have := get_back X hm hw hz2 (!big) []
    rw [List.append_nil, ← hLU, ← hS] at this
    exact this)
  have hni : ¬ n < N := by omega
  clear hP hm hw hz hS hz2 hLC hLU hln hN
  go_enter Try.func7, Try.ntmps7
  go_wp2_with (first
    | (go_at_call 17; go_must (refine (blkAwake_any _).mono ?_); intro e wc1 hr; obtain ⟨rfl, hb__⟩ := hr; have hE__ := cU HB bup hb__; replace HB := ck HB hE__; replace HL := ck HL hE__; clear hE__; clear hb__)
    | (go_at_call 26; (with_reducible show Calls _ _ #[Value.slice ad _ _, _] _ _); go_must (refine (blkGet_at X N 0 ad n c l big HX.out _ (HL.out.below bup) (by omega)).mono ?_); intro e wc2 hr; obtain ⟨v1, rfl, hv__, ho__, hb__⟩ := hr; have HY1 := Lib.hid ho__.blk; have HV1 := Lib.hid hv__; clear ho__ hv__; have hE__ := cU HB bup hb__; replace HB := ck HB hE__; replace HL := ck HL hE__; clear hE__; clear hb__)
    | ((with_reducible refine sl 5 ?_); go_must (refine wpL_newN rfl rfl 27 rfl (.tmp 5) (.tmp 32) rfl (v1.cells).toArray _ HZI.out rfl (bcells_all _) (fun _ => rfl) (fun _ => rfl) ?_); intro wn5 g5 le_g5 lt_g5 hg__ hb__; have HG5 := Lib.hid hg__; have hE__ := cU HB bup hb__; replace HB := ck HB hE__; replace HL := ck HL hE__; replace HY1 := ck HY1 hE__; clear hE__; clear hg__ hb__; simp only [PT])
    | ((with_reducible refine sl 45 ?_); go_must (refine wpL_load rfl 27 (.tmp 5) rfl g5 0 rfl (v1.cells) _ (range_block HG5.out) Try.underlying27 rfl HBI.out ?_); simp only [PT])
    | (go_at_call 23; (with_reducible show Calls _ _ #[Value.agg v1.cells.toArray, Value.bool big] _ _); go_must (refine (blkPut_rightS LC S v1 big (by rw [HV1.out]; exact HLC.out) HLCS.out (by rw [HV1.out]; exact HR.out) _ (HY1.out.below bup) (SmB.of_size HY1.out (by rw [HV1.out]; exact HM.out) (by rw [HV1.out]; exact HSZ.out)) (by rw [HV1.out]; exact HWF.out)).mono ?_); intro e wc3 hr; obtain ⟨ad8, c8, rfl, ho__, hb__⟩ := hr; have H8 := Lib.hid (Bs.of_own ho__); clear ho__; have hE__ := cU HB bup hb__; replace HB := ck HB hE__; replace HL := ck HL hE__; replace HY1 := ck HY1 hE__; replace HG5 := ck HG5 hE__; clear hE__; clear hb__)
    | (go_at_call 26; (with_reducible show Calls _ _ #[Value.slice ad8 _ _, _] _ _); go_must (refine (blkGet_at X S 0 ad8 S c8 LC big HGC.out _ (H8.out.below bup) (by omega)).mono ?_); intro e wc4 hr; obtain ⟨v2, rfl, hv__, ho__, hb__⟩ := hr; have HY2 := Lib.hid ho__.blk; have HV2 := Lib.hid hv__; clear ho__ hv__; have hE__ := cU HB bup hb__; replace HB := ck HB hE__; replace HL := ck HL hE__; replace HY1 := ck HY1 hE__; replace HG5 := ck HG5 hE__; replace H8 := ck H8 hE__; clear hE__; clear hb__)
    | ((with_reducible refine sl 10 ?_); go_must (refine wpL_newN rfl rfl 27 rfl (.tmp 10) (.tmp 54) rfl (v2.cells).toArray _ HZI.out rfl (bcells_all _) (fun _ => rfl) (fun _ => rfl) ?_); intro wn10 g10 le_g10 lt_g10 hg__ hb__; have HG10 := Lib.hid hg__; have hE__ := cU HB bup hb__; replace HB := ck HB hE__; replace HL := ck HL hE__; replace HY1 := ck HY1 hE__; replace HG5 := ck HG5 hE__; replace H8 := ck H8 hE__; replace HY2 := ck HY2 hE__; clear hE__; clear hg__ hb__; simp only [PT])
    | ((with_reducible refine sl 58 ?_); go_must (refine wpL_load rfl 27 (.tmp 10) rfl g10 0 rfl (v2.cells) _ (range_block HG10.out) Try.underlying27 rfl HBI.out ?_); simp only [PT])
    | (go_at_call 23; (with_reducible show Calls _ _ #[Value.agg v2.cells.toArray, Value.bool big] _ _); go_must (refine (blkPut_rightS LC S v2 big (by rw [HV2.out]; exact HLC.out) HLCS.out (by rw [HV2.out]; exact HR.out) _ (HY2.out.below bup) (SmB.of_size HY2.out (by rw [HV2.out]; exact HM.out) (by rw [HV2.out]; exact HSZ.out)) (by rw [HV2.out]; exact HWF.out)).mono ?_); intro e wc5 hr; obtain ⟨ad13, c13, rfl, ho__, hb__⟩ := hr; have H13 := Lib.hid (Bs.of_own ho__); clear ho__; have hE__ := cU HB bup hb__; replace HB := ck HB hE__; replace HL := ck HL hE__; replace HY1 := ck HY1 hE__; replace HG5 := ck HG5 hE__; replace H8 := ck H8 hE__; replace HY2 := ck HY2 hE__; replace HG10 := ck HG10 hE__; clear hE__; clear hb__)
    | ((with_reducible refine sl 86 ?_); go_must (refine wpL_load rfl 27 (.tmp 5) rfl g5 0 rfl (v1.cells) _ (range_block HG5.out) Try.underlying27 rfl HBI.out ?_); simp only [PT])
    | (go_at_call 19; go_must (refine (blkRight_at true v1 (by rw [HV1.out]; exact HR.out) _ (HY1.out.below bup) (SmB.of_size HY1.out (by rw [HV1.out]; exact HM.out) (by rw [HV1.out]; exact HSZ.out)) (by rw [HV1.out]; exact HWF.out)).mono ?_); intro e wc6 hr; obtain ⟨rfl, hb__⟩ := hr; have hE__ := cU HB bup hb__; replace HB := ck HB hE__; replace HL := ck HL hE__; replace HY1 := ck HY1 hE__; replace HG5 := ck HG5 hE__; replace H8 := ck H8 hE__; replace HY2 := ck HY2 hE__; replace HG10 := ck HG10 hE__; replace H13 := ck H13 hE__; clear hE__; clear hb__)
    | ((with_reducible refine sl 91 ?_); go_must (refine wpL_load rfl 27 (.tmp 5) rfl g5 0 rfl (v1.cells) _ (range_block HG5.out) Try.underlying27 rfl HBI.out ?_); simp only [PT])
    | ((with_reducible refine sl 92 ?_); go_must (refine wpL_load rfl 27 (.tmp 10) rfl g10 0 rfl (v2.cells) _ (range_block HG10.out) Try.underlying27 rfl HBI.out ?_); simp only [PT])
    | (go_at_call 21; (with_reducible show Calls _ _ #[_, Value.agg v2.cells.toArray] _ _); go_must (refine (blkSame_at true v1 v2 (by rw [HV1.out, HV2.out]; exact sameP_self _) _ (HY1.out.below bup) (HY2.out.below bup)).mono ?_); intro e wc7 hr; obtain ⟨rfl, hb__⟩ := hr; have hE__ := cU HB bup hb__; replace HB := ck HB hE__; replace HL := ck HL hE__; replace HY1 := ck HY1 hE__; replace HG5 := ck HG5 hE__; replace H8 := ck H8 hE__; replace HY2 := ck HY2 hE__; replace HG10 := ck HG10 hE__; replace H13 := ck H13 hE__; clear hE__; clear hb__)
    | ((with_reducible refine sl 98 ?_); go_must (refine wpL_str elB.1 (by kernel_rfl) (by kernel_rfl) rfl (.tmp 97) rfl rfl (H8.out.below bup) ?_); simp only [PT])
    | ((with_reducible refine sl 100 ?_); go_must (refine wpL_str elB.1 (by kernel_rfl) (by kernel_rfl) rfl (.tmp 99) rfl rfl (H13.out.below bup) ?_); simp only [PT])
    | ((with_reducible refine sl 104 ?_); go_must (refine wpL_load rfl 27 (.tmp 5) rfl g5 0 rfl (v1.cells) _ (range_block HG5.out) Try.underlying27 rfl HBI.out ?_); simp only [PT])
    | (go_at_call 23; (with_reducible show Calls _ _ #[Value.agg v1.cells.toArray, Value.bool (!big)] _ _); go_must (refine (blkPut_rightS LU S v1 (!big) (by rw [HV1.out]; exact HLU.out) HLUS.out (by rw [HV1.out]; exact HR.out) _ (HY1.out.below bup) (SmB.of_size HY1.out (by rw [HV1.out]; exact HM.out) (by rw [HV1.out]; exact HSZ.out)) (by rw [HV1.out]; exact HWF.out)).mono ?_); intro e wc8 hr; obtain ⟨ad15, c15, rfl, ho__, hb__⟩ := hr; have H15 := Lib.hid (Bs.of_own ho__); clear ho__; have hE__ := cU HB bup hb__; replace HB := ck HB hE__; replace HL := ck HL hE__; replace HY1 := ck HY1 hE__; replace HG5 := ck HG5 hE__; replace H8 := ck H8 hE__; replace HY2 := ck HY2 hE__; replace HG10 := ck HG10 hE__; replace H13 := ck H13 hE__; clear hE__; clear hb__)
    | (go_at_call 26; (with_reducible show Calls _ _ #[Value.slice ad15 _ _, _] _ _); go_must (refine (blkGet_at X S 0 ad15 S c15 LU (!big) HGU.out _ (H15.out.below bup) (by omega)).mono ?_); intro e wc9 hr; obtain ⟨v3, rfl, hv__, ho__, hb__⟩ := hr; have HY3 := Lib.hid ho__.blk; have HV3 := Lib.hid hv__; clear ho__ hv__; have hE__ := cU HB bup hb__; replace HB := ck HB hE__; replace HL := ck HL hE__; replace HY1 := ck HY1 hE__; replace HG5 := ck HG5 hE__; replace H8 := ck H8 hE__; replace HY2 := ck HY2 hE__; replace HG10 := ck HG10 hE__; replace H13 := ck H13 hE__; replace H15 := ck H15 hE__; clear hE__; clear hb__)
    | ((with_reducible refine sl 17 ?_); go_must (refine wpL_newN rfl rfl 27 rfl (.tmp 17) (.tmp 115) rfl (v3.cells).toArray _ HZI.out rfl (bcells_all _) (fun _ => rfl) (fun _ => rfl) ?_); intro wn17 g17 le_g17 lt_g17 hg__ hb__; have HG17 := Lib.hid hg__; have hE__ := cU HB bup hb__; replace HB := ck HB hE__; replace HL := ck HL hE__; replace HY1 := ck HY1 hE__; replace HG5 := ck HG5 hE__; replace H8 := ck H8 hE__; replace HY2 := ck HY2 hE__; replace HG10 := ck HG10 hE__; replace H13 := ck H13 hE__; replace H15 := ck H15 hE__; replace HY3 := ck HY3 hE__; clear hE__; clear hg__ hb__; simp only [PT])
    | ((with_reducible refine sl 125 ?_); go_must (refine wpL_load rfl 27 (.tmp 5) rfl g5 0 rfl (v1.cells) _ (range_block HG5.out) Try.underlying27 rfl HBI.out ?_); simp only [PT])
    | ((with_reducible refine sl 126 ?_); go_must (refine wpL_load rfl 27 (.tmp 17) rfl g17 0 rfl (v3.cells) _ (range_block HG17.out) Try.underlying27 rfl HBI.out ?_); simp only [PT])
    | (go_at_call 21; (with_reducible show Calls _ _ #[_, Value.agg v3.cells.toArray] _ _); go_must (refine (blkSame_at true v1 v3 (by rw [HV1.out, HV3.out]; exact sameP_self _) _ (HY1.out.below bup) (HY3.out.below bup)).mono ?_); intro e wc10 hr; obtain ⟨rfl, hb__⟩ := hr; have hE__ := cU HB bup hb__; replace HB := ck HB hE__; replace HL := ck HL hE__; replace HY1 := ck HY1 hE__; replace HG5 := ck HG5 hE__; replace H8 := ck H8 hE__; replace HY2 := ck HY2 hE__; replace HG10 := ck HG10 hE__; replace H13 := ck H13 hE__; replace H15 := ck H15 hE__; replace HY3 := ck HY3 hE__; replace HG17 := ck HG17 hE__; clear hE__; clear hb__))
  go_ret
  exact ⟨by simp, HB.out⟩
end Go.Proofs.Ytmfplinbbcoahaa
