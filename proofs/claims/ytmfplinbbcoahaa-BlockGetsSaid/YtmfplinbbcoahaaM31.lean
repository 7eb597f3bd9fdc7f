/-
  Joined by program (merge.py): LawA3.
-/
import Derived.Test.YtmfplinbbcoahaaM18
import Derived.Test.YtmfplinbbcoahaaM28
/-
  Chapter 26: the law BlockGets, walked.
-/
namespace Go.Proofs.Ytmfplinbbcoahaa
open Go.RowKit Go.Sort
set_option linter.unusedVariables false
set_option linter.unusedSimpArgs false

set_option maxRecDepth 100000 in
set_option maxHeartbeats 16000000 in
theorem gets26_walk (ad : Option Addr) (n c : Nat) (l : List UInt8) (big : Bool) (w : World) (hs : Bs w ad n c l) :
    Calls Try.prog 5 #[.slice ad n c, .bool big] w fun e w' => e = .returned (.bool true) ∧ Below w.heap.size w w' := by
  have HB := Lib.hid (Below.refl w.heap.size w)
  have HBI := Lib.hid blk_info
  have HZI := Lib.hid zero_info
  have HL := Lib.hid hs
  clear hs
  by_cases hn : 70000 < n
  · have hi : (70000 : Int) < (n : Int) := by omega
    go_enter Try.func5, Try.ntmps5
    go_wp2_with (first
      | (go_at_call 17; go_must (refine (blkAwake_any _).mono ?_); intro e wc1 hr; obtain ⟨rfl, hb__⟩ := hr; have hE__ := cU HB bup hb__; replace HB := ck HB hE__; replace HL := ck HL hE__; clear hE__; clear hb__))
    go_ret
    exact ⟨rfl, HB.out⟩
  · have hi : ¬ (70000 : Int) < (n : Int) := by omega
    obtain ⟨P, hP⟩ : ∃ P, P = getP big l := ⟨_, rfl⟩
    obtain ⟨X, N, E⟩ := P
    have HX := Lib.hid hP.symm
    clear hP
    go_enter Try.func5, Try.ntmps5
    go_wp2_with (first
      | (go_at_call 17; go_must (refine (blkAwake_any _).mono ?_); intro e wc1 hr; obtain ⟨rfl, hb__⟩ := hr; have hE__ := cU HB bup hb__; replace HB := ck HB hE__; replace HL := ck HL hE__; clear hE__; clear hb__)
      | (go_at_call 26; go_must (refine (blkGet_at X N E ad n c l big HX.out _ (HL.out.below bup) (by omega)).mono ?_); intro e wc2 hr; obtain ⟨v1, rfl, hv__, ho__, hb__⟩ := hr; have HY1 := Lib.hid ho__.blk; have HV1 := Lib.hid hv__; clear ho__ hv__; have hE__ := cU HB bup hb__; replace HB := ck HB hE__; replace HL := ck HL hE__; clear hE__; clear hb__)
      | ((with_reducible refine sl 5 ?_); go_must (refine wpL_newN rfl rfl 27 rfl (.tmp 5) (.tmp 23) rfl (v1.cells).toArray _ HZI.out rfl (bcells_all _) (fun _ => rfl) (fun _ => rfl) ?_); intro wn5 g5 le_g5 lt_g5 hg__ hb__; have HG5 := Lib.hid hg__; have hE__ := cU HB bup hb__; replace HB := ck HB hE__; replace HL := ck HL hE__; replace HY1 := ck HY1 hE__; clear hE__; clear hg__ hb__; simp only [PT])
      | (go_at_call 27; go_must (refine (refGetB_at X N E ad n c l big HX.out _ (HL.out.below bup) (by omega)).mono ?_); intro e wc3 hr; obtain ⟨v2, rfl, hv__, ho__, hb__⟩ := hr; have HY2 := Lib.hid ho__.blk; have HV2 := Lib.hid hv__; clear ho__ hv__; have hE__ := cU HB bup hb__; replace HB := ck HB hE__; replace HL := ck HL hE__; replace HY1 := ck HY1 hE__; replace HG5 := ck HG5 hE__; clear hE__; clear hb__)
      | ((with_reducible refine sl 8 ?_); go_must (refine wpL_newN rfl rfl 27 rfl (.tmp 8) (.tmp 30) rfl (v2.cells).toArray _ HZI.out rfl (bcells_all _) (fun _ => rfl) (fun _ => rfl) ?_); intro wn8 g8 le_g8 lt_g8 hg__ hb__; have HG8 := Lib.hid hg__; have hE__ := cU HB bup hb__; replace HB := ck HB hE__; replace HL := ck HL hE__; replace HY1 := ck HY1 hE__; replace HG5 := ck HG5 hE__; replace HY2 := ck HY2 hE__; clear hE__; clear hg__ hb__; simp only [PT])
      | ((with_reducible refine sl 42 ?_); go_must (refine wpL_load rfl 27 (.tmp 5) rfl g5 0 rfl (v1.cells) _ (range_block HG5.out) Try.underlying27 rfl HBI.out ?_); simp only [PT])
      | ((with_reducible refine sl 43 ?_); go_must (refine wpL_load rfl 27 (.tmp 8) rfl g8 0 rfl (v2.cells) _ (range_block HG8.out) Try.underlying27 rfl HBI.out ?_); simp only [PT])
      | (go_at_call 22; go_must (refine (refBSame_at true v1 v2 (by rw [HV1.out, HV2.out]; exact sameP_self _) _ (HY1.out.below bup) (HY2.out.below bup)).mono ?_); intro e wc4 hr; obtain ⟨rfl, hb__⟩ := hr; have hE__ := cU HB bup hb__; replace HB := ck HB hE__; replace HL := ck HL hE__; replace HY1 := ck HY1 hE__; replace HG5 := ck HG5 hE__; replace HY2 := ck HY2 hE__; replace HG8 := ck HG8 hE__; clear hE__; clear hb__))
    go_ret
    exact ⟨by simp, HB.out⟩
end Go.Proofs.Ytmfplinbbcoahaa
