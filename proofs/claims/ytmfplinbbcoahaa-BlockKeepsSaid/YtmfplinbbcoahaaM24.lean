/-
  Joined by program (merge.py): RO3, RO4.
-/
import Derived.Test.YtmfplinbbcoahaaM23
/-
  Chapter 26: a block's body read by the document, kind by kind, walked (by genrefopen.py).
-/
namespace Go.Proofs.Ytmfplinbbcoahaa
open Go.RowKit Go.Sort
set_option linter.unusedVariables false
set_option linter.unusedSimpArgs false

set_option maxRecDepth 100000 in
set_option maxHeartbeats 8000000 in
theorem refOpen3_short (ad : Option Addr) (n c : Nat) (l : List UInt8) (big : Bool) (w : World) (hs : Bs w ad n c l) (hn : n ≤ 1048576) (h : n < 20) :
    Calls Try.prog 62 #[.agg #[.int .i64 3, .bool false, .int .u32 0, .int .i64 0, .int .u32 0, .int .i64 0, .int .u64 0, .int .u32 0, .slice none 0 0, .slice none 0 0, .slice none 0 0], .slice ad n c, .bool big] w (OpenR ad n c l (openP 3 0 l big) w) := by
  have HB := Lib.hid (Below.refl w.heap.size w)
  have HS := Lib.hid hs
  have HBI := Lib.hid blk_info
  have hc := hs.le
  have HN := Lib.hid hs.len
  clear hs
  have hi : (n : Int) < 20 := by omega
  have HO := Lib.hid (show openP 3 0 l big = none from by have := HN.out; unfold openP; simp [show l.length < 20 by omega])
  clear h
  go_enter Try.func62, Try.ntmps62
  go_wp2_with (first
    | ((with_reducible refine sl 3 ?_); go_must (refine wpL_boxG rfl 27 (.tmp 0) rfl #[.int .i64 3, .bool false, .int .u32 0, .int .i64 0, .int .u32 0, .int .i64 0, .int .u64 0, .int .u32 0, .slice none 0 0, .slice none 0 0, .slice none 0 0] rfl ?_); intro w1 g3 he__ le_g3 lt_g3 hg__ hb__; have HG3 := Lib.hid hg__; have hE__ := cU HB bup hb__; replace HB := ck HB hE__; clear hE__; clear hg__ hb__ he__; simp only [PT])
    | ((with_reducible refine sl 6 ?_); go_must (refine wpL_allocG rfl 27 rfl (.agg #[.int .i64 0, .bool false, .int .u32 0, .int .i64 0, .int .u32 0, .int .i64 0, .int .u64 0, .int .u32 0, .slice none 0 0, .slice none 0 0, .slice none 0 0]) #[.int .i64 0, .bool false, .int .u32 0, .int .i64 0, .int .u32 0, .int .i64 0, .int .u64 0, .int .u32 0, .slice none 0 0, .slice none 0 0, .slice none 0 0] 11 (by kernel_rfl) rfl ?_); intro w2 g6 he__ le_g6 lt_g6 hg__ hb__; have HG6 := Lib.hid hg__; have hE__ := cU HB bup hb__; replace HB := ck HB hE__; replace HG3 := ck HG3 hE__; clear hE__; clear hg__ hb__ he__; simp only [PT])
    | ((with_reducible refine sl 25 ?_); go_must (refine wpL_litN rfl 101 3 8 _ rfl .i64 [0, 16, 8, 20, 4, 0, 12, 0] Try.underlying101 (by kernel_rfl) (by kernel_rfl) rfl (by decide) (by decide) (by rfl) ?_); intro w3 gL le_gL hg__ hb__; have HGL := Lib.hid hg__; have hE__ := cU HB bup hb__; replace HB := ck HB hE__; replace HG3 := ck HG3 hE__; replace HG6 := ck HG6 hE__; clear hE__; clear hg__ hb__; simp only [PT])
    | ((with_reducible refine sl 27 ?_); go_must (refine wpL_loadF rfl 3 (.tmp 26) rfl g3 0 rfl (.int .i64 3) HG3.out rfl Try.underlying3 rfl ?_); simp only [PT])
    | ((with_reducible refine sl 29 ?_); go_must (refine wpL_loadF rfl 3 (.tmp 28) rfl gL 3 rfl (.int .i64 20) HGL.out rfl Try.underlying3 rfl ?_); simp only [PT])
    | ((with_reducible refine sl 36 ?_); go_must (refine wpL_loadF rfl 3 (.tmp 35) rfl g3 0 rfl (.int .i64 3) HG3.out rfl Try.underlying3 rfl ?_); simp only [PT])
    | ((with_reducible refine sl 83 ?_); go_must (refine wpL_loadF rfl 3 (.tmp 82) rfl g3 0 rfl (.int .i64 3) HG3.out rfl Try.underlying3 rfl ?_); simp only [PT])
    | ((with_reducible refine sl 34 ?_); go_must (refine wpL_load rfl 27 (.tmp 3) rfl g3 0 rfl [.int .i64 3, .bool false, .int .u32 0, .int .i64 0, .int .u32 0, .int .i64 0, .int .u64 0, .int .u32 0, .slice none 0 0, .slice none 0 0, .slice none 0 0] _ (range_block HG3.out) Try.underlying27 rfl HBI.out ?_); simp only [PT])
    | ((with_reducible show wpList _ _ _ (⟨none, .store _ (.tmp 6) (.tmp 34), _, _, _, _⟩ :: _) _ _); go_must (refine wpL_storeRow rfl 27 (.tmp 6) (.tmp 34) rfl g6 #[.int .i64 3, .bool false, .int .u32 0, .int .i64 0, .int .u32 0, .int .i64 0, .int .u64 0, .int .u32 0, .slice none 0 0, .slice none 0 0, .slice none 0 0] rfl rfl HG6.out HBI.out rfl (all1 _ rfl) ?_); intro w9 hs__ hr__; replace HB := cg HB bup hr__ (by omega); replace HG3 := cg HG3 bup hr__ (by omega); clear HG6; have HG6 := Lib.hid hs__; clear hs__ hr__; simp only [PT]))
  all_goals
    (try simp only [Exit.inBlock, Exit.then, Exit.noGoto_ret])
    refine bodyPost_cell1x (cs := [.int .i64 3, .bool false, .int .u32 0, .int .i64 0, .int .u32 0, .int .i64 0, .int .u64 0, .int .u32 0, .slice none 0 0, .slice none 0 0, .slice none 0 0]) rfl rfl (range_block HG6.out) Try.underlying27 rfl HBI.out rfl ?_
    exact ⟨⟨3, false, 0, 0, 0, 0, 0, 0, none, 0, 0, [], none, 0, 0, [], none, 0, 0, []⟩, none, 0, 0, false, rfl, by rw [HO.out]; rfl, fun x r h => absurd (HO.out.symm.trans h) (by simp), HB.out⟩

set_option maxRecDepth 100000 in
set_option maxHeartbeats 8000000 in
theorem refOpen3_a (ad : Option Addr) (n c : Nat) (l : List UInt8) (big : Bool) (w : World) (hs : Bs w ad n c l) (hn : n ≤ 1048576) (h : 20 ≤ n) (h2 : n - 20 < w4 big l 12) :
    Calls Try.prog 62 #[.agg #[.int .i64 3, .bool false, .int .u32 0, .int .i64 0, .int .u32 0, .int .i64 0, .int .u64 0, .int .u32 0, .slice none 0 0, .slice none 0 0, .slice none 0 0], .slice ad n c, .bool big] w (OpenR ad n c l (openP 3 0 l big) w) := by
  have HB := Lib.hid (Below.refl w.heap.size w)
  have HS := Lib.hid hs
  have HBI := Lib.hid blk_info
  have hc := hs.le
  have HN := Lib.hid hs.len
  clear hs
  have hi : ¬ (n : Int) < 20 := by omega
  obtain ⟨V0, hV0⟩ : ∃ x, x = getN ((l.drop 0).take 4) big := ⟨_, rfl⟩
  have bV0 : V0 < 4294967296 := by rw [hV0]; exact w4_lt big l 0
  have HV0 := Lib.hid hV0
  clear hV0
  obtain ⟨V4, hV4⟩ : ∃ x, x = getN ((l.drop 4).take 4) big := ⟨_, rfl⟩
  have bV4 : V4 < 4294967296 := by rw [hV4]; exact w4_lt big l 4
  have HV4 := Lib.hid hV4
  clear hV4
  obtain ⟨V8, hV8⟩ : ∃ x, x = getN ((l.drop 8).take 4) big := ⟨_, rfl⟩
  have bV8 : V8 < 4294967296 := by rw [hV8]; exact w4_lt big l 8
  have HV8 := Lib.hid hV8
  clear hV8
  obtain ⟨V12, hV12⟩ : ∃ x, x = getN ((l.drop 12).take 4) big := ⟨_, rfl⟩
  have bV12 : V12 < 4294967296 := by rw [hV12]; exact w4_lt big l 12
  have HV12 := Lib.hid hV12
  clear hV12
  obtain ⟨V16, hV16⟩ : ∃ x, x = getN ((l.drop 16).take 4) big := ⟨_, rfl⟩
  have bV16 : V16 < 4294967296 := by rw [hV16]; exact w4_lt big l 16
  have HV16 := Lib.hid hV16
  clear hV16
  have e0 : IntKind.i64.wrap (V0 : Int) = (V0 : Int) := by rw [IntKind.wrap_i64]; omega
  obtain ⟨T, hT⟩ : ∃ T, T = V4 * 4294967296 + V8 := ⟨_, rfl⟩
  have hT2 : T < 18446744073709551616 := by omega
  have ht1 : IntKind.u64.wrap ((V4 : Int) * 4294967296) = (V4 : Int) * 4294967296 := by rw [IntKind.wrap_u64]; omega
  have ht2 : (V4 : Int) * 4294967296 + (V8 : Int) = (T : Int) := by omega
  have ht3 : IntKind.u64.wrap ((V4 : Int) * 4294967296 + (V8 : Int)) = (T : Int) := by rw [IntKind.wrap_u64]; omega
  have ht4 : IntKind.u64.wrap (T : Int) = (T : Int) := by rw [IntKind.wrap_u64]; omega
  have HT := Lib.hid hT
  clear hT
  have e1 : IntKind.i64.wrap (V12 : Int) = (V12 : Int) := by rw [IntKind.wrap_i64]; omega
  have e2 : IntKind.u32.wrap (V16 : Int) = (V16 : Int) := by rw [IntKind.wrap_u32]; omega
  obtain ⟨m, hm⟩ : ∃ m, m = n - 20 := ⟨_, rfl⟩
  obtain ⟨cc, hcc⟩ : ∃ m, m = c - 20 := ⟨_, rfl⟩
  obtain ⟨R, hR⟩ : ∃ R, R = l.drop 20 := ⟨_, rfl⟩
  have HM := Lib.hid hm.symm
  have HCC := Lib.hid hcc.symm
  have hm1 : m + 20 ≤ n := by omega
  have hm2 : n ≤ m + 20 := by omega
  have hm3 : m ≤ cc := by omega
  have hRl : R.length = m := by rw [hR, List.length_drop, ← HN.out, hm]
  have HRL := Lib.hid hRl
  have HRR : Hid ((l.drop 20).take m = R) := Lib.hid (by rw [← hR]; exact List.take_of_length_le (by omega))
  have HR := Lib.hid hR
  clear hm hcc hR hRl
  obtain ⟨P, hP⟩ : ∃ P, P = padN V12 := ⟨_, rfl⟩
  obtain ⟨Q, hQ⟩ : ∃ Q, Q = V12 + P := ⟨_, rfl⟩
  have hQ1 : V12 ≤ Q := by omega
  have hQ2 : Q ≤ V12 + 3 := by rw [hQ, hP]; unfold padN; omega
  have hQ3 : Q % 4 = 0 := by rw [hQ, hP]; unfold padN; omega
  obtain ⟨D, hD⟩ : ∃ D, D = R.take V12 := ⟨_, rfl⟩
  have HDD := Lib.hid hD.symm
  have h3 : n - 20 < V12 := by rw [HV12.out]; exact h2
  have HO : Hid (openP 3 0 l big = none) := Lib.hid (by
    have := HN.out
    have f0 : w4 big l 0 = V0 := HV0.out.symm
    have f4 : w4 big l 4 = V4 := HV4.out.symm
    have f8 : w4 big l 8 = V8 := HV8.out.symm
    have f12 : w4 big l 12 = V12 := HV12.out.symm
    have f16 : w4 big l 16 = V16 := HV16.out.symm
    unfold openP
    simp only [f0, f4, f8, f12, f16, ← hP, ← hQ]
    rw [if_neg (by decide), if_neg (by decide), if_pos trivial, if_neg (by omega), if_pos (by omega)])
  clear HN hP hQ hD h2
  go_enter Try.func62, Try.ntmps62
  go_wp2_with (first
    | ((with_reducible refine sl 3 ?_); go_must (refine wpL_boxG rfl 27 (.tmp 0) rfl #[.int .i64 3, .bool false, .int .u32 0, .int .i64 0, .int .u32 0, .int .i64 0, .int .u64 0, .int .u32 0, .slice none 0 0, .slice none 0 0, .slice none 0 0] rfl ?_); intro w1 g3 he__ le_g3 lt_g3 hg__ hb__; have HG3 := Lib.hid hg__; have hE__ := cU HB bup hb__; replace HB := ck HB hE__; clear hE__; clear hg__ hb__ he__; simp only [PT])
    | ((with_reducible refine sl 6 ?_); go_must (refine wpL_allocG rfl 27 rfl (.agg #[.int .i64 0, .bool false, .int .u32 0, .int .i64 0, .int .u32 0, .int .i64 0, .int .u64 0, .int .u32 0, .slice none 0 0, .slice none 0 0, .slice none 0 0]) #[.int .i64 0, .bool false, .int .u32 0, .int .i64 0, .int .u32 0, .int .i64 0, .int .u64 0, .int .u32 0, .slice none 0 0, .slice none 0 0, .slice none 0 0] 11 (by kernel_rfl) rfl ?_); intro w2 g6 he__ le_g6 lt_g6 hg__ hb__; have HG6 := Lib.hid hg__; have hE__ := cU HB bup hb__; replace HB := ck HB hE__; replace HG3 := ck HG3 hE__; clear hE__; clear hg__ hb__ he__; simp only [PT])
    | ((with_reducible refine sl 25 ?_); go_must (refine wpL_litN rfl 101 3 8 _ rfl .i64 [0, 16, 8, 20, 4, 0, 12, 0] Try.underlying101 (by kernel_rfl) (by kernel_rfl) rfl (by decide) (by decide) (by rfl) ?_); intro w3 gL le_gL hg__ hb__; have HGL := Lib.hid hg__; have hE__ := cU HB bup hb__; replace HB := ck HB hE__; replace HG3 := ck HG3 hE__; replace HG6 := ck HG6 hE__; clear hE__; clear hg__ hb__; simp only [PT])
    | ((with_reducible refine sl 27 ?_); go_must (refine wpL_loadF rfl 3 (.tmp 26) rfl g3 0 rfl (.int .i64 3) HG3.out rfl Try.underlying3 rfl ?_); simp only [PT])
    | ((with_reducible refine sl 29 ?_); go_must (refine wpL_loadF rfl 3 (.tmp 28) rfl gL 3 rfl (.int .i64 20) HGL.out rfl Try.underlying3 rfl ?_); simp only [PT])
    | ((with_reducible refine sl 36 ?_); go_must (refine wpL_loadF rfl 3 (.tmp 35) rfl g3 0 rfl (.int .i64 3) HG3.out rfl Try.underlying3 rfl ?_); simp only [PT])
    | ((with_reducible refine sl 83 ?_); go_must (refine wpL_loadF rfl 3 (.tmp 82) rfl g3 0 rfl (.int .i64 3) HG3.out rfl Try.underlying3 rfl ?_); simp only [PT])
    | (go_at_call 85; (with_reducible show Calls _ _ #[_, Value.int .i64 0, _] _ _); go_must (refine (word_any ad n c l 0 big _ (HS.out.below (HB.out.trans (Below.mono bup HB.out.size))) (by omega) (by omega)).mono ?_); intro e w4 hr; rw [← HV0.out] at hr; obtain ⟨rfl, hw__⟩ := hr; subst hw__)
    | ((with_reducible show wpList _ _ _ (⟨none, .store _ (.tmp 72) (.tmp 71), _, _, _, _⟩ :: _) _ _); go_must (refine wpL_storeF rfl 3 (.tmp 72) (.tmp 71) rfl g3 5 (.int .i64 (V0 : Int)) rfl rfl rfl HG3.out (by simp) (by kernel_rfl) #[.int .i64 3, .bool false, .int .u32 0, .int .i64 0, .int .u32 0, .int .i64 (V0 : Int), .int .u64 0, .int .u32 0, .slice none 0 0, .slice none 0 0, .slice none 0 0] rfl ?_); intro w5 hs__ hr__; replace HB := cg HB bup hr__ (by omega); replace HG6 := cg HG6 bup hr__ (by omega); clear HG3; have HG3 := Lib.hid hs__; clear hs__ hr__; simp only [PT])
    | (go_at_call 85; (with_reducible show Calls _ _ #[_, Value.int .i64 4, _] _ _); go_must (refine (word_any ad n c l 4 big _ (HS.out.below (HB.out.trans (Below.mono bup HB.out.size))) (by omega) (by omega)).mono ?_); intro e w6 hr; rw [← HV4.out] at hr; obtain ⟨rfl, hw__⟩ := hr; subst hw__)
    | (go_at_call 85; (with_reducible show Calls _ _ #[_, Value.int .i64 8, _] _ _); go_must (refine (word_any ad n c l 8 big _ (HS.out.below (HB.out.trans (Below.mono bup HB.out.size))) (by omega) (by omega)).mono ?_); intro e w7 hr; rw [← HV8.out] at hr; obtain ⟨rfl, hw__⟩ := hr; subst hw__)
    | ((with_reducible show wpList _ _ _ (⟨none, .store _ (.tmp 81) (.tmp 80), _, _, _, _⟩ :: _) _ _); go_must (refine wpL_storeF rfl 23 (.tmp 81) (.tmp 80) rfl g3 6 (.int .u64 ((T : Nat) : Int)) rfl rfl rfl HG3.out (by simp) (by kernel_rfl) #[.int .i64 3, .bool false, .int .u32 0, .int .i64 0, .int .u32 0, .int .i64 (V0 : Int), .int .u64 ((T : Nat) : Int), .int .u32 0, .slice none 0 0, .slice none 0 0, .slice none 0 0] rfl ?_); intro w8 hs__ hr__; replace HB := cg HB bup hr__ (by omega); replace HG6 := cg HG6 bup hr__ (by omega); clear HG3; have HG3 := Lib.hid hs__; clear hs__ hr__; simp only [PT])
    | (go_at_call 85; (with_reducible show Calls _ _ #[_, Value.int .i64 16, _] _ _); go_must (refine (word_any ad n c l 16 big _ (HS.out.below (HB.out.trans (Below.mono bup HB.out.size))) (by omega) (by omega)).mono ?_); intro e w9 hr; rw [← HV16.out] at hr; obtain ⟨rfl, hw__⟩ := hr; subst hw__)
    | ((with_reducible show wpList _ _ _ (⟨none, .store _ (.tmp 92) (.tmp 91), _, _, _, _⟩ :: _) _ _); go_must (refine wpL_storeF rfl 22 (.tmp 92) (.tmp 91) rfl g3 7 (.int .u32 (V16 : Int)) rfl rfl rfl HG3.out (by simp) (by kernel_rfl) #[.int .i64 3, .bool false, .int .u32 0, .int .i64 0, .int .u32 0, .int .i64 (V0 : Int), .int .u64 ((T : Nat) : Int), .int .u32 (V16 : Int), .slice none 0 0, .slice none 0 0, .slice none 0 0] rfl ?_); intro w10 hs__ hr__; replace HB := cg HB bup hr__ (by omega); replace HG6 := cg HG6 bup hr__ (by omega); clear HG3; have HG3 := Lib.hid hs__; clear hs__ hr__; simp only [PT])
    | (go_at_call 85; (with_reducible show Calls _ _ #[_, Value.int .i64 12, _] _ _); go_must (refine (word_any ad n c l 12 big _ (HS.out.below (HB.out.trans (Below.mono bup HB.out.size))) (by omega) (by omega)).mono ?_); intro e w11 hr; rw [← HV12.out] at hr; obtain ⟨rfl, hw__⟩ := hr; subst hw__)
    | ((with_reducible refine sl 99 ?_); go_must (refine wpL_sliceG elB rfl (.tmp 98) (some (.const (.int .i64 20))) none rfl rfl 20 n (.inr ⟨.i64, rfl⟩) (.inl ⟨rfl, rfl⟩) (by omega) (by omega) m cc HM.out HCC.out ?_); intro ad99 had; have HA99 := Lib.hid (show ∀ w0, Bs w0 ad n c l → Bs w0 ad99 m cc R from fun w0 h0 => Bs.partG h0 20 n m cc (by omega) (by omega) HM.out HCC.out ad99 had R HRR.out); clear had; simp only [PT])
    | (go_at_call 86; (with_reducible show Calls _ _ #[Value.slice ad99 _ _, Value.int .i64 (V12 : Int)] _ _); go_must (refine (cut_short ad99 m cc V12 (by omega) _).mono ?_); intro e w12 hr; obtain ⟨rfl, hw__⟩ := hr; subst hw__))
  go_loopw [10] (fun i wr => ∃ x : Nat, V12 ≤ x ∧ x ≤ Q ∧ i = .int .i64 (x : Int) ∧ wr.heap[g3]? = some (.cells #[.int .i64 3, .bool false, .int .u32 0, .int .i64 0, .int .u32 0, .int .i64 (V0 : Int), .int .u64 ((T : Nat) : Int), .int .u32 (V16 : Int), .slice none 0 0, .slice none 0 0, .slice none 0 0] 27 (0, 0)) ∧ wr.heap[g6]? = some (.cells #[.int .i64 0, .bool false, .int .u32 0, .int .i64 0, .int .u32 0, .int .i64 0, .int .u64 0, .int .u32 0, .slice none 0 0, .slice none 0 0, .slice none 0 0] 27 (0, 0)) ∧ Below w.heap.size w wr) (fun i _ => Q + 4 - (intOf i).toNat)
  case atStart => exact ⟨V12, Nat.le_refl _, hQ1, rfl, HG3.out, HG6.out, HB.out⟩
  case round =>
    obtain ⟨x, hx1, hx2, rfl, hg3, hg6, hb⟩ := hrel
    clear HB HG3 HG6 
    have HB := Lib.hid hb
    have HG3 := Lib.hid hg3
    have HG6 := Lib.hid hg6
    
    clear hb hg3 hg6 
    by_cases h4 : x % 4 = 0
    · obtain rfl : x = Q := by omega
      have h4i : (x : Int) % 4 = 0 := by omega
      go_wp2_with (first
        | ((with_reducible refine sl 112 ?_); go_must (refine wpL_sliceG elB rfl (.tmp 111) (some (.const (.int .i64 20))) none rfl rfl 20 n (.inr ⟨.i64, rfl⟩) (.inl ⟨rfl, rfl⟩) (by omega) (by omega) m cc HM.out HCC.out ?_); intro ad112 had; have HA112 := Lib.hid (show ∀ w0, Bs w0 ad n c l → Bs w0 ad112 m cc R from fun w0 h0 => Bs.partG h0 20 n m cc (by omega) (by omega) HM.out HCC.out ad112 had R HRR.out); clear had; simp only [PT])
        | (go_at_call 86; (with_reducible show Calls _ _ #[Value.slice ad112 _ _, Value.int .i64 (x : Int)] _ _); go_must (refine (cut_short ad112 m cc x (by omega) _).mono ?_); intro e w13 hr; obtain ⟨rfl, hw__⟩ := hr; subst hw__)
        | ((with_reducible show wpList _ _ _ (⟨none, .store _ (.tmp 119) (.tmp 118), _, _, _, _⟩ :: _) _ _); go_must (refine wpL_storeF rfl 24 (.tmp 119) (.tmp 118) rfl g3 8 (.slice none 0 0) rfl rfl rfl HG3.out (by simp) (by kernel_rfl) #[.int .i64 3, .bool false, .int .u32 0, .int .i64 0, .int .u32 0, .int .i64 (V0 : Int), .int .u64 ((T : Nat) : Int), .int .u32 (V16 : Int), .slice none 0 0, .slice none 0 0, .slice none 0 0] rfl ?_); intro w14 hs__ hr__; replace HB := cg HB bup hr__ (by omega); replace HG6 := cg HG6 bup hr__ (by omega); clear HG3; have HG3 := Lib.hid hs__; clear hs__ hr__; simp only [PT])
        | ((with_reducible refine sl 120 ?_); go_must (refine wpL_load rfl 27 (.tmp 3) rfl g3 0 rfl [.int .i64 3, .bool false, .int .u32 0, .int .i64 0, .int .u32 0, .int .i64 (V0 : Int), .int .u64 ((T : Nat) : Int), .int .u32 (V16 : Int), .slice none 0 0, .slice none 0 0, .slice none 0 0] _ (range_block HG3.out) Try.underlying27 rfl HBI.out ?_); simp only [PT])
        | ((with_reducible show wpList _ _ _ (⟨none, .store _ (.tmp 6) (.tmp 120), _, _, _, _⟩ :: _) _ _); go_must (refine wpL_storeRow rfl 27 (.tmp 6) (.tmp 120) rfl g6 #[.int .i64 3, .bool false, .int .u32 0, .int .i64 0, .int .u32 0, .int .i64 (V0 : Int), .int .u64 ((T : Nat) : Int), .int .u32 (V16 : Int), .slice none 0 0, .slice none 0 0, .slice none 0 0] rfl rfl HG6.out HBI.out rfl (all1 _ rfl) ?_); intro w15 hs__ hr__; replace HB := cg HB bup hr__ (by omega); replace HG3 := cg HG3 bup hr__ (by omega); clear HG6; have HG6 := Lib.hid hs__; clear hs__ hr__; simp only [PT]))
      (try simp only [Exit.inBlock, Exit.then, Exit.noGoto_ret])
      refine bodyPost_cell1x (cs := [.int .i64 3, .bool false, .int .u32 0, .int .i64 0, .int .u32 0, .int .i64 (V0 : Int), .int .u64 ((T : Nat) : Int), .int .u32 (V16 : Int), .slice none 0 0, .slice none 0 0, .slice none 0 0]) rfl rfl (range_block HG6.out) Try.underlying27 rfl HBI.out rfl ?_
      exact ⟨⟨3, false, 0, 0, 0, (V0 : Int), T, V16, none, 0, 0, [], none, 0, 0, [], none, 0, 0, []⟩, none, 0, 0, false, rfl, by rw [HO.out]; rfl, fun x r h => absurd (HO.out.symm.trans h) (by simp), HB.out⟩
  
    · have h4i : ¬ (x : Int) % 4 = 0 := by omega
      go_wp2_with fail
      go_roundw
      case rel => exact ⟨x + 1, by omega, by omega, by go_num, HG3.out, HG6.out, HB.out⟩
      case measure => simp [intOf]; omega

set_option maxRecDepth 100000 in
set_option maxHeartbeats 8000000 in
theorem refOpen3_b (ad : Option Addr) (n c : Nat) (l : List UInt8) (big : Bool) (w : World) (hs : Bs w ad n c l) (hn : n ≤ 1048576) (h : 20 ≤ n) (h2 : ¬ n - 20 < w4 big l 12) (h4 : n - 20 < w4 big l 12 + padN (w4 big l 12)) :
    Calls Try.prog 62 #[.agg #[.int .i64 3, .bool false, .int .u32 0, .int .i64 0, .int .u32 0, .int .i64 0, .int .u64 0, .int .u32 0, .slice none 0 0, .slice none 0 0, .slice none 0 0], .slice ad n c, .bool big] w (OpenR ad n c l (openP 3 0 l big) w) := by
  have HB := Lib.hid (Below.refl w.heap.size w)
  have HS := Lib.hid hs
  have HBI := Lib.hid blk_info
  have hc := hs.le
  have HN := Lib.hid hs.len
  clear hs
  have hi : ¬ (n : Int) < 20 := by omega
  obtain ⟨V0, hV0⟩ : ∃ x, x = getN ((l.drop 0).take 4) big := ⟨_, rfl⟩
  have bV0 : V0 < 4294967296 := by rw [hV0]; exact w4_lt big l 0
  have HV0 := Lib.hid hV0
  clear hV0
  obtain ⟨V4, hV4⟩ : ∃ x, x = getN ((l.drop 4).take 4) big := ⟨_, rfl⟩
  have bV4 : V4 < 4294967296 := by rw [hV4]; exact w4_lt big l 4
  have HV4 := Lib.hid hV4
  clear hV4
  obtain ⟨V8, hV8⟩ : ∃ x, x = getN ((l.drop 8).take 4) big := ⟨_, rfl⟩
  have bV8 : V8 < 4294967296 := by rw [hV8]; exact w4_lt big l 8
  have HV8 := Lib.hid hV8
  clear hV8
  obtain ⟨V12, hV12⟩ : ∃ x, x = getN ((l.drop 12).take 4) big := ⟨_, rfl⟩
  have bV12 : V12 < 4294967296 := by rw [hV12]; exact w4_lt big l 12
  have HV12 := Lib.hid hV12
  clear hV12
  obtain ⟨V16, hV16⟩ : ∃ x, x = getN ((l.drop 16).take 4) big := ⟨_, rfl⟩
  have bV16 : V16 < 4294967296 := by rw [hV16]; exact w4_lt big l 16
  have HV16 := Lib.hid hV16
  clear hV16
  have e0 : IntKind.i64.wrap (V0 : Int) = (V0 : Int) := by rw [IntKind.wrap_i64]; omega
  obtain ⟨T, hT⟩ : ∃ T, T = V4 * 4294967296 + V8 := ⟨_, rfl⟩
  have hT2 : T < 18446744073709551616 := by omega
  have ht1 : IntKind.u64.wrap ((V4 : Int) * 4294967296) = (V4 : Int) * 4294967296 := by rw [IntKind.wrap_u64]; omega
  have ht2 : (V4 : Int) * 4294967296 + (V8 : Int) = (T : Int) := by omega
  have ht3 : IntKind.u64.wrap ((V4 : Int) * 4294967296 + (V8 : Int)) = (T : Int) := by rw [IntKind.wrap_u64]; omega
  have ht4 : IntKind.u64.wrap (T : Int) = (T : Int) := by rw [IntKind.wrap_u64]; omega
  have HT := Lib.hid hT
  clear hT
  have e1 : IntKind.i64.wrap (V12 : Int) = (V12 : Int) := by rw [IntKind.wrap_i64]; omega
  have e2 : IntKind.u32.wrap (V16 : Int) = (V16 : Int) := by rw [IntKind.wrap_u32]; omega
  obtain ⟨m, hm⟩ : ∃ m, m = n - 20 := ⟨_, rfl⟩
  obtain ⟨cc, hcc⟩ : ∃ m, m = c - 20 := ⟨_, rfl⟩
  obtain ⟨R, hR⟩ : ∃ R, R = l.drop 20 := ⟨_, rfl⟩
  have HM := Lib.hid hm.symm
  have HCC := Lib.hid hcc.symm
  have hm1 : m + 20 ≤ n := by omega
  have hm2 : n ≤ m + 20 := by omega
  have hm3 : m ≤ cc := by omega
  have hRl : R.length = m := by rw [hR, List.length_drop, ← HN.out, hm]
  have HRL := Lib.hid hRl
  have HRR : Hid ((l.drop 20).take m = R) := Lib.hid (by rw [← hR]; exact List.take_of_length_le (by omega))
  have HR := Lib.hid hR
  clear hm hcc hR hRl
  obtain ⟨P, hP⟩ : ∃ P, P = padN V12 := ⟨_, rfl⟩
  obtain ⟨Q, hQ⟩ : ∃ Q, Q = V12 + P := ⟨_, rfl⟩
  have hQ1 : V12 ≤ Q := by omega
  have hQ2 : Q ≤ V12 + 3 := by rw [hQ, hP]; unfold padN; omega
  have hQ3 : Q % 4 = 0 := by rw [hQ, hP]; unfold padN; omega
  obtain ⟨D, hD⟩ : ∃ D, D = R.take V12 := ⟨_, rfl⟩
  have HDD := Lib.hid hD.symm
  have h3 : ¬ n - 20 < V12 := by rw [HV12.out]; exact h2
  have h5 : n - 20 < Q := by rw [hQ, hP, HV12.out]; exact h4
  have HO : Hid (openP 3 0 l big = none) := Lib.hid (by
    have := HN.out
    have f0 : w4 big l 0 = V0 := HV0.out.symm
    have f4 : w4 big l 4 = V4 := HV4.out.symm
    have f8 : w4 big l 8 = V8 := HV8.out.symm
    have f12 : w4 big l 12 = V12 := HV12.out.symm
    have f16 : w4 big l 16 = V16 := HV16.out.symm
    unfold openP
    simp only [f0, f4, f8, f12, f16, ← hP, ← hQ]
    rw [if_neg (by decide), if_neg (by decide), if_pos trivial, if_neg (by omega), if_pos (by omega)])
  clear HN hP hQ hD h2 h4
  go_enter Try.func62, Try.ntmps62
  go_wp2_with (first
    | ((with_reducible refine sl 3 ?_); go_must (refine wpL_boxG rfl 27 (.tmp 0) rfl #[.int .i64 3, .bool false, .int .u32 0, .int .i64 0, .int .u32 0, .int .i64 0, .int .u64 0, .int .u32 0, .slice none 0 0, .slice none 0 0, .slice none 0 0] rfl ?_); intro w1 g3 he__ le_g3 lt_g3 hg__ hb__; have HG3 := Lib.hid hg__; have hE__ := cU HB bup hb__; replace HB := ck HB hE__; clear hE__; clear hg__ hb__ he__; simp only [PT])
    | ((with_reducible refine sl 6 ?_); go_must (refine wpL_allocG rfl 27 rfl (.agg #[.int .i64 0, .bool false, .int .u32 0, .int .i64 0, .int .u32 0, .int .i64 0, .int .u64 0, .int .u32 0, .slice none 0 0, .slice none 0 0, .slice none 0 0]) #[.int .i64 0, .bool false, .int .u32 0, .int .i64 0, .int .u32 0, .int .i64 0, .int .u64 0, .int .u32 0, .slice none 0 0, .slice none 0 0, .slice none 0 0] 11 (by kernel_rfl) rfl ?_); intro w2 g6 he__ le_g6 lt_g6 hg__ hb__; have HG6 := Lib.hid hg__; have hE__ := cU HB bup hb__; replace HB := ck HB hE__; replace HG3 := ck HG3 hE__; clear hE__; clear hg__ hb__ he__; simp only [PT])
    | ((with_reducible refine sl 25 ?_); go_must (refine wpL_litN rfl 101 3 8 _ rfl .i64 [0, 16, 8, 20, 4, 0, 12, 0] Try.underlying101 (by kernel_rfl) (by kernel_rfl) rfl (by decide) (by decide) (by rfl) ?_); intro w3 gL le_gL hg__ hb__; have HGL := Lib.hid hg__; have hE__ := cU HB bup hb__; replace HB := ck HB hE__; replace HG3 := ck HG3 hE__; replace HG6 := ck HG6 hE__; clear hE__; clear hg__ hb__; simp only [PT])
    | ((with_reducible refine sl 27 ?_); go_must (refine wpL_loadF rfl 3 (.tmp 26) rfl g3 0 rfl (.int .i64 3) HG3.out rfl Try.underlying3 rfl ?_); simp only [PT])
    | ((with_reducible refine sl 29 ?_); go_must (refine wpL_loadF rfl 3 (.tmp 28) rfl gL 3 rfl (.int .i64 20) HGL.out rfl Try.underlying3 rfl ?_); simp only [PT])
    | ((with_reducible refine sl 36 ?_); go_must (refine wpL_loadF rfl 3 (.tmp 35) rfl g3 0 rfl (.int .i64 3) HG3.out rfl Try.underlying3 rfl ?_); simp only [PT])
    | ((with_reducible refine sl 83 ?_); go_must (refine wpL_loadF rfl 3 (.tmp 82) rfl g3 0 rfl (.int .i64 3) HG3.out rfl Try.underlying3 rfl ?_); simp only [PT])
    | (go_at_call 85; (with_reducible show Calls _ _ #[_, Value.int .i64 0, _] _ _); go_must (refine (word_any ad n c l 0 big _ (HS.out.below (HB.out.trans (Below.mono bup HB.out.size))) (by omega) (by omega)).mono ?_); intro e w4 hr; rw [← HV0.out] at hr; obtain ⟨rfl, hw__⟩ := hr; subst hw__)
    | ((with_reducible show wpList _ _ _ (⟨none, .store _ (.tmp 72) (.tmp 71), _, _, _, _⟩ :: _) _ _); go_must (refine wpL_storeF rfl 3 (.tmp 72) (.tmp 71) rfl g3 5 (.int .i64 (V0 : Int)) rfl rfl rfl HG3.out (by simp) (by kernel_rfl) #[.int .i64 3, .bool false, .int .u32 0, .int .i64 0, .int .u32 0, .int .i64 (V0 : Int), .int .u64 0, .int .u32 0, .slice none 0 0, .slice none 0 0, .slice none 0 0] rfl ?_); intro w5 hs__ hr__; replace HB := cg HB bup hr__ (by omega); replace HG6 := cg HG6 bup hr__ (by omega); clear HG3; have HG3 := Lib.hid hs__; clear hs__ hr__; simp only [PT])
    | (go_at_call 85; (with_reducible show Calls _ _ #[_, Value.int .i64 4, _] _ _); go_must (refine (word_any ad n c l 4 big _ (HS.out.below (HB.out.trans (Below.mono bup HB.out.size))) (by omega) (by omega)).mono ?_); intro e w6 hr; rw [← HV4.out] at hr; obtain ⟨rfl, hw__⟩ := hr; subst hw__)
    | (go_at_call 85; (with_reducible show Calls _ _ #[_, Value.int .i64 8, _] _ _); go_must (refine (word_any ad n c l 8 big _ (HS.out.below (HB.out.trans (Below.mono bup HB.out.size))) (by omega) (by omega)).mono ?_); intro e w7 hr; rw [← HV8.out] at hr; obtain ⟨rfl, hw__⟩ := hr; subst hw__)
    | ((with_reducible show wpList _ _ _ (⟨none, .store _ (.tmp 81) (.tmp 80), _, _, _, _⟩ :: _) _ _); go_must (refine wpL_storeF rfl 23 (.tmp 81) (.tmp 80) rfl g3 6 (.int .u64 ((T : Nat) : Int)) rfl rfl rfl HG3.out (by simp) (by kernel_rfl) #[.int .i64 3, .bool false, .int .u32 0, .int .i64 0, .int .u32 0, .int .i64 (V0 : Int), .int .u64 ((T : Nat) : Int), .int .u32 0, .slice none 0 0, .slice none 0 0, .slice none 0 0] rfl ?_); intro w8 hs__ hr__; replace HB := cg HB bup hr__ (by omega); replace HG6 := cg HG6 bup hr__ (by omega); clear HG3; have HG3 := Lib.hid hs__; clear hs__ hr__; simp only [PT])
    | (go_at_call 85; (with_reducible show Calls _ _ #[_, Value.int .i64 16, _] _ _); go_must (refine (word_any ad n c l 16 big _ (HS.out.below (HB.out.trans (Below.mono bup HB.out.size))) (by omega) (by omega)).mono ?_); intro e w9 hr; rw [← HV16.out] at hr; obtain ⟨rfl, hw__⟩ := hr; subst hw__)
    | ((with_reducible show wpList _ _ _ (⟨none, .store _ (.tmp 92) (.tmp 91), _, _, _, _⟩ :: _) _ _); go_must (refine wpL_storeF rfl 22 (.tmp 92) (.tmp 91) rfl g3 7 (.int .u32 (V16 : Int)) rfl rfl rfl HG3.out (by simp) (by kernel_rfl) #[.int .i64 3, .bool false, .int .u32 0, .int .i64 0, .int .u32 0, .int .i64 (V0 : Int), .int .u64 ((T : Nat) : Int), .int .u32 (V16 : Int), .slice none 0 0, .slice none 0 0, .slice none 0 0] rfl ?_); intro w10 hs__ hr__; replace HB := cg HB bup hr__ (by omega); replace HG6 := cg HG6 bup hr__ (by omega); clear HG3; have HG3 := Lib.hid hs__; clear hs__ hr__; simp only [PT])
    | (go_at_call 85; (with_reducible show Calls _ _ #[_, Value.int .i64 12, _] _ _); go_must (refine (word_any ad n c l 12 big _ (HS.out.below (HB.out.trans (Below.mono bup HB.out.size))) (by omega) (by omega)).mono ?_); intro e w11 hr; rw [← HV12.out] at hr; obtain ⟨rfl, hw__⟩ := hr; subst hw__)
    | ((with_reducible refine sl 99 ?_); go_must (refine wpL_sliceG elB rfl (.tmp 98) (some (.const (.int .i64 20))) none rfl rfl 20 n (.inr ⟨.i64, rfl⟩) (.inl ⟨rfl, rfl⟩) (by omega) (by omega) m cc HM.out HCC.out ?_); intro ad99 had; have HA99 := Lib.hid (show ∀ w0, Bs w0 ad n c l → Bs w0 ad99 m cc R from fun w0 h0 => Bs.partG h0 20 n m cc (by omega) (by omega) HM.out HCC.out ad99 had R HRR.out); clear had; simp only [PT])
    | (go_at_call 86; (with_reducible show Calls _ _ #[Value.slice ad99 _ _, Value.int .i64 (V12 : Int)] _ _); go_must (refine (cut_ok ad99 m cc R V12 (by omega) (by omega) D HDD.out _ (HA99.out _ (HS.out.below (HB.out.trans (Below.mono bup HB.out.size))))).mono ?_); intro e w12 hr; obtain ⟨adD, cD, rfl, hoD, hb__⟩ := hr; have HD := Lib.hid (own_base (base' := g6 + 1) hoD (lt_of_block (by exact HG6.out))); have hE__ := cU HB bup hb__; replace HB := ck HB hE__; replace HG3 := ck HG3 hE__; replace HG6 := ck HG6 hE__; clear hE__; clear hb__ hoD))
  go_loopw [10] (fun i wr => ∃ x : Nat, V12 ≤ x ∧ x ≤ Q ∧ i = .int .i64 (x : Int) ∧ wr.heap[g3]? = some (.cells #[.int .i64 3, .bool false, .int .u32 0, .int .i64 0, .int .u32 0, .int .i64 (V0 : Int), .int .u64 ((T : Nat) : Int), .int .u32 (V16 : Int), .slice none 0 0, .slice none 0 0, .slice none 0 0] 27 (0, 0)) ∧ wr.heap[g6]? = some (.cells #[.int .i64 0, .bool false, .int .u32 0, .int .i64 0, .int .u32 0, .int .i64 0, .int .u64 0, .int .u32 0, .slice none 0 0, .slice none 0 0, .slice none 0 0] 27 (0, 0)) ∧ Below w.heap.size w wr ∧ wr.ownsRow (g6 + 1) 5 1 (.slice adD D.length cD) D.length (BV D)) (fun i _ => Q + 4 - (intOf i).toNat)
  case atStart => exact ⟨V12, Nat.le_refl _, hQ1, rfl, HG3.out, HG6.out, HB.out, HD.out⟩
  case round =>
    obtain ⟨x, hx1, hx2, rfl, hg3, hg6, hb, hd⟩ := hrel
    clear HB HG3 HG6 HD
    have HB := Lib.hid hb
    have HG3 := Lib.hid hg3
    have HG6 := Lib.hid hg6
    have HD := Lib.hid hd
    clear hb hg3 hg6 hd
    by_cases h4 : x % 4 = 0
    · obtain rfl : x = Q := by omega
      have h4i : (x : Int) % 4 = 0 := by omega
      go_wp2_with (first
        | ((with_reducible refine sl 112 ?_); go_must (refine wpL_sliceG elB rfl (.tmp 111) (some (.const (.int .i64 20))) none rfl rfl 20 n (.inr ⟨.i64, rfl⟩) (.inl ⟨rfl, rfl⟩) (by omega) (by omega) m cc HM.out HCC.out ?_); intro ad112 had; have HA112 := Lib.hid (show ∀ w0, Bs w0 ad n c l → Bs w0 ad112 m cc R from fun w0 h0 => Bs.partG h0 20 n m cc (by omega) (by omega) HM.out HCC.out ad112 had R HRR.out); clear had; simp only [PT])
        | (go_at_call 86; (with_reducible show Calls _ _ #[Value.slice ad112 _ _, Value.int .i64 (x : Int)] _ _); go_must (refine (cut_short ad112 m cc x (by omega) _).mono ?_); intro e w13 hr; obtain ⟨rfl, hw__⟩ := hr; subst hw__)
        | ((with_reducible show wpList _ _ _ (⟨none, .store _ (.tmp 119) (.tmp 118), _, _, _, _⟩ :: _) _ _); go_must (refine wpL_storeF rfl 24 (.tmp 119) (.tmp 118) rfl g3 8 (.slice adD D.length cD) rfl rfl rfl HG3.out (by simp) (by kernel_rfl) #[.int .i64 3, .bool false, .int .u32 0, .int .i64 0, .int .u32 0, .int .i64 (V0 : Int), .int .u64 ((T : Nat) : Int), .int .u32 (V16 : Int), .slice adD D.length cD, .slice none 0 0, .slice none 0 0] rfl ?_); intro w14 hs__ hr__; replace HB := cg HB bup hr__ (by omega); replace HG6 := cg HG6 bup hr__ (by omega); replace HD := cg HD bup hr__ (by omega); clear HG3; have HG3 := Lib.hid hs__; clear hs__ hr__; simp only [PT])
        | ((with_reducible refine sl 120 ?_); go_must (refine wpL_load rfl 27 (.tmp 3) rfl g3 0 rfl [.int .i64 3, .bool false, .int .u32 0, .int .i64 0, .int .u32 0, .int .i64 (V0 : Int), .int .u64 ((T : Nat) : Int), .int .u32 (V16 : Int), .slice adD D.length cD, .slice none 0 0, .slice none 0 0] _ (range_block HG3.out) Try.underlying27 rfl HBI.out ?_); simp only [PT])
        | ((with_reducible show wpList _ _ _ (⟨none, .store _ (.tmp 6) (.tmp 120), _, _, _, _⟩ :: _) _ _); go_must (refine wpL_storeRow rfl 27 (.tmp 6) (.tmp 120) rfl g6 #[.int .i64 3, .bool false, .int .u32 0, .int .i64 0, .int .u32 0, .int .i64 (V0 : Int), .int .u64 ((T : Nat) : Int), .int .u32 (V16 : Int), .slice adD D.length cD, .slice none 0 0, .slice none 0 0] rfl rfl HG6.out HBI.out rfl (all1 _ rfl) ?_); intro w15 hs__ hr__; replace HB := cg HB bup hr__ (by omega); replace HG3 := cg HG3 bup hr__ (by omega); replace HD := cg HD bup hr__ (by omega); clear HG6; have HG6 := Lib.hid hs__; clear hs__ hr__; simp only [PT]))
      (try simp only [Exit.inBlock, Exit.then, Exit.noGoto_ret])
      refine bodyPost_cell1x (cs := [.int .i64 3, .bool false, .int .u32 0, .int .i64 0, .int .u32 0, .int .i64 (V0 : Int), .int .u64 ((T : Nat) : Int), .int .u32 (V16 : Int), .slice adD D.length cD, .slice none 0 0, .slice none 0 0]) rfl rfl (range_block HG6.out) Try.underlying27 rfl HBI.out rfl ?_
      exact ⟨⟨3, false, 0, 0, 0, (V0 : Int), T, V16, adD, D.length, cD, D, none, 0, 0, [], none, 0, 0, []⟩, none, 0, 0, false, rfl, by rw [HO.out]; rfl, fun x r h => absurd (HO.out.symm.trans h) (by simp), HB.out⟩
  
    · have h4i : ¬ (x : Int) % 4 = 0 := by omega
      go_wp2_with fail
      go_roundw
      case rel => exact ⟨x + 1, by omega, by omega, by go_num, HG3.out, HG6.out, HB.out, HD.out⟩
      case measure => simp [intOf]; omega
end Go.Proofs.Ytmfplinbbcoahaa
/-
  Chapter 26: a block's body read by the document, kind by kind, walked (by genrefopen.py).
-/
namespace Go.Proofs.Ytmfplinbbcoahaa
open Go.RowKit Go.Sort
set_option linter.unusedVariables false
set_option linter.unusedSimpArgs false

set_option maxRecDepth 100000 in
set_option maxHeartbeats 8000000 in
theorem refOpen4_short (ad : Option Addr) (n c : Nat) (l : List UInt8) (big : Bool) (w : World) (hs : Bs w ad n c l) (hn : n ≤ 1048576) (h : n < 4) :
    Calls Try.prog 62 #[.agg #[.int .i64 4, .bool false, .int .u32 0, .int .i64 0, .int .u32 0, .int .i64 0, .int .u64 0, .int .u32 0, .slice none 0 0, .slice none 0 0, .slice none 0 0], .slice ad n c, .bool big] w (OpenR ad n c l (openP 4 0 l big) w) := by
  have HB := Lib.hid (Below.refl w.heap.size w)
  have HS := Lib.hid hs
  have HBI := Lib.hid blk_info
  have hc := hs.le
  have HN := Lib.hid hs.len
  clear hs
  have hi : (n : Int) < 4 := by omega
  have HO := Lib.hid (show openP 4 0 l big = none from by have := HN.out; unfold openP; simp [show l.length < 4 by omega])
  clear h
  go_enter Try.func62, Try.ntmps62
  go_wp2_with (first
    | ((with_reducible refine sl 3 ?_); go_must (refine wpL_boxG rfl 27 (.tmp 0) rfl #[.int .i64 4, .bool false, .int .u32 0, .int .i64 0, .int .u32 0, .int .i64 0, .int .u64 0, .int .u32 0, .slice none 0 0, .slice none 0 0, .slice none 0 0] rfl ?_); intro w1 g3 he__ le_g3 lt_g3 hg__ hb__; have HG3 := Lib.hid hg__; have hE__ := cU HB bup hb__; replace HB := ck HB hE__; clear hE__; clear hg__ hb__ he__; simp only [PT])
    | ((with_reducible refine sl 6 ?_); go_must (refine wpL_allocG rfl 27 rfl (.agg #[.int .i64 0, .bool false, .int .u32 0, .int .i64 0, .int .u32 0, .int .i64 0, .int .u64 0, .int .u32 0, .slice none 0 0, .slice none 0 0, .slice none 0 0]) #[.int .i64 0, .bool false, .int .u32 0, .int .i64 0, .int .u32 0, .int .i64 0, .int .u64 0, .int .u32 0, .slice none 0 0, .slice none 0 0, .slice none 0 0] 11 (by kernel_rfl) rfl ?_); intro w2 g6 he__ le_g6 lt_g6 hg__ hb__; have HG6 := Lib.hid hg__; have hE__ := cU HB bup hb__; replace HB := ck HB hE__; replace HG3 := ck HG3 hE__; clear hE__; clear hg__ hb__ he__; simp only [PT])
    | ((with_reducible refine sl 25 ?_); go_must (refine wpL_litN rfl 101 3 8 _ rfl .i64 [0, 16, 8, 20, 4, 0, 12, 0] Try.underlying101 (by kernel_rfl) (by kernel_rfl) rfl (by decide) (by decide) (by rfl) ?_); intro w3 gL le_gL hg__ hb__; have HGL := Lib.hid hg__; have hE__ := cU HB bup hb__; replace HB := ck HB hE__; replace HG3 := ck HG3 hE__; replace HG6 := ck HG6 hE__; clear hE__; clear hg__ hb__; simp only [PT])
    | ((with_reducible refine sl 27 ?_); go_must (refine wpL_loadF rfl 3 (.tmp 26) rfl g3 0 rfl (.int .i64 4) HG3.out rfl Try.underlying3 rfl ?_); simp only [PT])
    | ((with_reducible refine sl 29 ?_); go_must (refine wpL_loadF rfl 3 (.tmp 28) rfl gL 4 rfl (.int .i64 4) HGL.out rfl Try.underlying3 rfl ?_); simp only [PT])
    | ((with_reducible refine sl 36 ?_); go_must (refine wpL_loadF rfl 3 (.tmp 35) rfl g3 0 rfl (.int .i64 4) HG3.out rfl Try.underlying3 rfl ?_); simp only [PT])
    | ((with_reducible refine sl 83 ?_); go_must (refine wpL_loadF rfl 3 (.tmp 82) rfl g3 0 rfl (.int .i64 4) HG3.out rfl Try.underlying3 rfl ?_); simp only [PT])
    | ((with_reducible refine sl 34 ?_); go_must (refine wpL_load rfl 27 (.tmp 3) rfl g3 0 rfl [.int .i64 4, .bool false, .int .u32 0, .int .i64 0, .int .u32 0, .int .i64 0, .int .u64 0, .int .u32 0, .slice none 0 0, .slice none 0 0, .slice none 0 0] _ (range_block HG3.out) Try.underlying27 rfl HBI.out ?_); simp only [PT])
    | ((with_reducible show wpList _ _ _ (⟨none, .store _ (.tmp 6) (.tmp 34), _, _, _, _⟩ :: _) _ _); go_must (refine wpL_storeRow rfl 27 (.tmp 6) (.tmp 34) rfl g6 #[.int .i64 4, .bool false, .int .u32 0, .int .i64 0, .int .u32 0, .int .i64 0, .int .u64 0, .int .u32 0, .slice none 0 0, .slice none 0 0, .slice none 0 0] rfl rfl HG6.out HBI.out rfl (all1 _ rfl) ?_); intro w9 hs__ hr__; replace HB := cg HB bup hr__ (by omega); replace HG3 := cg HG3 bup hr__ (by omega); clear HG6; have HG6 := Lib.hid hs__; clear hs__ hr__; simp only [PT]))
  all_goals
    (try simp only [Exit.inBlock, Exit.then, Exit.noGoto_ret])
    refine bodyPost_cell1x (cs := [.int .i64 4, .bool false, .int .u32 0, .int .i64 0, .int .u32 0, .int .i64 0, .int .u64 0, .int .u32 0, .slice none 0 0, .slice none 0 0, .slice none 0 0]) rfl rfl (range_block HG6.out) Try.underlying27 rfl HBI.out rfl ?_
    exact ⟨⟨4, false, 0, 0, 0, 0, 0, 0, none, 0, 0, [], none, 0, 0, [], none, 0, 0, []⟩, none, 0, 0, false, rfl, by rw [HO.out]; rfl, fun x r h => absurd (HO.out.symm.trans h) (by simp), HB.out⟩

set_option maxRecDepth 100000 in
set_option maxHeartbeats 8000000 in
theorem refOpen4_ok (ad : Option Addr) (n c : Nat) (l : List UInt8) (big : Bool) (w : World) (hs : Bs w ad n c l) (hn : n ≤ 1048576) (h : 4 ≤ n) :
    Calls Try.prog 62 #[.agg #[.int .i64 4, .bool false, .int .u32 0, .int .i64 0, .int .u32 0, .int .i64 0, .int .u64 0, .int .u32 0, .slice none 0 0, .slice none 0 0, .slice none 0 0], .slice ad n c, .bool big] w (OpenR ad n c l (openP 4 0 l big) w) := by
  have HB := Lib.hid (Below.refl w.heap.size w)
  have HS := Lib.hid hs
  have HBI := Lib.hid blk_info
  have hc := hs.le
  have HN := Lib.hid hs.len
  clear hs
  have hi : ¬ (n : Int) < 4 := by omega
  obtain ⟨V0, hV0⟩ : ∃ x, x = getN ((l.drop 0).take 4) big := ⟨_, rfl⟩
  have bV0 : V0 < 4294967296 := by rw [hV0]; exact w4_lt big l 0
  have HV0 := Lib.hid hV0
  clear hV0
  obtain ⟨m, hm⟩ : ∃ m, m = n - 4 := ⟨_, rfl⟩
  obtain ⟨cc, hcc⟩ : ∃ m, m = c - 4 := ⟨_, rfl⟩
  obtain ⟨R, hR⟩ : ∃ R, R = l.drop 4 := ⟨_, rfl⟩
  have HM := Lib.hid hm.symm
  have HCC := Lib.hid hcc.symm
  have hm1 : m + 4 ≤ n := by omega
  have hm2 : n ≤ m + 4 := by omega
  have hm3 : m ≤ cc := by omega
  have hRl : R.length = m := by rw [hR, List.length_drop, ← HN.out, hm]
  have HRL := Lib.hid hRl
  have HRR : Hid ((l.drop 4).take m = R) := Lib.hid (by rw [← hR]; exact List.take_of_length_le (by omega))
  have HR := Lib.hid hR
  clear hm hcc hR hRl
  obtain ⟨k, hk⟩ : ∃ k, k = min V0 m := ⟨_, rfl⟩
  obtain ⟨D, hD⟩ : ∃ D, D = R.take V0 := ⟨_, rfl⟩
  have HDD : Hid (R.take k = D) := Lib.hid (by
    have := HRL.out
    rw [hD, hk]
    by_cases hv : V0 ≤ m
    · rw [Nat.min_eq_left hv]
    · rw [Nat.min_eq_right (by omega), List.take_of_length_le (by omega), List.take_of_length_le (by omega)])
  have HO : Hid (openP 4 0 l big = some ({ noneB with kind := 4, len := V0, data := D }, [])) := Lib.hid (by rw [hD, HR.out, HV0.out]; have := HN.out; unfold openP; simp [show ¬ l.length < 4 by omega, w4])
  have e1 : IntKind.u32.wrap (V0 : Int) = (V0 : Int) := by rw [IntKind.wrap_u32]; omega
  have e2 : IntKind.i64.wrap (V0 : Int) = (V0 : Int) := by rw [IntKind.wrap_i64]; omega
  have e3 : (n : Int) - 4 = (m : Int) := by omega
  have e4 : IntKind.i64.wrap ((n : Int) - 4) = (m : Int) := by rw [IntKind.wrap_i64]; omega
  have e5 : IntKind.i64.wrap (m : Int) = (m : Int) := by rw [IntKind.wrap_i64]; omega
  have hk2 : k ≤ m := by omega
  have hkk : (V0 < m ∧ (V0 : Int) < (m : Int) ∧ V0 = k) ∨ (¬ V0 < m ∧ ¬ (V0 : Int) < (m : Int) ∧ m = k) := by omega
  clear HN hk hD
  rcases hkk with ⟨k1, k2, k4⟩ | ⟨k1, k2, k4⟩
  · subst k4
    go_enter Try.func62, Try.ntmps62
    go_wp2_with (first
      | ((with_reducible refine sl 3 ?_); go_must (refine wpL_boxG rfl 27 (.tmp 0) rfl #[.int .i64 4, .bool false, .int .u32 0, .int .i64 0, .int .u32 0, .int .i64 0, .int .u64 0, .int .u32 0, .slice none 0 0, .slice none 0 0, .slice none 0 0] rfl ?_); intro w1 g3 he__ le_g3 lt_g3 hg__ hb__; have HG3 := Lib.hid hg__; have hE__ := cU HB bup hb__; replace HB := ck HB hE__; clear hE__; clear hg__ hb__ he__; simp only [PT])
      | ((with_reducible refine sl 6 ?_); go_must (refine wpL_allocG rfl 27 rfl (.agg #[.int .i64 0, .bool false, .int .u32 0, .int .i64 0, .int .u32 0, .int .i64 0, .int .u64 0, .int .u32 0, .slice none 0 0, .slice none 0 0, .slice none 0 0]) #[.int .i64 0, .bool false, .int .u32 0, .int .i64 0, .int .u32 0, .int .i64 0, .int .u64 0, .int .u32 0, .slice none 0 0, .slice none 0 0, .slice none 0 0] 11 (by kernel_rfl) rfl ?_); intro w2 g6 he__ le_g6 lt_g6 hg__ hb__; have HG6 := Lib.hid hg__; have hE__ := cU HB bup hb__; replace HB := ck HB hE__; replace HG3 := ck HG3 hE__; clear hE__; clear hg__ hb__ he__; simp only [PT])
      | ((with_reducible refine sl 25 ?_); go_must (refine wpL_litN rfl 101 3 8 _ rfl .i64 [0, 16, 8, 20, 4, 0, 12, 0] Try.underlying101 (by kernel_rfl) (by kernel_rfl) rfl (by decide) (by decide) (by rfl) ?_); intro w3 gL le_gL hg__ hb__; have HGL := Lib.hid hg__; have hE__ := cU HB bup hb__; replace HB := ck HB hE__; replace HG3 := ck HG3 hE__; replace HG6 := ck HG6 hE__; clear hE__; clear hg__ hb__; simp only [PT])
      | ((with_reducible refine sl 27 ?_); go_must (refine wpL_loadF rfl 3 (.tmp 26) rfl g3 0 rfl (.int .i64 4) HG3.out rfl Try.underlying3 rfl ?_); simp only [PT])
      | ((with_reducible refine sl 29 ?_); go_must (refine wpL_loadF rfl 3 (.tmp 28) rfl gL 4 rfl (.int .i64 4) HGL.out rfl Try.underlying3 rfl ?_); simp only [PT])
      | ((with_reducible refine sl 36 ?_); go_must (refine wpL_loadF rfl 3 (.tmp 35) rfl g3 0 rfl (.int .i64 4) HG3.out rfl Try.underlying3 rfl ?_); simp only [PT])
      | ((with_reducible refine sl 83 ?_); go_must (refine wpL_loadF rfl 3 (.tmp 82) rfl g3 0 rfl (.int .i64 4) HG3.out rfl Try.underlying3 rfl ?_); simp only [PT])
      | (go_at_call 85; (with_reducible show Calls _ _ #[_, Value.int .i64 0, _] _ _); go_must (refine (word_any ad n c l 0 big _ (HS.out.below (HB.out.trans (Below.mono bup HB.out.size))) (by omega) (by omega)).mono ?_); intro e w4 hr; rw [← HV0.out] at hr; obtain ⟨rfl, hw__⟩ := hr; subst hw__)
      | ((with_reducible show wpList _ _ _ (⟨none, .store _ (.tmp 132) (.tmp 131), _, _, _, _⟩ :: _) _ _); go_must (refine wpL_storeF rfl 22 (.tmp 132) (.tmp 131) rfl g3 7 (.int .u32 (V0 : Int)) rfl rfl rfl HG3.out (by simp) (by kernel_rfl) #[.int .i64 4, .bool false, .int .u32 0, .int .i64 0, .int .u32 0, .int .i64 0, .int .u64 0, .int .u32 (V0 : Int), .slice none 0 0, .slice none 0 0, .slice none 0 0] rfl ?_); intro w5 hs__ hr__; replace HB := cg HB bup hr__ (by omega); replace HG6 := cg HG6 bup hr__ (by omega); clear HG3; have HG3 := Lib.hid hs__; clear hs__ hr__; simp only [PT])
      | ((with_reducible refine sl 137 ?_); go_must (refine wpL_loadF rfl 22 (.tmp 136) rfl g3 7 rfl (.int .u32 (V0 : Int)) HG3.out rfl Try.underlying22 rfl ?_); simp only [PT])
      | ((with_reducible refine sl 142 ?_); go_must (refine wpL_loadF rfl 22 (.tmp 141) rfl g3 7 rfl (.int .u32 (V0 : Int)) HG3.out rfl Try.underlying22 rfl ?_); simp only [PT])
      | ((with_reducible refine sl 146 ?_); go_must (refine wpL_sliceG elB rfl (.tmp 145) (some (.const (.int .i64 4))) none rfl rfl 4 n (.inr ⟨.i64, rfl⟩) (.inl ⟨rfl, rfl⟩) (by omega) (by omega) m cc HM.out HCC.out ?_); intro ad146 had; have HA146 := Lib.hid (show ∀ w0, Bs w0 ad n c l → Bs w0 ad146 m cc R from fun w0 h0 => Bs.partG h0 4 n m cc (by omega) (by omega) HM.out HCC.out ad146 had R HRR.out); clear had; simp only [PT])
      | (go_at_call 86; (with_reducible show Calls _ _ #[Value.slice ad146 _ _, Value.int .i64 (V0 : Int)] _ _); go_must (refine (cut_ok ad146 m cc R V0 (by omega) (by omega) D HDD.out _ (HA146.out _ (HS.out.below (HB.out.trans (Below.mono bup HB.out.size))))).mono ?_); intro e w6 hr; obtain ⟨adD, cD, rfl, hoD, hb__⟩ := hr; have HD := Lib.hid (own_base (base' := g6 + 1) hoD (lt_of_block (by exact HG6.out))); have hE__ := cU HB bup hb__; replace HB := ck HB hE__; replace HG3 := ck HG3 hE__; replace HG6 := ck HG6 hE__; clear hE__; clear hb__ hoD)
      | ((with_reducible show wpList _ _ _ (⟨none, .store _ (.tmp 153) (.tmp 152), _, _, _, _⟩ :: _) _ _); go_must (refine wpL_storeF rfl 24 (.tmp 153) (.tmp 152) rfl g3 8 (.slice adD D.length cD) rfl rfl rfl HG3.out (by simp) (by kernel_rfl) #[.int .i64 4, .bool false, .int .u32 0, .int .i64 0, .int .u32 0, .int .i64 0, .int .u64 0, .int .u32 (V0 : Int), .slice adD D.length cD, .slice none 0 0, .slice none 0 0] rfl ?_); intro w7 hs__ hr__; replace HB := cg HB bup hr__ (by omega); replace HG6 := cg HG6 bup hr__ (by omega); replace HD := cg HD bup hr__ (by omega); clear HG3; have HG3 := Lib.hid hs__; clear hs__ hr__; simp only [PT])
      | ((with_reducible refine sl 154 ?_); go_must (refine wpL_load rfl 27 (.tmp 3) rfl g3 0 rfl [.int .i64 4, .bool false, .int .u32 0, .int .i64 0, .int .u32 0, .int .i64 0, .int .u64 0, .int .u32 (V0 : Int), .slice adD D.length cD, .slice none 0 0, .slice none 0 0] _ (range_block HG3.out) Try.underlying27 rfl HBI.out ?_); simp only [PT])
      | ((with_reducible show wpList _ _ _ (⟨none, .store _ (.tmp 6) (.tmp 154), _, _, _, _⟩ :: _) _ _); go_must (refine wpL_storeRow rfl 27 (.tmp 6) (.tmp 154) rfl g6 #[.int .i64 4, .bool false, .int .u32 0, .int .i64 0, .int .u32 0, .int .i64 0, .int .u64 0, .int .u32 (V0 : Int), .slice adD D.length cD, .slice none 0 0, .slice none 0 0] rfl rfl HG6.out HBI.out rfl (all1 _ rfl) ?_); intro w9 hs__ hr__; replace HB := cg HB bup hr__ (by omega); replace HG3 := cg HG3 bup hr__ (by omega); replace HD := cg HD bup hr__ (by omega); clear HG6; have HG6 := Lib.hid hs__; clear hs__ hr__; simp only [PT]))
    all_goals
      (try simp only [Exit.inBlock, Exit.then, Exit.noGoto_ret])
      refine bodyPost_cell1x (cs := [.int .i64 4, .bool false, .int .u32 0, .int .i64 0, .int .u32 0, .int .i64 0, .int .u64 0, .int .u32 (V0 : Int), .slice adD D.length cD, .slice none 0 0, .slice none 0 0]) rfl rfl (range_block HG6.out) Try.underlying27 rfl HBI.out rfl ?_
      refine ⟨⟨4, false, 0, 0, 0, 0, 0, V0, adD, D.length, cD, D, none, 0, 0, [], none, 0, 0, []⟩, none, 0, 0, true, rfl, by rw [HO.out]; rfl, fun x r h => ?_, HB.out⟩
      have hh := HO.out.symm.trans h
      simp only [Option.some.injEq, Prod.mk.injEq] at hh
      obtain ⟨rfl, rfl⟩ := hh
      refine ⟨rfl, fun _ _ => Sl.nil _ 1, own_base HD.out (by omega), OwnOps.nil _ _ _, OwnOps.nil _ _ _⟩
  
  · subst k4
    go_enter Try.func62, Try.ntmps62
    go_wp2_with (first
      | ((with_reducible refine sl 3 ?_); go_must (refine wpL_boxG rfl 27 (.tmp 0) rfl #[.int .i64 4, .bool false, .int .u32 0, .int .i64 0, .int .u32 0, .int .i64 0, .int .u64 0, .int .u32 0, .slice none 0 0, .slice none 0 0, .slice none 0 0] rfl ?_); intro w1 g3 he__ le_g3 lt_g3 hg__ hb__; have HG3 := Lib.hid hg__; have hE__ := cU HB bup hb__; replace HB := ck HB hE__; clear hE__; clear hg__ hb__ he__; simp only [PT])
      | ((with_reducible refine sl 6 ?_); go_must (refine wpL_allocG rfl 27 rfl (.agg #[.int .i64 0, .bool false, .int .u32 0, .int .i64 0, .int .u32 0, .int .i64 0, .int .u64 0, .int .u32 0, .slice none 0 0, .slice none 0 0, .slice none 0 0]) #[.int .i64 0, .bool false, .int .u32 0, .int .i64 0, .int .u32 0, .int .i64 0, .int .u64 0, .int .u32 0, .slice none 0 0, .slice none 0 0, .slice none 0 0] 11 (by kernel_rfl) rfl ?_); intro w2 g6 he__ le_g6 lt_g6 hg__ hb__; have HG6 := Lib.hid hg__; have hE__ := cU HB bup hb__; replace HB := ck HB hE__; replace HG3 := ck HG3 hE__; clear hE__; clear hg__ hb__ he__; simp only [PT])
      | ((with_reducible refine sl 25 ?_); go_must (refine wpL_litN rfl 101 3 8 _ rfl .i64 [0, 16, 8, 20, 4, 0, 12, 0] Try.underlying101 (by kernel_rfl) (by kernel_rfl) rfl (by decide) (by decide) (by rfl) ?_); intro w3 gL le_gL hg__ hb__; have HGL := Lib.hid hg__; have hE__ := cU HB bup hb__; replace HB := ck HB hE__; replace HG3 := ck HG3 hE__; replace HG6 := ck HG6 hE__; clear hE__; clear hg__ hb__; simp only [PT])
      | ((with_reducible refine sl 27 ?_); go_must (refine wpL_loadF rfl 3 (.tmp 26) rfl g3 0 rfl (.int .i64 4) HG3.out rfl Try.underlying3 rfl ?_); simp only [PT])
      | ((with_reducible refine sl 29 ?_); go_must (refine wpL_loadF rfl 3 (.tmp 28) rfl gL 4 rfl (.int .i64 4) HGL.out rfl Try.underlying3 rfl ?_); simp only [PT])
      | ((with_reducible refine sl 36 ?_); go_must (refine wpL_loadF rfl 3 (.tmp 35) rfl g3 0 rfl (.int .i64 4) HG3.out rfl Try.underlying3 rfl ?_); simp only [PT])
      | ((with_reducible refine sl 83 ?_); go_must (refine wpL_loadF rfl 3 (.tmp 82) rfl g3 0 rfl (.int .i64 4) HG3.out rfl Try.underlying3 rfl ?_); simp only [PT])
      | (go_at_call 85; (with_reducible show Calls _ _ #[_, Value.int .i64 0, _] _ _); go_must (refine (word_any ad n c l 0 big _ (HS.out.below (HB.out.trans (Below.mono bup HB.out.size))) (by omega) (by omega)).mono ?_); intro e w4 hr; rw [← HV0.out] at hr; obtain ⟨rfl, hw__⟩ := hr; subst hw__)
      | ((with_reducible show wpList _ _ _ (⟨none, .store _ (.tmp 132) (.tmp 131), _, _, _, _⟩ :: _) _ _); go_must (refine wpL_storeF rfl 22 (.tmp 132) (.tmp 131) rfl g3 7 (.int .u32 (V0 : Int)) rfl rfl rfl HG3.out (by simp) (by kernel_rfl) #[.int .i64 4, .bool false, .int .u32 0, .int .i64 0, .int .u32 0, .int .i64 0, .int .u64 0, .int .u32 (V0 : Int), .slice none 0 0, .slice none 0 0, .slice none 0 0] rfl ?_); intro w5 hs__ hr__; replace HB := cg HB bup hr__ (by omega); replace HG6 := cg HG6 bup hr__ (by omega); clear HG3; have HG3 := Lib.hid hs__; clear hs__ hr__; simp only [PT])
      | ((with_reducible refine sl 137 ?_); go_must (refine wpL_loadF rfl 22 (.tmp 136) rfl g3 7 rfl (.int .u32 (V0 : Int)) HG3.out rfl Try.underlying22 rfl ?_); simp only [PT])
      | ((with_reducible refine sl 142 ?_); go_must (refine wpL_loadF rfl 22 (.tmp 141) rfl g3 7 rfl (.int .u32 (V0 : Int)) HG3.out rfl Try.underlying22 rfl ?_); simp only [PT])
      | ((with_reducible refine sl 146 ?_); go_must (refine wpL_sliceG elB rfl (.tmp 145) (some (.const (.int .i64 4))) none rfl rfl 4 n (.inr ⟨.i64, rfl⟩) (.inl ⟨rfl, rfl⟩) (by omega) (by omega) m cc HM.out HCC.out ?_); intro ad146 had; have HA146 := Lib.hid (show ∀ w0, Bs w0 ad n c l → Bs w0 ad146 m cc R from fun w0 h0 => Bs.partG h0 4 n m cc (by omega) (by omega) HM.out HCC.out ad146 had R HRR.out); clear had; simp only [PT])
      | (go_at_call 86; (with_reducible show Calls _ _ #[Value.slice ad146 _ _, Value.int .i64 (m : Int)] _ _); go_must (refine (cut_ok ad146 m cc R m (by omega) (by omega) D HDD.out _ (HA146.out _ (HS.out.below (HB.out.trans (Below.mono bup HB.out.size))))).mono ?_); intro e w6 hr; obtain ⟨adD, cD, rfl, hoD, hb__⟩ := hr; have HD := Lib.hid (own_base (base' := g6 + 1) hoD (lt_of_block (by exact HG6.out))); have hE__ := cU HB bup hb__; replace HB := ck HB hE__; replace HG3 := ck HG3 hE__; replace HG6 := ck HG6 hE__; clear hE__; clear hb__ hoD)
      | ((with_reducible show wpList _ _ _ (⟨none, .store _ (.tmp 153) (.tmp 152), _, _, _, _⟩ :: _) _ _); go_must (refine wpL_storeF rfl 24 (.tmp 153) (.tmp 152) rfl g3 8 (.slice adD D.length cD) rfl rfl rfl HG3.out (by simp) (by kernel_rfl) #[.int .i64 4, .bool false, .int .u32 0, .int .i64 0, .int .u32 0, .int .i64 0, .int .u64 0, .int .u32 (V0 : Int), .slice adD D.length cD, .slice none 0 0, .slice none 0 0] rfl ?_); intro w7 hs__ hr__; replace HB := cg HB bup hr__ (by omega); replace HG6 := cg HG6 bup hr__ (by omega); replace HD := cg HD bup hr__ (by omega); clear HG3; have HG3 := Lib.hid hs__; clear hs__ hr__; simp only [PT])
      | ((with_reducible refine sl 154 ?_); go_must (refine wpL_load rfl 27 (.tmp 3) rfl g3 0 rfl [.int .i64 4, .bool false, .int .u32 0, .int .i64 0, .int .u32 0, .int .i64 0, .int .u64 0, .int .u32 (V0 : Int), .slice adD D.length cD, .slice none 0 0, .slice none 0 0] _ (range_block HG3.out) Try.underlying27 rfl HBI.out ?_); simp only [PT])
      | ((with_reducible show wpList _ _ _ (⟨none, .store _ (.tmp 6) (.tmp 154), _, _, _, _⟩ :: _) _ _); go_must (refine wpL_storeRow rfl 27 (.tmp 6) (.tmp 154) rfl g6 #[.int .i64 4, .bool false, .int .u32 0, .int .i64 0, .int .u32 0, .int .i64 0, .int .u64 0, .int .u32 (V0 : Int), .slice adD D.length cD, .slice none 0 0, .slice none 0 0] rfl rfl HG6.out HBI.out rfl (all1 _ rfl) ?_); intro w9 hs__ hr__; replace HB := cg HB bup hr__ (by omega); replace HG3 := cg HG3 bup hr__ (by omega); replace HD := cg HD bup hr__ (by omega); clear HG6; have HG6 := Lib.hid hs__; clear hs__ hr__; simp only [PT]))
    all_goals
      (try simp only [Exit.inBlock, Exit.then, Exit.noGoto_ret])
      refine bodyPost_cell1x (cs := [.int .i64 4, .bool false, .int .u32 0, .int .i64 0, .int .u32 0, .int .i64 0, .int .u64 0, .int .u32 (V0 : Int), .slice adD D.length cD, .slice none 0 0, .slice none 0 0]) rfl rfl (range_block HG6.out) Try.underlying27 rfl HBI.out rfl ?_
      refine ⟨⟨4, false, 0, 0, 0, 0, 0, V0, adD, D.length, cD, D, none, 0, 0, [], none, 0, 0, []⟩, none, 0, 0, true, rfl, by rw [HO.out]; rfl, fun x r h => ?_, HB.out⟩
      have hh := HO.out.symm.trans h
      simp only [Option.some.injEq, Prod.mk.injEq] at hh
      obtain ⟨rfl, rfl⟩ := hh
      refine ⟨rfl, fun _ _ => Sl.nil _ 1, own_base HD.out (by omega), OwnOps.nil _ _ _, OwnOps.nil _ _ _⟩
  
end Go.Proofs.Ytmfplinbbcoahaa
