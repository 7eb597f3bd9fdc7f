/-
  Joined by program (merge.py): Opn6, Opn7.
-/
import Derived.Test.YtmfplinbbcoahaaM13
import Derived.Test.YtmfplinbbcoahaaM14
/-
  Chapter 26: a block's body read, kind by kind, walked (by genopen.py).
-/
namespace Go.Proofs.Ytmfplinbbcoahaa
open Go.RowKit Go.Sort
set_option linter.unusedVariables false
set_option linter.unusedSimpArgs false

set_option maxRecDepth 100000 in
set_option maxHeartbeats 8000000 in
theorem open4_short (ad : Option Addr) (n c : Nat) (l : List UInt8) (big : Bool) (w : World) (hs : Bs w ad n c l) (hn : n ≤ 1048576) (h : n < 4) :
    Calls Try.prog 59 #[.agg #[.int .i64 4, .bool false, .int .u32 0, .int .i64 0, .int .u32 0, .int .i64 0, .int .u64 0, .int .u32 0, .slice none 0 0, .slice none 0 0, .slice none 0 0], .slice ad n c, .bool big] w (OpenR ad n c l (openP 4 0 l big) w) := by
  have HB := Lib.hid (Below.refl w.heap.size w)
  have HS := Lib.hid hs
  have HBI := Lib.hid blk_info
  have hc := hs.le
  have HN := Lib.hid hs.len
  clear hs
  have hi : (n : Int) < 4 := by omega
  have HO := Lib.hid (show openP 4 0 l big = none from by have := HN.out; unfold openP; simp [show l.length < 4 by omega])
  clear h
  go_enter Try.func59, Try.ntmps59
  go_wp2_with (first
    | ((with_reducible refine sl 3 ?_); go_must (refine wpL_boxG rfl 27 (.tmp 0) rfl #[.int .i64 4, .bool false, .int .u32 0, .int .i64 0, .int .u32 0, .int .i64 0, .int .u64 0, .int .u32 0, .slice none 0 0, .slice none 0 0, .slice none 0 0] rfl ?_); intro w1 g3 he__ le_g3 lt_g3 hg__ hb__; have HG3 := Lib.hid hg__; have hE__ := cU HB bup hb__; replace HB := ck HB hE__; clear hE__; clear hg__ hb__ he__; simp only [PT])
    | ((with_reducible refine sl 4 ?_); go_must (refine wpL_boxG rfl 24 (.tmp 1) rfl #[.slice ad n c] rfl ?_); intro w2 g4 he__ le_g4 lt_g4 hg__ hb__; have HG4 := Lib.hid hg__; have hE__ := cU HB bup hb__; replace HB := ck HB hE__; replace HG3 := ck HG3 hE__; clear hE__; clear hg__ hb__ he__; simp only [PT])
    | ((with_reducible refine sl 5 ?_); go_must (refine wpL_boxG rfl 4 (.tmp 2) rfl #[.bool big] rfl ?_); intro w3 g5 he__ le_g5 lt_g5 hg__ hb__; have HG5 := Lib.hid hg__; have hE__ := cU HB bup hb__; replace HB := ck HB hE__; replace HG3 := ck HG3 hE__; replace HG4 := ck HG4 hE__; clear hE__; clear hg__ hb__ he__; simp only [PT])
    | ((with_reducible refine sl 6 ?_); go_must (refine wpL_allocG rfl 27 rfl (.agg #[.int .i64 0, .bool false, .int .u32 0, .int .i64 0, .int .u32 0, .int .i64 0, .int .u64 0, .int .u32 0, .slice none 0 0, .slice none 0 0, .slice none 0 0]) #[.int .i64 0, .bool false, .int .u32 0, .int .i64 0, .int .u32 0, .int .i64 0, .int .u64 0, .int .u32 0, .slice none 0 0, .slice none 0 0, .slice none 0 0] 11 (by kernel_rfl) rfl ?_); intro w4 g6 he__ le_g6 lt_g6 hg__ hb__; have HG6 := Lib.hid hg__; have hE__ := cU HB bup hb__; replace HB := ck HB hE__; replace HG3 := ck HG3 hE__; replace HG4 := ck HG4 hE__; replace HG5 := ck HG5 hE__; clear hE__; clear hg__ hb__ he__; simp only [PT])
    | ((with_reducible refine sl 19 ?_); go_must (refine wpL_index rfl (.tmp 16) (.tmp 18) rfl _ _ rfl rfl (.int .i64 4) need_at4 ?_); simp only [PT])
    | ((with_reducible refine sl 18 ?_); go_must (refine wpL_loadF rfl 3 (.tmp 17) rfl g3 0 rfl (.int .i64 4) HG3.out rfl Try.underlying3 rfl ?_); simp only [PT])
    | ((with_reducible refine sl 20 ?_); go_must (refine wpL_loadF rfl 24 (.tmp 4) rfl g4 0 rfl (.slice ad n c) HG4.out rfl Try.underlying24 rfl ?_); simp only [PT])
    | ((with_reducible refine sl 30 ?_); go_must (refine wpL_loadF rfl 3 (.tmp 29) rfl g3 0 rfl (.int .i64 4) HG3.out rfl Try.underlying3 rfl ?_); simp only [PT])
    | ((with_reducible refine sl 26 ?_); go_must (refine wpL_loadF rfl 24 (.tmp 4) rfl g4 0 rfl (.slice ad n c) HG4.out rfl Try.underlying24 rfl ?_); simp only [PT])
    | ((with_reducible refine sl 24 ?_); go_must (refine wpL_load rfl 27 (.tmp 3) rfl g3 0 rfl [.int .i64 4, .bool false, .int .u32 0, .int .i64 0, .int .u32 0, .int .i64 0, .int .u64 0, .int .u32 0, .slice none 0 0, .slice none 0 0, .slice none 0 0] _ (range_block HG3.out) Try.underlying27 rfl HBI.out ?_); simp only [PT])
    | ((with_reducible show wpList _ _ _ (⟨none, .store _ (.tmp 6) (.tmp 24), _, _, _, _⟩ :: _) _ _); go_must (refine wpL_storeRow rfl 27 (.tmp 6) (.tmp 24) rfl g6 #[.int .i64 4, .bool false, .int .u32 0, .int .i64 0, .int .u32 0, .int .i64 0, .int .u64 0, .int .u32 0, .slice none 0 0, .slice none 0 0, .slice none 0 0] rfl rfl HG6.out HBI.out rfl (all1 _ rfl) ?_); intro w9 hs__ hr__; replace HB := cg HB bup hr__ (by omega); replace HG3 := cg HG3 bup hr__ (by omega); clear HG6; have HG6 := Lib.hid hs__; clear hs__ hr__; simp only [PT]))
  all_goals
    (try simp only [Exit.inBlock, Exit.then, Exit.noGoto_ret])
    refine bodyPost_cell1x (cs := [.int .i64 4, .bool false, .int .u32 0, .int .i64 0, .int .u32 0, .int .i64 0, .int .u64 0, .int .u32 0, .slice none 0 0, .slice none 0 0, .slice none 0 0]) rfl rfl (range_block HG6.out) Try.underlying27 rfl HBI.out rfl ?_
    exact ⟨⟨4, false, 0, 0, 0, 0, 0, 0, none, 0, 0, [], none, 0, 0, [], none, 0, 0, []⟩, none, 0, 0, false, rfl, by rw [HO.out]; rfl, fun x r h => absurd (HO.out.symm.trans h) (by simp), HB.out⟩

set_option maxRecDepth 100000 in
set_option maxHeartbeats 8000000 in
theorem open4_ok (ad : Option Addr) (n c : Nat) (l : List UInt8) (big : Bool) (w : World) (hs : Bs w ad n c l) (hn : n ≤ 1048576) (h : 4 ≤ n) :
    Calls Try.prog 59 #[.agg #[.int .i64 4, .bool false, .int .u32 0, .int .i64 0, .int .u32 0, .int .i64 0, .int .u64 0, .int .u32 0, .slice none 0 0, .slice none 0 0, .slice none 0 0], .slice ad n c, .bool big] w (OpenR ad n c l (openP 4 0 l big) w) := by
  have HB := Lib.hid (Below.refl w.heap.size w)
  have HS := Lib.hid hs
  have HBI := Lib.hid blk_info
  have hc := hs.le
  have HN := Lib.hid hs.len
  clear hs
  have hi : ¬ (n : Int) < 4 := by omega
  obtain ⟨V0, hV0⟩ : ∃ x, x = getN ((l.drop 0).take 4) big := ⟨_, rfl⟩
  have bV0 : V0 < 4294967296 := by rw [hV0]; exact w4_lt big l 0
  have HV0 := Lib.hid hV0
  clear hV0
  obtain ⟨m, hm⟩ : ∃ m, m = n - 4 := ⟨_, rfl⟩
  obtain ⟨cc, hcc⟩ : ∃ m, m = c - 4 := ⟨_, rfl⟩
  obtain ⟨R, hR⟩ : ∃ R, R = l.drop 4 := ⟨_, rfl⟩
  have HM := Lib.hid hm.symm
  have HCC := Lib.hid hcc.symm
  have hm1 : m + 4 ≤ n := by omega
  have hm2 : n ≤ m + 4 := by omega
  have hm3 : m ≤ cc := by omega
  have hRl : R.length = m := by rw [hR, List.length_drop, ← HN.out, hm]
  have HRL := Lib.hid hRl
  have HRR : Hid ((l.drop 4).take m = R) := Lib.hid (by rw [← hR]; exact List.take_of_length_le (by omega))
  have HR := Lib.hid hR
  clear hm hcc hR hRl
  obtain ⟨k, hk⟩ : ∃ k, k = min V0 m := ⟨_, rfl⟩
  obtain ⟨D, hD⟩ : ∃ D, D = R.take V0 := ⟨_, rfl⟩
  have HDD : Hid ((R.drop 0).take k = D) := Lib.hid (by
    have := HRL.out
    rw [hD, List.drop_zero, hk]
    by_cases hv : V0 ≤ m
    · rw [Nat.min_eq_left hv]
    · rw [Nat.min_eq_right (by omega), List.take_of_length_le (by omega), List.take_of_length_le (by omega)])
  have HO : Hid (openP 4 0 l big = some ({ noneB with kind := 4, len := V0, data := D }, [])) := Lib.hid (by rw [hD, HR.out, HV0.out]; have := HN.out; unfold openP; simp [show ¬ l.length < 4 by omega, w4])
  have e1 : IntKind.u32.wrap (V0 : Int) = (V0 : Int) := by rw [IntKind.wrap_u32]; omega
  have e2 : IntKind.u64.wrap (V0 : Int) = (V0 : Int) := by rw [IntKind.wrap_u64]; omega
  have e3 : IntKind.u64.wrap (m : Int) = (m : Int) := by rw [IntKind.wrap_u64]; omega
  have hk2 : k ≤ m := by omega
  have hkk : (V0 < m ∧ (V0 : Int) < (m : Int) ∧ ¬ (m : Int) < (V0 : Int) ∧ V0 = k) ∨ (¬ V0 < m ∧ ¬ (V0 : Int) < (m : Int) ∧ m = k) := by omega
  clear HN hk hD
  rcases hkk with ⟨k1, k2, k3, k4⟩ | ⟨k1, k2, k4⟩
  · subst k4
    go_enter Try.func59, Try.ntmps59
    go_wp2_with (first
      | ((with_reducible refine sl 3 ?_); go_must (refine wpL_boxG rfl 27 (.tmp 0) rfl #[.int .i64 4, .bool false, .int .u32 0, .int .i64 0, .int .u32 0, .int .i64 0, .int .u64 0, .int .u32 0, .slice none 0 0, .slice none 0 0, .slice none 0 0] rfl ?_); intro w1 g3 he__ le_g3 lt_g3 hg__ hb__; have HG3 := Lib.hid hg__; have hE__ := cU HB bup hb__; replace HB := ck HB hE__; clear hE__; clear hg__ hb__ he__; simp only [PT])
      | ((with_reducible refine sl 4 ?_); go_must (refine wpL_boxG rfl 24 (.tmp 1) rfl #[.slice ad n c] rfl ?_); intro w2 g4 he__ le_g4 lt_g4 hg__ hb__; have HG4 := Lib.hid hg__; have hE__ := cU HB bup hb__; replace HB := ck HB hE__; replace HG3 := ck HG3 hE__; clear hE__; clear hg__ hb__ he__; simp only [PT])
      | ((with_reducible refine sl 5 ?_); go_must (refine wpL_boxG rfl 4 (.tmp 2) rfl #[.bool big] rfl ?_); intro w3 g5 he__ le_g5 lt_g5 hg__ hb__; have HG5 := Lib.hid hg__; have hE__ := cU HB bup hb__; replace HB := ck HB hE__; replace HG3 := ck HG3 hE__; replace HG4 := ck HG4 hE__; clear hE__; clear hg__ hb__ he__; simp only [PT])
      | ((with_reducible refine sl 6 ?_); go_must (refine wpL_allocG rfl 27 rfl (.agg #[.int .i64 0, .bool false, .int .u32 0, .int .i64 0, .int .u32 0, .int .i64 0, .int .u64 0, .int .u32 0, .slice none 0 0, .slice none 0 0, .slice none 0 0]) #[.int .i64 0, .bool false, .int .u32 0, .int .i64 0, .int .u32 0, .int .i64 0, .int .u64 0, .int .u32 0, .slice none 0 0, .slice none 0 0, .slice none 0 0] 11 (by kernel_rfl) rfl ?_); intro w4 g6 he__ le_g6 lt_g6 hg__ hb__; have HG6 := Lib.hid hg__; have hE__ := cU HB bup hb__; replace HB := ck HB hE__; replace HG3 := ck HG3 hE__; replace HG4 := ck HG4 hE__; replace HG5 := ck HG5 hE__; clear hE__; clear hg__ hb__ he__; simp only [PT])
      | ((with_reducible refine sl 19 ?_); go_must (refine wpL_index rfl (.tmp 16) (.tmp 18) rfl _ _ rfl rfl (.int .i64 4) need_at4 ?_); simp only [PT])
      | ((with_reducible refine sl 18 ?_); go_must (refine wpL_loadF rfl 3 (.tmp 17) rfl g3 0 rfl (.int .i64 4) HG3.out rfl Try.underlying3 rfl ?_); simp only [PT])
      | ((with_reducible refine sl 20 ?_); go_must (refine wpL_loadF rfl 24 (.tmp 4) rfl g4 0 rfl (.slice ad n c) HG4.out rfl Try.underlying24 rfl ?_); simp only [PT])
      | ((with_reducible refine sl 30 ?_); go_must (refine wpL_loadF rfl 3 (.tmp 29) rfl g3 0 rfl (.int .i64 4) HG3.out rfl Try.underlying3 rfl ?_); simp only [PT])
      | ((with_reducible refine sl 26 ?_); go_must (refine wpL_loadF rfl 24 (.tmp 4) rfl g4 0 rfl (.slice ad n c) HG4.out rfl Try.underlying24 rfl ?_); simp only [PT])
      | ((with_reducible refine sl 28 ?_); go_must (refine wpL_sliceG elB rfl (.tmp 26) (some (.tmp 27)) none rfl rfl 4 n (.inr ⟨.i64, rfl⟩) (.inl ⟨rfl, rfl⟩) (by omega) (by omega) m cc HM.out HCC.out ?_); intro ad28 had28; have HRG := Lib.hid (show ∀ w0, Bs w0 ad n c l → Bs w0 ad28 m cc R from fun w0 h0 => Bs.partG h0 4 n m cc (by omega) (Nat.le_refl _) HM.out HCC.out ad28 had28 R HRR.out); have HRW := Lib.hid (HRG.out _ HS.out); clear had28; simp only [PT])
      | (go_at_call 82; (with_reducible show Calls _ _ #[Value.int .i64 0, Value.int .i64 4, _, _] _ _); go_must (refine (num1_any g4 g5 ad n c l big 0 4 (by omega) (by omega) _ (by exact HG4.out) (by exact HG5.out) (HS.out.below (HB.out.trans (Below.mono bup HB.out.size)))).mono ?_); intro e w5 hr; rw [← HV0.out] at hr; obtain ⟨rfl, hb__⟩ := hr; have hE__ := cU HB bup hb__; replace HB := ck HB hE__; replace HG3 := ck HG3 hE__; replace HG4 := ck HG4 hE__; replace HG5 := ck HG5 hE__; replace HG6 := ck HG6 hE__; clear hE__; clear hb__)
      | ((with_reducible show wpList _ _ _ (⟨none, .store _ (.tmp 103) (.tmp 102), _, _, _, _⟩ :: _) _ _); go_must (refine wpL_storeF rfl 22 (.tmp 103) (.tmp 102) rfl g3 7 (.int .u32 (V0 : Int)) rfl rfl rfl HG3.out (by simp) (by kernel_rfl) #[.int .i64 4, .bool false, .int .u32 0, .int .i64 0, .int .u32 0, .int .i64 0, .int .u64 0, .int .u32 (V0 : Int), .slice none 0 0, .slice none 0 0, .slice none 0 0] rfl ?_); intro w7 hs__ hr__; replace HB := cg HB bup hr__ (by omega); replace HG4 := cg HG4 bup hr__ (by omega); replace HG5 := cg HG5 bup hr__ (by omega); replace HG6 := cg HG6 bup hr__ (by omega); clear HG3; have HG3 := Lib.hid hs__; clear hs__ hr__; simp only [PT])
      | ((with_reducible refine sl 109 ?_); go_must (refine wpL_loadF rfl 22 (.tmp 108) rfl g3 7 rfl (.int .u32 (V0 : Int)) HG3.out rfl Try.underlying22 rfl ?_); simp only [PT])
      | ((with_reducible refine sl 112 ?_); go_must (refine wpL_sliceG elB rfl (.tmp 104) none (some (.tmp 111)) rfl rfl 0 V0 (.inl ⟨rfl, rfl⟩) (.inr ⟨.u64, rfl⟩) (Nat.zero_le _) (by omega) V0 cc rfl rfl ?_); intro ad112 had112; have HDW := Lib.hid (Bs.partG HRW.out 0 V0 V0 cc (Nat.zero_le _) (by omega) rfl rfl ad112 had112 D HDD.out); clear had112; simp only [PT])
      | (go_at_call 68; (with_reducible show Calls _ _ #[Value.slice ad112 V0 cc] _ _); go_must (refine (bclone_any ad112 V0 cc D _ (HDW.out.below (HB.out.trans (Below.mono bup HB.out.size))) (by omega)).mono ?_); intro e w6 hr; unfold RetB at hr; obtain ⟨adD, cD, rfl, hoD, hb__⟩ := hr; have HD := Lib.hid (own_base (base' := g6 + 1) hoD (lt_of_block (by exact HG6.out))); have hE__ := cU HB bup hb__; replace HB := ck HB hE__; replace HG3 := ck HG3 hE__; replace HG4 := ck HG4 hE__; replace HG5 := ck HG5 hE__; replace HG6 := ck HG6 hE__; clear hE__; clear hb__ hoD)
      | ((with_reducible show wpList _ _ _ (⟨none, .store _ (.tmp 114) (.tmp 113), _, _, _, _⟩ :: _) _ _); go_must (refine wpL_storeF rfl 24 (.tmp 114) (.tmp 113) rfl g3 8 (.slice adD D.length cD) rfl rfl rfl HG3.out (by simp) (by kernel_rfl) #[.int .i64 4, .bool false, .int .u32 0, .int .i64 0, .int .u32 0, .int .i64 0, .int .u64 0, .int .u32 (V0 : Int), .slice adD D.length cD, .slice none 0 0, .slice none 0 0] rfl ?_); intro w8 hs__ hr__; replace HB := cg HB bup hr__ (by omega); replace HG4 := cg HG4 bup hr__ (by omega); replace HG5 := cg HG5 bup hr__ (by omega); replace HG6 := cg HG6 bup hr__ (by omega); replace HD := cg HD bup hr__ (by omega); clear HG3; have HG3 := Lib.hid hs__; clear hs__ hr__; simp only [PT])
      | ((with_reducible refine sl 146 ?_); go_must (refine wpL_load rfl 27 (.tmp 3) rfl g3 0 rfl [.int .i64 4, .bool false, .int .u32 0, .int .i64 0, .int .u32 0, .int .i64 0, .int .u64 0, .int .u32 (V0 : Int), .slice adD D.length cD, .slice none 0 0, .slice none 0 0] _ (range_block HG3.out) Try.underlying27 rfl HBI.out ?_); simp only [PT])
      | ((with_reducible show wpList _ _ _ (⟨none, .store _ (.tmp 6) (.tmp 146), _, _, _, _⟩ :: _) _ _); go_must (refine wpL_storeRow rfl 27 (.tmp 6) (.tmp 146) rfl g6 #[.int .i64 4, .bool false, .int .u32 0, .int .i64 0, .int .u32 0, .int .i64 0, .int .u64 0, .int .u32 (V0 : Int), .slice adD D.length cD, .slice none 0 0, .slice none 0 0] rfl rfl HG6.out HBI.out rfl (all1 _ rfl) ?_); intro w9 hs__ hr__; replace HB := cg HB bup hr__ (by omega); replace HG3 := cg HG3 bup hr__ (by omega); replace HD := cg HD bup hr__ (by omega); clear HG6; have HG6 := Lib.hid hs__; clear hs__ hr__; simp only [PT]))
    all_goals
      (try simp only [Exit.inBlock, Exit.then, Exit.noGoto_ret])
      refine bodyPost_cell1x (cs := [.int .i64 4, .bool false, .int .u32 0, .int .i64 0, .int .u32 0, .int .i64 0, .int .u64 0, .int .u32 (V0 : Int), .slice adD D.length cD, .slice none 0 0, .slice none 0 0]) rfl rfl (range_block HG6.out) Try.underlying27 rfl HBI.out rfl ?_
      refine ⟨⟨4, false, 0, 0, 0, 0, 0, V0, adD, D.length, cD, D, none, 0, 0, [], none, 0, 0, []⟩, none, 0, 0, true, rfl, by rw [HO.out]; rfl, fun x r h => ?_, HB.out⟩
      have hh := HO.out.symm.trans h
      simp only [Option.some.injEq, Prod.mk.injEq] at hh
      obtain ⟨rfl, rfl⟩ := hh
      refine ⟨rfl, fun _ _ => Sl.nil _ 1, own_base HD.out (by omega), OwnOps.nil _ _ _, OwnOps.nil _ _ _⟩
  
  · subst k4
    go_enter Try.func59, Try.ntmps59
    go_wp2_with (first
      | ((with_reducible refine sl 3 ?_); go_must (refine wpL_boxG rfl 27 (.tmp 0) rfl #[.int .i64 4, .bool false, .int .u32 0, .int .i64 0, .int .u32 0, .int .i64 0, .int .u64 0, .int .u32 0, .slice none 0 0, .slice none 0 0, .slice none 0 0] rfl ?_); intro w1 g3 he__ le_g3 lt_g3 hg__ hb__; have HG3 := Lib.hid hg__; have hE__ := cU HB bup hb__; replace HB := ck HB hE__; clear hE__; clear hg__ hb__ he__; simp only [PT])
      | ((with_reducible refine sl 4 ?_); go_must (refine wpL_boxG rfl 24 (.tmp 1) rfl #[.slice ad n c] rfl ?_); intro w2 g4 he__ le_g4 lt_g4 hg__ hb__; have HG4 := Lib.hid hg__; have hE__ := cU HB bup hb__; replace HB := ck HB hE__; replace HG3 := ck HG3 hE__; clear hE__; clear hg__ hb__ he__; simp only [PT])
      | ((with_reducible refine sl 5 ?_); go_must (refine wpL_boxG rfl 4 (.tmp 2) rfl #[.bool big] rfl ?_); intro w3 g5 he__ le_g5 lt_g5 hg__ hb__; have HG5 := Lib.hid hg__; have hE__ := cU HB bup hb__; replace HB := ck HB hE__; replace HG3 := ck HG3 hE__; replace HG4 := ck HG4 hE__; clear hE__; clear hg__ hb__ he__; simp only [PT])
      | ((with_reducible refine sl 6 ?_); go_must (refine wpL_allocG rfl 27 rfl (.agg #[.int .i64 0, .bool false, .int .u32 0, .int .i64 0, .int .u32 0, .int .i64 0, .int .u64 0, .int .u32 0, .slice none 0 0, .slice none 0 0, .slice none 0 0]) #[.int .i64 0, .bool false, .int .u32 0, .int .i64 0, .int .u32 0, .int .i64 0, .int .u64 0, .int .u32 0, .slice none 0 0, .slice none 0 0, .slice none 0 0] 11 (by kernel_rfl) rfl ?_); intro w4 g6 he__ le_g6 lt_g6 hg__ hb__; have HG6 := Lib.hid hg__; have hE__ := cU HB bup hb__; replace HB := ck HB hE__; replace HG3 := ck HG3 hE__; replace HG4 := ck HG4 hE__; replace HG5 := ck HG5 hE__; clear hE__; clear hg__ hb__ he__; simp only [PT])
      | ((with_reducible refine sl 19 ?_); go_must (refine wpL_index rfl (.tmp 16) (.tmp 18) rfl _ _ rfl rfl (.int .i64 4) need_at4 ?_); simp only [PT])
      | ((with_reducible refine sl 18 ?_); go_must (refine wpL_loadF rfl 3 (.tmp 17) rfl g3 0 rfl (.int .i64 4) HG3.out rfl Try.underlying3 rfl ?_); simp only [PT])
      | ((with_reducible refine sl 20 ?_); go_must (refine wpL_loadF rfl 24 (.tmp 4) rfl g4 0 rfl (.slice ad n c) HG4.out rfl Try.underlying24 rfl ?_); simp only [PT])
      | ((with_reducible refine sl 30 ?_); go_must (refine wpL_loadF rfl 3 (.tmp 29) rfl g3 0 rfl (.int .i64 4) HG3.out rfl Try.underlying3 rfl ?_); simp only [PT])
      | ((with_reducible refine sl 26 ?_); go_must (refine wpL_loadF rfl 24 (.tmp 4) rfl g4 0 rfl (.slice ad n c) HG4.out rfl Try.underlying24 rfl ?_); simp only [PT])
      | ((with_reducible refine sl 28 ?_); go_must (refine wpL_sliceG elB rfl (.tmp 26) (some (.tmp 27)) none rfl rfl 4 n (.inr ⟨.i64, rfl⟩) (.inl ⟨rfl, rfl⟩) (by omega) (by omega) m cc HM.out HCC.out ?_); intro ad28 had28; have HRG := Lib.hid (show ∀ w0, Bs w0 ad n c l → Bs w0 ad28 m cc R from fun w0 h0 => Bs.partG h0 4 n m cc (by omega) (Nat.le_refl _) HM.out HCC.out ad28 had28 R HRR.out); have HRW := Lib.hid (HRG.out _ HS.out); clear had28; simp only [PT])
      | (go_at_call 82; (with_reducible show Calls _ _ #[Value.int .i64 0, Value.int .i64 4, _, _] _ _); go_must (refine (num1_any g4 g5 ad n c l big 0 4 (by omega) (by omega) _ (by exact HG4.out) (by exact HG5.out) (HS.out.below (HB.out.trans (Below.mono bup HB.out.size)))).mono ?_); intro e w5 hr; rw [← HV0.out] at hr; obtain ⟨rfl, hb__⟩ := hr; have hE__ := cU HB bup hb__; replace HB := ck HB hE__; replace HG3 := ck HG3 hE__; replace HG4 := ck HG4 hE__; replace HG5 := ck HG5 hE__; replace HG6 := ck HG6 hE__; clear hE__; clear hb__)
      | ((with_reducible show wpList _ _ _ (⟨none, .store _ (.tmp 103) (.tmp 102), _, _, _, _⟩ :: _) _ _); go_must (refine wpL_storeF rfl 22 (.tmp 103) (.tmp 102) rfl g3 7 (.int .u32 (V0 : Int)) rfl rfl rfl HG3.out (by simp) (by kernel_rfl) #[.int .i64 4, .bool false, .int .u32 0, .int .i64 0, .int .u32 0, .int .i64 0, .int .u64 0, .int .u32 (V0 : Int), .slice none 0 0, .slice none 0 0, .slice none 0 0] rfl ?_); intro w7 hs__ hr__; replace HB := cg HB bup hr__ (by omega); replace HG4 := cg HG4 bup hr__ (by omega); replace HG5 := cg HG5 bup hr__ (by omega); replace HG6 := cg HG6 bup hr__ (by omega); clear HG3; have HG3 := Lib.hid hs__; clear hs__ hr__; simp only [PT])
      | ((with_reducible refine sl 109 ?_); go_must (refine wpL_loadF rfl 22 (.tmp 108) rfl g3 7 rfl (.int .u32 (V0 : Int)) HG3.out rfl Try.underlying22 rfl ?_); simp only [PT])
      | ((with_reducible refine sl 112 ?_); go_must (refine wpL_sliceG elB rfl (.tmp 104) none (some (.tmp 111)) rfl rfl 0 m (.inl ⟨rfl, rfl⟩) (.inr ⟨.u64, rfl⟩) (Nat.zero_le _) (by omega) m cc rfl rfl ?_); intro ad112 had112; have HDW := Lib.hid (Bs.partG HRW.out 0 m m cc (Nat.zero_le _) (by omega) rfl rfl ad112 had112 D HDD.out); clear had112; simp only [PT])
      | (go_at_call 68; (with_reducible show Calls _ _ #[Value.slice ad112 m cc] _ _); go_must (refine (bclone_any ad112 m cc D _ (HDW.out.below (HB.out.trans (Below.mono bup HB.out.size))) (by omega)).mono ?_); intro e w6 hr; unfold RetB at hr; obtain ⟨adD, cD, rfl, hoD, hb__⟩ := hr; have HD := Lib.hid (own_base (base' := g6 + 1) hoD (lt_of_block (by exact HG6.out))); have hE__ := cU HB bup hb__; replace HB := ck HB hE__; replace HG3 := ck HG3 hE__; replace HG4 := ck HG4 hE__; replace HG5 := ck HG5 hE__; replace HG6 := ck HG6 hE__; clear hE__; clear hb__ hoD)
      | ((with_reducible show wpList _ _ _ (⟨none, .store _ (.tmp 114) (.tmp 113), _, _, _, _⟩ :: _) _ _); go_must (refine wpL_storeF rfl 24 (.tmp 114) (.tmp 113) rfl g3 8 (.slice adD D.length cD) rfl rfl rfl HG3.out (by simp) (by kernel_rfl) #[.int .i64 4, .bool false, .int .u32 0, .int .i64 0, .int .u32 0, .int .i64 0, .int .u64 0, .int .u32 (V0 : Int), .slice adD D.length cD, .slice none 0 0, .slice none 0 0] rfl ?_); intro w8 hs__ hr__; replace HB := cg HB bup hr__ (by omega); replace HG4 := cg HG4 bup hr__ (by omega); replace HG5 := cg HG5 bup hr__ (by omega); replace HG6 := cg HG6 bup hr__ (by omega); replace HD := cg HD bup hr__ (by omega); clear HG3; have HG3 := Lib.hid hs__; clear hs__ hr__; simp only [PT])
      | ((with_reducible refine sl 146 ?_); go_must (refine wpL_load rfl 27 (.tmp 3) rfl g3 0 rfl [.int .i64 4, .bool false, .int .u32 0, .int .i64 0, .int .u32 0, .int .i64 0, .int .u64 0, .int .u32 (V0 : Int), .slice adD D.length cD, .slice none 0 0, .slice none 0 0] _ (range_block HG3.out) Try.underlying27 rfl HBI.out ?_); simp only [PT])
      | ((with_reducible show wpList _ _ _ (⟨none, .store _ (.tmp 6) (.tmp 146), _, _, _, _⟩ :: _) _ _); go_must (refine wpL_storeRow rfl 27 (.tmp 6) (.tmp 146) rfl g6 #[.int .i64 4, .bool false, .int .u32 0, .int .i64 0, .int .u32 0, .int .i64 0, .int .u64 0, .int .u32 (V0 : Int), .slice adD D.length cD, .slice none 0 0, .slice none 0 0] rfl rfl HG6.out HBI.out rfl (all1 _ rfl) ?_); intro w9 hs__ hr__; replace HB := cg HB bup hr__ (by omega); replace HG3 := cg HG3 bup hr__ (by omega); replace HD := cg HD bup hr__ (by omega); clear HG6; have HG6 := Lib.hid hs__; clear hs__ hr__; simp only [PT]))
    all_goals
      (try simp only [Exit.inBlock, Exit.then, Exit.noGoto_ret])
      refine bodyPost_cell1x (cs := [.int .i64 4, .bool false, .int .u32 0, .int .i64 0, .int .u32 0, .int .i64 0, .int .u64 0, .int .u32 (V0 : Int), .slice adD D.length cD, .slice none 0 0, .slice none 0 0]) rfl rfl (range_block HG6.out) Try.underlying27 rfl HBI.out rfl ?_
      refine ⟨⟨4, false, 0, 0, 0, 0, 0, V0, adD, D.length, cD, D, none, 0, 0, [], none, 0, 0, []⟩, none, 0, 0, true, rfl, by rw [HO.out]; rfl, fun x r h => ?_, HB.out⟩
      have hh := HO.out.symm.trans h
      simp only [Option.some.injEq, Prod.mk.injEq] at hh
      obtain ⟨rfl, rfl⟩ := hh
      refine ⟨rfl, fun _ _ => Sl.nil _ 1, own_base HD.out (by omega), OwnOps.nil _ _ _, OwnOps.nil _ _ _⟩
  
end Go.Proofs.Ytmfplinbbcoahaa
/-
  Chapter 26: a block's body read, kind by kind, walked (by genopen.py).
-/
namespace Go.Proofs.Ytmfplinbbcoahaa
open Go.RowKit Go.Sort
set_option linter.unusedVariables false
set_option linter.unusedSimpArgs false

set_option maxRecDepth 100000 in
set_option maxHeartbeats 8000000 in
theorem open3_short (ad : Option Addr) (n c : Nat) (l : List UInt8) (big : Bool) (w : World) (hs : Bs w ad n c l) (hn : n ≤ 1048576) (h : n < 20) :
    Calls Try.prog 59 #[.agg #[.int .i64 3, .bool false, .int .u32 0, .int .i64 0, .int .u32 0, .int .i64 0, .int .u64 0, .int .u32 0, .slice none 0 0, .slice none 0 0, .slice none 0 0], .slice ad n c, .bool big] w (OpenR ad n c l (openP 3 0 l big) w) := by
  have HB := Lib.hid (Below.refl w.heap.size w)
  have HS := Lib.hid hs
  have HBI := Lib.hid blk_info
  have hc := hs.le
  have HN := Lib.hid hs.len
  clear hs
  have hi : (n : Int) < 20 := by omega
  have HO := Lib.hid (show openP 3 0 l big = none from by have := HN.out; unfold openP; simp [show l.length < 20 by omega])
  clear h
  go_enter Try.func59, Try.ntmps59
  go_wp2_with (first
    | ((with_reducible refine sl 3 ?_); go_must (refine wpL_boxG rfl 27 (.tmp 0) rfl #[.int .i64 3, .bool false, .int .u32 0, .int .i64 0, .int .u32 0, .int .i64 0, .int .u64 0, .int .u32 0, .slice none 0 0, .slice none 0 0, .slice none 0 0] rfl ?_); intro w1 g3 he__ le_g3 lt_g3 hg__ hb__; have HG3 := Lib.hid hg__; have hE__ := cU HB bup hb__; replace HB := ck HB hE__; clear hE__; clear hg__ hb__ he__; simp only [PT])
    | ((with_reducible refine sl 4 ?_); go_must (refine wpL_boxG rfl 24 (.tmp 1) rfl #[.slice ad n c] rfl ?_); intro w2 g4 he__ le_g4 lt_g4 hg__ hb__; have HG4 := Lib.hid hg__; have hE__ := cU HB bup hb__; replace HB := ck HB hE__; replace HG3 := ck HG3 hE__; clear hE__; clear hg__ hb__ he__; simp only [PT])
    | ((with_reducible refine sl 5 ?_); go_must (refine wpL_boxG rfl 4 (.tmp 2) rfl #[.bool big] rfl ?_); intro w3 g5 he__ le_g5 lt_g5 hg__ hb__; have HG5 := Lib.hid hg__; have hE__ := cU HB bup hb__; replace HB := ck HB hE__; replace HG3 := ck HG3 hE__; replace HG4 := ck HG4 hE__; clear hE__; clear hg__ hb__ he__; simp only [PT])
    | ((with_reducible refine sl 6 ?_); go_must (refine wpL_allocG rfl 27 rfl (.agg #[.int .i64 0, .bool false, .int .u32 0, .int .i64 0, .int .u32 0, .int .i64 0, .int .u64 0, .int .u32 0, .slice none 0 0, .slice none 0 0, .slice none 0 0]) #[.int .i64 0, .bool false, .int .u32 0, .int .i64 0, .int .u32 0, .int .i64 0, .int .u64 0, .int .u32 0, .slice none 0 0, .slice none 0 0, .slice none 0 0] 11 (by kernel_rfl) rfl ?_); intro w4 g6 he__ le_g6 lt_g6 hg__ hb__; have HG6 := Lib.hid hg__; have hE__ := cU HB bup hb__; replace HB := ck HB hE__; replace HG3 := ck HG3 hE__; replace HG4 := ck HG4 hE__; replace HG5 := ck HG5 hE__; clear hE__; clear hg__ hb__ he__; simp only [PT])
    | ((with_reducible refine sl 19 ?_); go_must (refine wpL_index rfl (.tmp 16) (.tmp 18) rfl _ _ rfl rfl (.int .i64 20) need_at3 ?_); simp only [PT])
    | ((with_reducible refine sl 18 ?_); go_must (refine wpL_loadF rfl 3 (.tmp 17) rfl g3 0 rfl (.int .i64 3) HG3.out rfl Try.underlying3 rfl ?_); simp only [PT])
    | ((with_reducible refine sl 20 ?_); go_must (refine wpL_loadF rfl 24 (.tmp 4) rfl g4 0 rfl (.slice ad n c) HG4.out rfl Try.underlying24 rfl ?_); simp only [PT])
    | ((with_reducible refine sl 30 ?_); go_must (refine wpL_loadF rfl 3 (.tmp 29) rfl g3 0 rfl (.int .i64 3) HG3.out rfl Try.underlying3 rfl ?_); simp only [PT])
    | ((with_reducible refine sl 26 ?_); go_must (refine wpL_loadF rfl 24 (.tmp 4) rfl g4 0 rfl (.slice ad n c) HG4.out rfl Try.underlying24 rfl ?_); simp only [PT])
    | ((with_reducible refine sl 24 ?_); go_must (refine wpL_load rfl 27 (.tmp 3) rfl g3 0 rfl [.int .i64 3, .bool false, .int .u32 0, .int .i64 0, .int .u32 0, .int .i64 0, .int .u64 0, .int .u32 0, .slice none 0 0, .slice none 0 0, .slice none 0 0] _ (range_block HG3.out) Try.underlying27 rfl HBI.out ?_); simp only [PT])
    | ((with_reducible show wpList _ _ _ (⟨none, .store _ (.tmp 6) (.tmp 24), _, _, _, _⟩ :: _) _ _); go_must (refine wpL_storeRow rfl 27 (.tmp 6) (.tmp 24) rfl g6 #[.int .i64 3, .bool false, .int .u32 0, .int .i64 0, .int .u32 0, .int .i64 0, .int .u64 0, .int .u32 0, .slice none 0 0, .slice none 0 0, .slice none 0 0] rfl rfl HG6.out HBI.out rfl (all1 _ rfl) ?_); intro w9 hs__ hr__; replace HB := cg HB bup hr__ (by omega); replace HG3 := cg HG3 bup hr__ (by omega); clear HG6; have HG6 := Lib.hid hs__; clear hs__ hr__; simp only [PT]))
  all_goals
    (try simp only [Exit.inBlock, Exit.then, Exit.noGoto_ret])
    refine bodyPost_cell1x (cs := [.int .i64 3, .bool false, .int .u32 0, .int .i64 0, .int .u32 0, .int .i64 0, .int .u64 0, .int .u32 0, .slice none 0 0, .slice none 0 0, .slice none 0 0]) rfl rfl (range_block HG6.out) Try.underlying27 rfl HBI.out rfl ?_
    exact ⟨⟨3, false, 0, 0, 0, 0, 0, 0, none, 0, 0, [], none, 0, 0, [], none, 0, 0, []⟩, none, 0, 0, false, rfl, by rw [HO.out]; rfl, fun x r h => absurd (HO.out.symm.trans h) (by simp), HB.out⟩

set_option maxRecDepth 100000 in
set_option maxHeartbeats 8000000 in
theorem open3_short2 (ad : Option Addr) (n c : Nat) (l : List UInt8) (big : Bool) (w : World) (hs : Bs w ad n c l) (hn : n ≤ 1048576) (h : 20 ≤ n) (h2 : n - 20 < w4 big l 12) :
    Calls Try.prog 59 #[.agg #[.int .i64 3, .bool false, .int .u32 0, .int .i64 0, .int .u32 0, .int .i64 0, .int .u64 0, .int .u32 0, .slice none 0 0, .slice none 0 0, .slice none 0 0], .slice ad n c, .bool big] w (OpenR ad n c l (openP 3 0 l big) w) := by
  have HB := Lib.hid (Below.refl w.heap.size w)
  have HS := Lib.hid hs
  have HBI := Lib.hid blk_info
  have hc := hs.le
  have HN := Lib.hid hs.len
  clear hs
  have hi : ¬ (n : Int) < 20 := by omega
  obtain ⟨V0, hV0⟩ : ∃ x, x = getN ((l.drop 0).take 4) big := ⟨_, rfl⟩
  have bV0 : V0 < 4294967296 := by rw [hV0]; exact w4_lt big l 0
  have HV0 := Lib.hid hV0
  clear hV0
  obtain ⟨V4, hV4⟩ : ∃ x, x = getN ((l.drop 4).take 4) big := ⟨_, rfl⟩
  have bV4 : V4 < 4294967296 := by rw [hV4]; exact w4_lt big l 4
  have HV4 := Lib.hid hV4
  clear hV4
  obtain ⟨V8, hV8⟩ : ∃ x, x = getN ((l.drop 8).take 4) big := ⟨_, rfl⟩
  have bV8 : V8 < 4294967296 := by rw [hV8]; exact w4_lt big l 8
  have HV8 := Lib.hid hV8
  clear hV8
  obtain ⟨V12, hV12⟩ : ∃ x, x = getN ((l.drop 12).take 4) big := ⟨_, rfl⟩
  have bV12 : V12 < 4294967296 := by rw [hV12]; exact w4_lt big l 12
  have HV12 := Lib.hid hV12
  clear hV12
  obtain ⟨V16, hV16⟩ : ∃ x, x = getN ((l.drop 16).take 4) big := ⟨_, rfl⟩
  have bV16 : V16 < 4294967296 := by rw [hV16]; exact w4_lt big l 16
  have HV16 := Lib.hid hV16
  clear hV16
  have e0 : IntKind.i64.wrap (V0 : Int) = (V0 : Int) := by rw [IntKind.wrap_i64]; omega
  obtain ⟨T, hT⟩ : ∃ T, T = V4 * 4294967296 + V8 := ⟨_, rfl⟩
  have hT2 : T < 18446744073709551616 := by omega
  have hor := or_word2 V4 V8 bV4 bV8
  rw [← hT] at hor
  have HT := Lib.hid hT
  clear hT
  have e1 : IntKind.i64.wrap (V12 : Int) = (V12 : Int) := by rw [IntKind.wrap_i64]; omega
  have e2 : IntKind.u32.wrap (V16 : Int) = (V16 : Int) := by rw [IntKind.wrap_u32]; omega
  obtain ⟨m, hm⟩ : ∃ m, m = n - 20 := ⟨_, rfl⟩
  obtain ⟨cc, hcc⟩ : ∃ m, m = c - 20 := ⟨_, rfl⟩
  obtain ⟨R, hR⟩ : ∃ R, R = l.drop 20 := ⟨_, rfl⟩
  have HM := Lib.hid hm.symm
  have HCC := Lib.hid hcc.symm
  have hm1 : m + 20 ≤ n := by omega
  have hm2 : n ≤ m + 20 := by omega
  have hm3 : m ≤ cc := by omega
  have hRl : R.length = m := by rw [hR, List.length_drop, ← HN.out, hm]
  have HRL := Lib.hid hRl
  have HRR : Hid ((l.drop 20).take m = R) := Lib.hid (by rw [← hR]; exact List.take_of_length_le (by omega))
  have HR := Lib.hid hR
  clear hm hcc hR hRl
  obtain ⟨P, hP⟩ : ∃ P, P = padN V12 := ⟨_, rfl⟩
  have hP3 : P ≤ 3 := by rw [hP]; unfold padN; omega
  have HPAD : Hid (∀ w, Calls Try.prog 72 #[.int .i64 (V12 : Int)] w fun e w' => e = .returned (.int .i64 (P : Int)) ∧ w' = w) := Lib.hid (fun w => by rw [hP]; exact pad_nat V12 w (by omega))
  obtain ⟨Q, hQ⟩ : ∃ Q, Q = V12 + P := ⟨_, rfl⟩
  have hs1 : (V12 : Int) + (P : Int) = (Q : Int) := by omega
  have hs2 : IntKind.i64.wrap ((V12 : Int) + (P : Int)) = (Q : Int) := by rw [IntKind.wrap_i64]; omega
  have hs3 : IntKind.i64.wrap (Q : Int) = (Q : Int) := by rw [IntKind.wrap_i64]; omega
  have hQ1 : V12 ≤ Q := by omega
  have h3 : n - 20 < V12 := by rw [HV12.out]; exact h2
  clear h2
  have HO : Hid (openP 3 0 l big = none) := Lib.hid (by
    have := HN.out
    have e : w4 big l 12 = V12 := HV12.out.symm
    unfold openP
    simp only [e, ← hP, ← hQ]
    rw [if_neg (by decide), if_neg (by decide), if_pos trivial, if_neg (by omega), if_pos (by omega)])
  clear HN hP hQ
  have x1 : (m : Int) < (V12 : Int) := by omega
  go_enter Try.func59, Try.ntmps59
  go_wp2_with (first
    | ((with_reducible refine sl 3 ?_); go_must (refine wpL_boxG rfl 27 (.tmp 0) rfl #[.int .i64 3, .bool false, .int .u32 0, .int .i64 0, .int .u32 0, .int .i64 0, .int .u64 0, .int .u32 0, .slice none 0 0, .slice none 0 0, .slice none 0 0] rfl ?_); intro w1 g3 he__ le_g3 lt_g3 hg__ hb__; have HG3 := Lib.hid hg__; have hE__ := cU HB bup hb__; replace HB := ck HB hE__; clear hE__; clear hg__ hb__ he__; simp only [PT])
    | ((with_reducible refine sl 4 ?_); go_must (refine wpL_boxG rfl 24 (.tmp 1) rfl #[.slice ad n c] rfl ?_); intro w2 g4 he__ le_g4 lt_g4 hg__ hb__; have HG4 := Lib.hid hg__; have hE__ := cU HB bup hb__; replace HB := ck HB hE__; replace HG3 := ck HG3 hE__; clear hE__; clear hg__ hb__ he__; simp only [PT])
    | ((with_reducible refine sl 5 ?_); go_must (refine wpL_boxG rfl 4 (.tmp 2) rfl #[.bool big] rfl ?_); intro w3 g5 he__ le_g5 lt_g5 hg__ hb__; have HG5 := Lib.hid hg__; have hE__ := cU HB bup hb__; replace HB := ck HB hE__; replace HG3 := ck HG3 hE__; replace HG4 := ck HG4 hE__; clear hE__; clear hg__ hb__ he__; simp only [PT])
    | ((with_reducible refine sl 6 ?_); go_must (refine wpL_allocG rfl 27 rfl (.agg #[.int .i64 0, .bool false, .int .u32 0, .int .i64 0, .int .u32 0, .int .i64 0, .int .u64 0, .int .u32 0, .slice none 0 0, .slice none 0 0, .slice none 0 0]) #[.int .i64 0, .bool false, .int .u32 0, .int .i64 0, .int .u32 0, .int .i64 0, .int .u64 0, .int .u32 0, .slice none 0 0, .slice none 0 0, .slice none 0 0] 11 (by kernel_rfl) rfl ?_); intro w4 g6 he__ le_g6 lt_g6 hg__ hb__; have HG6 := Lib.hid hg__; have hE__ := cU HB bup hb__; replace HB := ck HB hE__; replace HG3 := ck HG3 hE__; replace HG4 := ck HG4 hE__; replace HG5 := ck HG5 hE__; clear hE__; clear hg__ hb__ he__; simp only [PT])
    | ((with_reducible refine sl 19 ?_); go_must (refine wpL_index rfl (.tmp 16) (.tmp 18) rfl _ _ rfl rfl (.int .i64 20) need_at3 ?_); simp only [PT])
    | ((with_reducible refine sl 18 ?_); go_must (refine wpL_loadF rfl 3 (.tmp 17) rfl g3 0 rfl (.int .i64 3) HG3.out rfl Try.underlying3 rfl ?_); simp only [PT])
    | ((with_reducible refine sl 20 ?_); go_must (refine wpL_loadF rfl 24 (.tmp 4) rfl g4 0 rfl (.slice ad n c) HG4.out rfl Try.underlying24 rfl ?_); simp only [PT])
    | ((with_reducible refine sl 30 ?_); go_must (refine wpL_loadF rfl 3 (.tmp 29) rfl g3 0 rfl (.int .i64 3) HG3.out rfl Try.underlying3 rfl ?_); simp only [PT])
    | ((with_reducible refine sl 26 ?_); go_must (refine wpL_loadF rfl 24 (.tmp 4) rfl g4 0 rfl (.slice ad n c) HG4.out rfl Try.underlying24 rfl ?_); simp only [PT])
    | ((with_reducible refine sl 28 ?_); go_must (refine wpL_sliceG elB rfl (.tmp 26) (some (.tmp 27)) none rfl rfl 20 n (.inr ⟨.i64, rfl⟩) (.inl ⟨rfl, rfl⟩) (by omega) (by omega) m cc HM.out HCC.out ?_); intro ad28 had28; have HRG := Lib.hid (show ∀ w0, Bs w0 ad n c l → Bs w0 ad28 m cc R from fun w0 h0 => Bs.partG h0 20 n m cc (by omega) (Nat.le_refl _) HM.out HCC.out ad28 had28 R HRR.out); have HRW := Lib.hid (HRG.out _ HS.out); clear had28; simp only [PT])
    | (go_at_call 82; (with_reducible show Calls _ _ #[Value.int .i64 0, Value.int .i64 4, _, _] _ _); go_must (refine (num1_any g4 g5 ad n c l big 0 4 (by omega) (by omega) _ (by exact HG4.out) (by exact HG5.out) (HS.out.below (HB.out.trans (Below.mono bup HB.out.size)))).mono ?_); intro e w5 hr; rw [← HV0.out] at hr; obtain ⟨rfl, hb__⟩ := hr; have hE__ := cU HB bup hb__; replace HB := ck HB hE__; replace HG3 := ck HG3 hE__; replace HG4 := ck HG4 hE__; replace HG5 := ck HG5 hE__; replace HG6 := ck HG6 hE__; clear hE__; clear hb__)
    | (go_at_call 82; (with_reducible show Calls _ _ #[Value.int .i64 4, Value.int .i64 4, _, _] _ _); go_must (refine (num1_any g4 g5 ad n c l big 4 4 (by omega) (by omega) _ (by exact HG4.out) (by exact HG5.out) (HS.out.below (HB.out.trans (Below.mono bup HB.out.size)))).mono ?_); intro e w6 hr; rw [← HV4.out] at hr; obtain ⟨rfl, hb__⟩ := hr; have hE__ := cU HB bup hb__; replace HB := ck HB hE__; replace HG3 := ck HG3 hE__; replace HG4 := ck HG4 hE__; replace HG5 := ck HG5 hE__; replace HG6 := ck HG6 hE__; clear hE__; clear hb__)
    | (go_at_call 82; (with_reducible show Calls _ _ #[Value.int .i64 8, Value.int .i64 4, _, _] _ _); go_must (refine (num1_any g4 g5 ad n c l big 8 4 (by omega) (by omega) _ (by exact HG4.out) (by exact HG5.out) (HS.out.below (HB.out.trans (Below.mono bup HB.out.size)))).mono ?_); intro e w7 hr; rw [← HV8.out] at hr; obtain ⟨rfl, hb__⟩ := hr; have hE__ := cU HB bup hb__; replace HB := ck HB hE__; replace HG3 := ck HG3 hE__; replace HG4 := ck HG4 hE__; replace HG5 := ck HG5 hE__; replace HG6 := ck HG6 hE__; clear hE__; clear hb__)
    | (go_at_call 82; (with_reducible show Calls _ _ #[Value.int .i64 16, Value.int .i64 4, _, _] _ _); go_must (refine (num1_any g4 g5 ad n c l big 16 4 (by omega) (by omega) _ (by exact HG4.out) (by exact HG5.out) (HS.out.below (HB.out.trans (Below.mono bup HB.out.size)))).mono ?_); intro e w8 hr; rw [← HV16.out] at hr; obtain ⟨rfl, hb__⟩ := hr; have hE__ := cU HB bup hb__; replace HB := ck HB hE__; replace HG3 := ck HG3 hE__; replace HG4 := ck HG4 hE__; replace HG5 := ck HG5 hE__; replace HG6 := ck HG6 hE__; clear hE__; clear hb__)
    | (go_at_call 82; (with_reducible show Calls _ _ #[Value.int .i64 12, Value.int .i64 4, _, _] _ _); go_must (refine (num1_any g4 g5 ad n c l big 12 4 (by omega) (by omega) _ (by exact HG4.out) (by exact HG5.out) (HS.out.below (HB.out.trans (Below.mono bup HB.out.size)))).mono ?_); intro e w9 hr; rw [← HV12.out] at hr; obtain ⟨rfl, hb__⟩ := hr; have hE__ := cU HB bup hb__; replace HB := ck HB hE__; replace HG3 := ck HG3 hE__; replace HG4 := ck HG4 hE__; replace HG5 := ck HG5 hE__; replace HG6 := ck HG6 hE__; clear hE__; clear hb__)
    | ((with_reducible show wpList _ _ _ (⟨none, .store _ (.tmp 67) (.tmp 57), _, _, _, _⟩ :: _) _ _); go_must (refine wpL_storeF rfl 3 (.tmp 67) (.tmp 57) rfl g3 5 (.int .i64 (V0 : Int)) rfl rfl rfl HG3.out (by simp) (by kernel_rfl) #[.int .i64 3, .bool false, .int .u32 0, .int .i64 0, .int .u32 0, .int .i64 (V0 : Int), .int .u64 0, .int .u32 0, .slice none 0 0, .slice none 0 0, .slice none 0 0] rfl ?_); intro w10 hs__ hr__; replace HB := cg HB bup hr__ (by omega); replace HG4 := cg HG4 bup hr__ (by omega); replace HG5 := cg HG5 bup hr__ (by omega); replace HG6 := cg HG6 bup hr__ (by omega); clear HG3; have HG3 := Lib.hid hs__; clear hs__ hr__; simp only [PT])
    | ((with_reducible show wpList _ _ _ (⟨none, .store _ (.tmp 68) (.tmp 63), _, _, _, _⟩ :: _) _ _); go_must (refine wpL_storeF rfl 23 (.tmp 68) (.tmp 63) rfl g3 6 (.int .u64 ((T : Nat) : Int)) rfl rfl rfl HG3.out (by simp) (by kernel_rfl) #[.int .i64 3, .bool false, .int .u32 0, .int .i64 0, .int .u32 0, .int .i64 (V0 : Int), .int .u64 ((T : Nat) : Int), .int .u32 0, .slice none 0 0, .slice none 0 0, .slice none 0 0] rfl ?_); intro w11 hs__ hr__; replace HB := cg HB bup hr__ (by omega); replace HG4 := cg HG4 bup hr__ (by omega); replace HG5 := cg HG5 bup hr__ (by omega); replace HG6 := cg HG6 bup hr__ (by omega); clear HG3; have HG3 := Lib.hid hs__; clear hs__ hr__; simp only [PT])
    | ((with_reducible show wpList _ _ _ (⟨none, .store _ (.tmp 69) (.tmp 66), _, _, _, _⟩ :: _) _ _); go_must (refine wpL_storeF rfl 22 (.tmp 69) (.tmp 66) rfl g3 7 (.int .u32 (V16 : Int)) rfl rfl rfl HG3.out (by simp) (by kernel_rfl) #[.int .i64 3, .bool false, .int .u32 0, .int .i64 0, .int .u32 0, .int .i64 (V0 : Int), .int .u64 ((T : Nat) : Int), .int .u32 (V16 : Int), .slice none 0 0, .slice none 0 0, .slice none 0 0] rfl ?_); intro w12 hs__ hr__; replace HB := cg HB bup hr__ (by omega); replace HG4 := cg HG4 bup hr__ (by omega); replace HG5 := cg HG5 bup hr__ (by omega); replace HG6 := cg HG6 bup hr__ (by omega); clear HG3; have HG3 := Lib.hid hs__; clear hs__ hr__; simp only [PT])
    | (go_at_call 72; go_must (refine (HPAD.out _).mono ?_); rintro e w13 ⟨rfl, hw__⟩; subst hw__)
    | ((with_reducible refine sl 86 ?_); go_must (refine wpL_load rfl 27 (.tmp 3) rfl g3 0 rfl [.int .i64 3, .bool false, .int .u32 0, .int .i64 0, .int .u32 0, .int .i64 (V0 : Int), .int .u64 ((T : Nat) : Int), .int .u32 (V16 : Int), .slice none 0 0, .slice none 0 0, .slice none 0 0] _ (range_block HG3.out) Try.underlying27 rfl HBI.out ?_); simp only [PT])
    | ((with_reducible show wpList _ _ _ (⟨none, .store _ (.tmp 6) (.tmp 86), _, _, _, _⟩ :: _) _ _); go_must (refine wpL_storeRow rfl 27 (.tmp 6) (.tmp 86) rfl g6 #[.int .i64 3, .bool false, .int .u32 0, .int .i64 0, .int .u32 0, .int .i64 (V0 : Int), .int .u64 ((T : Nat) : Int), .int .u32 (V16 : Int), .slice none 0 0, .slice none 0 0, .slice none 0 0] rfl rfl HG6.out HBI.out rfl (all1 _ rfl) ?_); intro w14 hs__ hr__; replace HB := cg HB bup hr__ (by omega); replace HG3 := cg HG3 bup hr__ (by omega); clear HG6; have HG6 := Lib.hid hs__; clear hs__ hr__; simp only [PT]))
  all_goals
    (try simp only [Exit.inBlock, Exit.then, Exit.noGoto_ret])
    refine bodyPost_cell1x (cs := [.int .i64 3, .bool false, .int .u32 0, .int .i64 0, .int .u32 0, .int .i64 (V0 : Int), .int .u64 ((T : Nat) : Int), .int .u32 (V16 : Int), .slice none 0 0, .slice none 0 0, .slice none 0 0]) rfl rfl (range_block HG6.out) Try.underlying27 rfl HBI.out rfl ?_
    exact ⟨⟨3, false, 0, 0, 0, (V0 : Int), T, V16, none, 0, 0, [], none, 0, 0, [], none, 0, 0, []⟩, none, 0, 0, false, rfl, by rw [HO.out]; rfl, fun x r h => absurd (HO.out.symm.trans h) (by simp), HB.out⟩

set_option maxRecDepth 100000 in
set_option maxHeartbeats 8000000 in
theorem open3_short3 (ad : Option Addr) (n c : Nat) (l : List UInt8) (big : Bool) (w : World) (hs : Bs w ad n c l) (hn : n ≤ 1048576) (h : 20 ≤ n) (h2 : ¬ n - 20 < w4 big l 12) (h4 : n - 20 < w4 big l 12 + padN (w4 big l 12)) :
    Calls Try.prog 59 #[.agg #[.int .i64 3, .bool false, .int .u32 0, .int .i64 0, .int .u32 0, .int .i64 0, .int .u64 0, .int .u32 0, .slice none 0 0, .slice none 0 0, .slice none 0 0], .slice ad n c, .bool big] w (OpenR ad n c l (openP 3 0 l big) w) := by
  have HB := Lib.hid (Below.refl w.heap.size w)
  have HS := Lib.hid hs
  have HBI := Lib.hid blk_info
  have hc := hs.le
  have HN := Lib.hid hs.len
  clear hs
  have hi : ¬ (n : Int) < 20 := by omega
  obtain ⟨V0, hV0⟩ : ∃ x, x = getN ((l.drop 0).take 4) big := ⟨_, rfl⟩
  have bV0 : V0 < 4294967296 := by rw [hV0]; exact w4_lt big l 0
  have HV0 := Lib.hid hV0
  clear hV0
  obtain ⟨V4, hV4⟩ : ∃ x, x = getN ((l.drop 4).take 4) big := ⟨_, rfl⟩
  have bV4 : V4 < 4294967296 := by rw [hV4]; exact w4_lt big l 4
  have HV4 := Lib.hid hV4
  clear hV4
  obtain ⟨V8, hV8⟩ : ∃ x, x = getN ((l.drop 8).take 4) big := ⟨_, rfl⟩
  have bV8 : V8 < 4294967296 := by rw [hV8]; exact w4_lt big l 8
  have HV8 := Lib.hid hV8
  clear hV8
  obtain ⟨V12, hV12⟩ : ∃ x, x = getN ((l.drop 12).take 4) big := ⟨_, rfl⟩
  have bV12 : V12 < 4294967296 := by rw [hV12]; exact w4_lt big l 12
  have HV12 := Lib.hid hV12
  clear hV12
  obtain ⟨V16, hV16⟩ : ∃ x, x = getN ((l.drop 16).take 4) big := ⟨_, rfl⟩
  have bV16 : V16 < 4294967296 := by rw [hV16]; exact w4_lt big l 16
  have HV16 := Lib.hid hV16
  clear hV16
  have e0 : IntKind.i64.wrap (V0 : Int) = (V0 : Int) := by rw [IntKind.wrap_i64]; omega
  obtain ⟨T, hT⟩ : ∃ T, T = V4 * 4294967296 + V8 := ⟨_, rfl⟩
  have hT2 : T < 18446744073709551616 := by omega
  have hor := or_word2 V4 V8 bV4 bV8
  rw [← hT] at hor
  have HT := Lib.hid hT
  clear hT
  have e1 : IntKind.i64.wrap (V12 : Int) = (V12 : Int) := by rw [IntKind.wrap_i64]; omega
  have e2 : IntKind.u32.wrap (V16 : Int) = (V16 : Int) := by rw [IntKind.wrap_u32]; omega
  obtain ⟨m, hm⟩ : ∃ m, m = n - 20 := ⟨_, rfl⟩
  obtain ⟨cc, hcc⟩ : ∃ m, m = c - 20 := ⟨_, rfl⟩
  obtain ⟨R, hR⟩ : ∃ R, R = l.drop 20 := ⟨_, rfl⟩
  have HM := Lib.hid hm.symm
  have HCC := Lib.hid hcc.symm
  have hm1 : m + 20 ≤ n := by omega
  have hm2 : n ≤ m + 20 := by omega
  have hm3 : m ≤ cc := by omega
  have hRl : R.length = m := by rw [hR, List.length_drop, ← HN.out, hm]
  have HRL := Lib.hid hRl
  have HRR : Hid ((l.drop 20).take m = R) := Lib.hid (by rw [← hR]; exact List.take_of_length_le (by omega))
  have HR := Lib.hid hR
  clear hm hcc hR hRl
  obtain ⟨P, hP⟩ : ∃ P, P = padN V12 := ⟨_, rfl⟩
  have hP3 : P ≤ 3 := by rw [hP]; unfold padN; omega
  have HPAD : Hid (∀ w, Calls Try.prog 72 #[.int .i64 (V12 : Int)] w fun e w' => e = .returned (.int .i64 (P : Int)) ∧ w' = w) := Lib.hid (fun w => by rw [hP]; exact pad_nat V12 w (by omega))
  obtain ⟨Q, hQ⟩ : ∃ Q, Q = V12 + P := ⟨_, rfl⟩
  have hs1 : (V12 : Int) + (P : Int) = (Q : Int) := by omega
  have hs2 : IntKind.i64.wrap ((V12 : Int) + (P : Int)) = (Q : Int) := by rw [IntKind.wrap_i64]; omega
  have hs3 : IntKind.i64.wrap (Q : Int) = (Q : Int) := by rw [IntKind.wrap_i64]; omega
  have hQ1 : V12 ≤ Q := by omega
  have h3 : ¬ n - 20 < V12 := by rw [HV12.out]; exact h2
  have h5 : n - 20 < Q := by rw [hQ, hP, HV12.out]; exact h4
  clear h2 h4
  have HO : Hid (openP 3 0 l big = none) := Lib.hid (by
    have := HN.out
    have e : w4 big l 12 = V12 := HV12.out.symm
    unfold openP
    simp only [e, ← hP, ← hQ]
    rw [if_neg (by decide), if_neg (by decide), if_pos trivial, if_neg (by omega), if_pos (by omega)])
  clear HN hP hQ
  have x1 : ¬ (m : Int) < (V12 : Int) := by omega
  have x2 : (m : Int) < (Q : Int) := by omega
  go_enter Try.func59, Try.ntmps59
  go_wp2_with (first
    | ((with_reducible refine sl 3 ?_); go_must (refine wpL_boxG rfl 27 (.tmp 0) rfl #[.int .i64 3, .bool false, .int .u32 0, .int .i64 0, .int .u32 0, .int .i64 0, .int .u64 0, .int .u32 0, .slice none 0 0, .slice none 0 0, .slice none 0 0] rfl ?_); intro w1 g3 he__ le_g3 lt_g3 hg__ hb__; have HG3 := Lib.hid hg__; have hE__ := cU HB bup hb__; replace HB := ck HB hE__; clear hE__; clear hg__ hb__ he__; simp only [PT])
    | ((with_reducible refine sl 4 ?_); go_must (refine wpL_boxG rfl 24 (.tmp 1) rfl #[.slice ad n c] rfl ?_); intro w2 g4 he__ le_g4 lt_g4 hg__ hb__; have HG4 := Lib.hid hg__; have hE__ := cU HB bup hb__; replace HB := ck HB hE__; replace HG3 := ck HG3 hE__; clear hE__; clear hg__ hb__ he__; simp only [PT])
    | ((with_reducible refine sl 5 ?_); go_must (refine wpL_boxG rfl 4 (.tmp 2) rfl #[.bool big] rfl ?_); intro w3 g5 he__ le_g5 lt_g5 hg__ hb__; have HG5 := Lib.hid hg__; have hE__ := cU HB bup hb__; replace HB := ck HB hE__; replace HG3 := ck HG3 hE__; replace HG4 := ck HG4 hE__; clear hE__; clear hg__ hb__ he__; simp only [PT])
    | ((with_reducible refine sl 6 ?_); go_must (refine wpL_allocG rfl 27 rfl (.agg #[.int .i64 0, .bool false, .int .u32 0, .int .i64 0, .int .u32 0, .int .i64 0, .int .u64 0, .int .u32 0, .slice none 0 0, .slice none 0 0, .slice none 0 0]) #[.int .i64 0, .bool false, .int .u32 0, .int .i64 0, .int .u32 0, .int .i64 0, .int .u64 0, .int .u32 0, .slice none 0 0, .slice none 0 0, .slice none 0 0] 11 (by kernel_rfl) rfl ?_); intro w4 g6 he__ le_g6 lt_g6 hg__ hb__; have HG6 := Lib.hid hg__; have hE__ := cU HB bup hb__; replace HB := ck HB hE__; replace HG3 := ck HG3 hE__; replace HG4 := ck HG4 hE__; replace HG5 := ck HG5 hE__; clear hE__; clear hg__ hb__ he__; simp only [PT])
    | ((with_reducible refine sl 19 ?_); go_must (refine wpL_index rfl (.tmp 16) (.tmp 18) rfl _ _ rfl rfl (.int .i64 20) need_at3 ?_); simp only [PT])
    | ((with_reducible refine sl 18 ?_); go_must (refine wpL_loadF rfl 3 (.tmp 17) rfl g3 0 rfl (.int .i64 3) HG3.out rfl Try.underlying3 rfl ?_); simp only [PT])
    | ((with_reducible refine sl 20 ?_); go_must (refine wpL_loadF rfl 24 (.tmp 4) rfl g4 0 rfl (.slice ad n c) HG4.out rfl Try.underlying24 rfl ?_); simp only [PT])
    | ((with_reducible refine sl 30 ?_); go_must (refine wpL_loadF rfl 3 (.tmp 29) rfl g3 0 rfl (.int .i64 3) HG3.out rfl Try.underlying3 rfl ?_); simp only [PT])
    | ((with_reducible refine sl 26 ?_); go_must (refine wpL_loadF rfl 24 (.tmp 4) rfl g4 0 rfl (.slice ad n c) HG4.out rfl Try.underlying24 rfl ?_); simp only [PT])
    | ((with_reducible refine sl 28 ?_); go_must (refine wpL_sliceG elB rfl (.tmp 26) (some (.tmp 27)) none rfl rfl 20 n (.inr ⟨.i64, rfl⟩) (.inl ⟨rfl, rfl⟩) (by omega) (by omega) m cc HM.out HCC.out ?_); intro ad28 had28; have HRG := Lib.hid (show ∀ w0, Bs w0 ad n c l → Bs w0 ad28 m cc R from fun w0 h0 => Bs.partG h0 20 n m cc (by omega) (Nat.le_refl _) HM.out HCC.out ad28 had28 R HRR.out); have HRW := Lib.hid (HRG.out _ HS.out); clear had28; simp only [PT])
    | (go_at_call 82; (with_reducible show Calls _ _ #[Value.int .i64 0, Value.int .i64 4, _, _] _ _); go_must (refine (num1_any g4 g5 ad n c l big 0 4 (by omega) (by omega) _ (by exact HG4.out) (by exact HG5.out) (HS.out.below (HB.out.trans (Below.mono bup HB.out.size)))).mono ?_); intro e w5 hr; rw [← HV0.out] at hr; obtain ⟨rfl, hb__⟩ := hr; have hE__ := cU HB bup hb__; replace HB := ck HB hE__; replace HG3 := ck HG3 hE__; replace HG4 := ck HG4 hE__; replace HG5 := ck HG5 hE__; replace HG6 := ck HG6 hE__; clear hE__; clear hb__)
    | (go_at_call 82; (with_reducible show Calls _ _ #[Value.int .i64 4, Value.int .i64 4, _, _] _ _); go_must (refine (num1_any g4 g5 ad n c l big 4 4 (by omega) (by omega) _ (by exact HG4.out) (by exact HG5.out) (HS.out.below (HB.out.trans (Below.mono bup HB.out.size)))).mono ?_); intro e w6 hr; rw [← HV4.out] at hr; obtain ⟨rfl, hb__⟩ := hr; have hE__ := cU HB bup hb__; replace HB := ck HB hE__; replace HG3 := ck HG3 hE__; replace HG4 := ck HG4 hE__; replace HG5 := ck HG5 hE__; replace HG6 := ck HG6 hE__; clear hE__; clear hb__)
    | (go_at_call 82; (with_reducible show Calls _ _ #[Value.int .i64 8, Value.int .i64 4, _, _] _ _); go_must (refine (num1_any g4 g5 ad n c l big 8 4 (by omega) (by omega) _ (by exact HG4.out) (by exact HG5.out) (HS.out.below (HB.out.trans (Below.mono bup HB.out.size)))).mono ?_); intro e w7 hr; rw [← HV8.out] at hr; obtain ⟨rfl, hb__⟩ := hr; have hE__ := cU HB bup hb__; replace HB := ck HB hE__; replace HG3 := ck HG3 hE__; replace HG4 := ck HG4 hE__; replace HG5 := ck HG5 hE__; replace HG6 := ck HG6 hE__; clear hE__; clear hb__)
    | (go_at_call 82; (with_reducible show Calls _ _ #[Value.int .i64 16, Value.int .i64 4, _, _] _ _); go_must (refine (num1_any g4 g5 ad n c l big 16 4 (by omega) (by omega) _ (by exact HG4.out) (by exact HG5.out) (HS.out.below (HB.out.trans (Below.mono bup HB.out.size)))).mono ?_); intro e w8 hr; rw [← HV16.out] at hr; obtain ⟨rfl, hb__⟩ := hr; have hE__ := cU HB bup hb__; replace HB := ck HB hE__; replace HG3 := ck HG3 hE__; replace HG4 := ck HG4 hE__; replace HG5 := ck HG5 hE__; replace HG6 := ck HG6 hE__; clear hE__; clear hb__)
    | (go_at_call 82; (with_reducible show Calls _ _ #[Value.int .i64 12, Value.int .i64 4, _, _] _ _); go_must (refine (num1_any g4 g5 ad n c l big 12 4 (by omega) (by omega) _ (by exact HG4.out) (by exact HG5.out) (HS.out.below (HB.out.trans (Below.mono bup HB.out.size)))).mono ?_); intro e w9 hr; rw [← HV12.out] at hr; obtain ⟨rfl, hb__⟩ := hr; have hE__ := cU HB bup hb__; replace HB := ck HB hE__; replace HG3 := ck HG3 hE__; replace HG4 := ck HG4 hE__; replace HG5 := ck HG5 hE__; replace HG6 := ck HG6 hE__; clear hE__; clear hb__)
    | ((with_reducible show wpList _ _ _ (⟨none, .store _ (.tmp 67) (.tmp 57), _, _, _, _⟩ :: _) _ _); go_must (refine wpL_storeF rfl 3 (.tmp 67) (.tmp 57) rfl g3 5 (.int .i64 (V0 : Int)) rfl rfl rfl HG3.out (by simp) (by kernel_rfl) #[.int .i64 3, .bool false, .int .u32 0, .int .i64 0, .int .u32 0, .int .i64 (V0 : Int), .int .u64 0, .int .u32 0, .slice none 0 0, .slice none 0 0, .slice none 0 0] rfl ?_); intro w10 hs__ hr__; replace HB := cg HB bup hr__ (by omega); replace HG4 := cg HG4 bup hr__ (by omega); replace HG5 := cg HG5 bup hr__ (by omega); replace HG6 := cg HG6 bup hr__ (by omega); clear HG3; have HG3 := Lib.hid hs__; clear hs__ hr__; simp only [PT])
    | ((with_reducible show wpList _ _ _ (⟨none, .store _ (.tmp 68) (.tmp 63), _, _, _, _⟩ :: _) _ _); go_must (refine wpL_storeF rfl 23 (.tmp 68) (.tmp 63) rfl g3 6 (.int .u64 ((T : Nat) : Int)) rfl rfl rfl HG3.out (by simp) (by kernel_rfl) #[.int .i64 3, .bool false, .int .u32 0, .int .i64 0, .int .u32 0, .int .i64 (V0 : Int), .int .u64 ((T : Nat) : Int), .int .u32 0, .slice none 0 0, .slice none 0 0, .slice none 0 0] rfl ?_); intro w11 hs__ hr__; replace HB := cg HB bup hr__ (by omega); replace HG4 := cg HG4 bup hr__ (by omega); replace HG5 := cg HG5 bup hr__ (by omega); replace HG6 := cg HG6 bup hr__ (by omega); clear HG3; have HG3 := Lib.hid hs__; clear hs__ hr__; simp only [PT])
    | ((with_reducible show wpList _ _ _ (⟨none, .store _ (.tmp 69) (.tmp 66), _, _, _, _⟩ :: _) _ _); go_must (refine wpL_storeF rfl 22 (.tmp 69) (.tmp 66) rfl g3 7 (.int .u32 (V16 : Int)) rfl rfl rfl HG3.out (by simp) (by kernel_rfl) #[.int .i64 3, .bool false, .int .u32 0, .int .i64 0, .int .u32 0, .int .i64 (V0 : Int), .int .u64 ((T : Nat) : Int), .int .u32 (V16 : Int), .slice none 0 0, .slice none 0 0, .slice none 0 0] rfl ?_); intro w12 hs__ hr__; replace HB := cg HB bup hr__ (by omega); replace HG4 := cg HG4 bup hr__ (by omega); replace HG5 := cg HG5 bup hr__ (by omega); replace HG6 := cg HG6 bup hr__ (by omega); clear HG3; have HG3 := Lib.hid hs__; clear hs__ hr__; simp only [PT])
    | (go_at_call 72; go_must (refine (HPAD.out _).mono ?_); rintro e w13 ⟨rfl, hw__⟩; subst hw__)
    | ((with_reducible refine sl 86 ?_); go_must (refine wpL_load rfl 27 (.tmp 3) rfl g3 0 rfl [.int .i64 3, .bool false, .int .u32 0, .int .i64 0, .int .u32 0, .int .i64 (V0 : Int), .int .u64 ((T : Nat) : Int), .int .u32 (V16 : Int), .slice none 0 0, .slice none 0 0, .slice none 0 0] _ (range_block HG3.out) Try.underlying27 rfl HBI.out ?_); simp only [PT])
    | ((with_reducible show wpList _ _ _ (⟨none, .store _ (.tmp 6) (.tmp 86), _, _, _, _⟩ :: _) _ _); go_must (refine wpL_storeRow rfl 27 (.tmp 6) (.tmp 86) rfl g6 #[.int .i64 3, .bool false, .int .u32 0, .int .i64 0, .int .u32 0, .int .i64 (V0 : Int), .int .u64 ((T : Nat) : Int), .int .u32 (V16 : Int), .slice none 0 0, .slice none 0 0, .slice none 0 0] rfl rfl HG6.out HBI.out rfl (all1 _ rfl) ?_); intro w14 hs__ hr__; replace HB := cg HB bup hr__ (by omega); replace HG3 := cg HG3 bup hr__ (by omega); clear HG6; have HG6 := Lib.hid hs__; clear hs__ hr__; simp only [PT]))
  all_goals
    (try simp only [Exit.inBlock, Exit.then, Exit.noGoto_ret])
    refine bodyPost_cell1x (cs := [.int .i64 3, .bool false, .int .u32 0, .int .i64 0, .int .u32 0, .int .i64 (V0 : Int), .int .u64 ((T : Nat) : Int), .int .u32 (V16 : Int), .slice none 0 0, .slice none 0 0, .slice none 0 0]) rfl rfl (range_block HG6.out) Try.underlying27 rfl HBI.out rfl ?_
    exact ⟨⟨3, false, 0, 0, 0, (V0 : Int), T, V16, none, 0, 0, [], none, 0, 0, [], none, 0, 0, []⟩, none, 0, 0, false, rfl, by rw [HO.out]; rfl, fun x r h => absurd (HO.out.symm.trans h) (by simp), HB.out⟩
end Go.Proofs.Ytmfplinbbcoahaa
