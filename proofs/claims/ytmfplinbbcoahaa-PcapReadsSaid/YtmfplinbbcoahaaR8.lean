/-
  Joined by program (merge.py): Opn6, Opn7, Opn8, Opn9, Opn.
-/
import Derived.Test.YtmfplinbbcoahaaR4
import Derived.Test.YtmfplinbbcoahaaR7
set_option linter.unusedVariables false
set_option linter.unusedSimpArgs false
set_option maxRecDepth 100000
set_option maxHeartbeats 16000000
namespace Go.Proofs.Ytmfplinbbcoahaa
open Go.RowKit Go.Sort
theorem open4_short (ad : Option Addr) (n c : Nat) (l : List UInt8) (big : Bool) (w : World) (hs : Bs w ad n c l) (hn : n ≤ 1048576) (h : n < 4) :
    Calls Try.prog 59 #[.agg #[.int .i64 4, .bool false, .int .u32 0, .int .i64 0, .int .u32 0, .int .i64 0, .int .u64 0, .int .u32 0, .slice none 0 0, .slice none 0 0, .slice none 0 0], .slice ad n c, .bool big] w (OpenR ad n c l (openP 4 0 l big) w) := by
  have HB := Hd (Below.refl w.heap.size w)
  have HS := Hd hs
  have HBI := Hd z0d
  have hc := hs.le
  have HN := Hd hs.len
  clear hs
  have hi : (n : Int) < 4 := by omega
  have HO := Hd (show openP 4 0 l big = none from by have := HN.out; unfold openP; simp [show l.length < 4 by omega])
  clear h
  go_enter Try.func59, Try.ntmps59
  go_wp2_with (first
 | ((with_reducible refine sl 3 ?_); (refine z0a rfl 27 (.tmp 0) rfl #[.int .i64 4, .bool false, .int .u32 0, .int .i64 0, .int .u32 0, .int .i64 0, .int .u64 0, .int .u32 0, .slice none 0 0, .slice none 0 0, .slice none 0 0] rfl ?_); intro w1 g3 he__ le_g3 lt_g3 hg__ hb__; have HG3 := Hd hg__; have hE__ := cU HB bup hb__; replace HB := ck HB hE__; clear hE__; clear hg__ hb__ he__; simp only [PT])
 | ((with_reducible refine sl 4 ?_); (refine z0a rfl 24 (.tmp 1) rfl #[.slice ad n c] rfl ?_); intro w2 g4 he__ le_g4 lt_g4 hg__ hb__; have HG4 := Hd hg__; have hE__ := cU HB bup hb__; replace HB := ck HB hE__; replace HG3 := ck HG3 hE__; clear hE__; clear hg__ hb__ he__; simp only [PT])
 | ((with_reducible refine sl 5 ?_); (refine z0a rfl 4 (.tmp 2) rfl #[.bool big] rfl ?_); intro w3 g5 he__ le_g5 lt_g5 hg__ hb__; have HG5 := Hd hg__; have hE__ := cU HB bup hb__; replace HB := ck HB hE__; replace HG3 := ck HG3 hE__; replace HG4 := ck HG4 hE__; clear hE__; clear hg__ hb__ he__; simp only [PT])
 | ((with_reducible refine sl 6 ?_); (refine z09 rfl 27 rfl (.agg #[.int .i64 0, .bool false, .int .u32 0, .int .i64 0, .int .u32 0, .int .i64 0, .int .u64 0, .int .u32 0, .slice none 0 0, .slice none 0 0, .slice none 0 0]) #[.int .i64 0, .bool false, .int .u32 0, .int .i64 0, .int .u32 0, .int .i64 0, .int .u64 0, .int .u32 0, .slice none 0 0, .slice none 0 0, .slice none 0 0] 11 (by kernel_rfl) rfl ?_); intro w4 g6 he__ le_g6 lt_g6 hg__ hb__; have HG6 := Hd hg__; have hE__ := cU HB bup hb__; replace HB := ck HB hE__; replace HG3 := ck HG3 hE__; replace HG4 := ck HG4 hE__; replace HG5 := ck HG5 hE__; clear hE__; clear hg__ hb__ he__; simp only [PT])
 | ((with_reducible refine sl 19 ?_); (refine z1h rfl (.tmp 16) (.tmp 18) rfl _ _ rfl rfl (.int .i64 4) need_at4 ?_); simp only [PT])
 | ((with_reducible refine sl 18 ?_); (refine z01 rfl 3 (.tmp 17) rfl g3 0 rfl (.int .i64 4) HG3.out rfl Try.underlying3 rfl ?_); simp only [PT])
 | ((with_reducible refine sl 20 ?_); (refine z01 rfl 24 (.tmp 4) rfl g4 0 rfl (.slice ad n c) HG4.out rfl Try.underlying24 rfl ?_); simp only [PT])
 | ((with_reducible refine sl 30 ?_); (refine z01 rfl 3 (.tmp 29) rfl g3 0 rfl (.int .i64 4) HG3.out rfl Try.underlying3 rfl ?_); simp only [PT])
 | ((with_reducible refine sl 26 ?_); (refine z01 rfl 24 (.tmp 4) rfl g4 0 rfl (.slice ad n c) HG4.out rfl Try.underlying24 rfl ?_); simp only [PT])
 | ((with_reducible refine sl 24 ?_); (refine z05 rfl 27 (.tmp 3) rfl g3 0 rfl [.int .i64 4, .bool false, .int .u32 0, .int .i64 0, .int .u32 0, .int .i64 0, .int .u64 0, .int .u32 0, .slice none 0 0, .slice none 0 0, .slice none 0 0] _ (z00 HG3.out) Try.underlying27 rfl HBI.out ?_); simp only [PT])
 | ((with_reducible show wpList _ _ _ (⟨none, .store _ (.tmp 6) (.tmp 24), _, _, _, _⟩ :: _) _ _); (refine z02 rfl 27 (.tmp 6) (.tmp 24) rfl g6 #[.int .i64 4, .bool false, .int .u32 0, .int .i64 0, .int .u32 0, .int .i64 0, .int .u64 0, .int .u32 0, .slice none 0 0, .slice none 0 0, .slice none 0 0] rfl rfl HG6.out HBI.out rfl (all1 _ rfl) ?_); intro w9 hs__ hr__; replace HB := cg HB bup hr__ (by omega); replace HG3 := cg HG3 bup hr__ (by omega); clear HG6; have HG6 := Hd hs__; clear hs__ hr__; simp only [PT]))
  all_goals
    (try simp only [Exit.inBlock, Exit.then, Exit.noGoto_ret])
    refine z04 (cs := [.int .i64 4, .bool false, .int .u32 0, .int .i64 0, .int .u32 0, .int .i64 0, .int .u64 0, .int .u32 0, .slice none 0 0, .slice none 0 0, .slice none 0 0]) rfl rfl (z00 HG6.out) Try.underlying27 rfl HBI.out rfl ?_
    exact ⟨⟨4, false, 0, 0, 0, 0, 0, 0, none, 0, 0, [], none, 0, 0, [], none, 0, 0, []⟩, none, 0, 0, false, rfl, by rw [HO.out]; rfl, fun x r h => absurd (HO.out.symm.trans h) (by simp), HB.out⟩
theorem open4_ok (ad : Option Addr) (n c : Nat) (l : List UInt8) (big : Bool) (w : World) (hs : Bs w ad n c l) (hn : n ≤ 1048576) (h : 4 ≤ n) :
    Calls Try.prog 59 #[.agg #[.int .i64 4, .bool false, .int .u32 0, .int .i64 0, .int .u32 0, .int .i64 0, .int .u64 0, .int .u32 0, .slice none 0 0, .slice none 0 0, .slice none 0 0], .slice ad n c, .bool big] w (OpenR ad n c l (openP 4 0 l big) w) := by
  have HB := Hd (Below.refl w.heap.size w)
  have HS := Hd hs
  have HBI := Hd z0d
  have hc := hs.le
  have HN := Hd hs.len
  clear hs
  have hi : ¬ (n : Int) < 4 := by omega
  obtain ⟨V0, hV0⟩ : ∃ x, x = getN ((l.drop 0).take 4) big := ⟨_, rfl⟩
  have bV0 : V0 < 4294967296 := by rw [hV0]; exact w4_lt big l 0
  have HV0 := Hd hV0
  clear hV0
  obtain ⟨m, hm⟩ : ∃ m, m = n - 4 := ⟨_, rfl⟩
  obtain ⟨cc, hcc⟩ : ∃ m, m = c - 4 := ⟨_, rfl⟩
  obtain ⟨R, hR⟩ : ∃ R, R = l.drop 4 := ⟨_, rfl⟩
  have HM := Hd hm.symm
  have HCC := Hd hcc.symm
  have hm1 : m + 4 ≤ n := by omega
  have hm2 : n ≤ m + 4 := by omega
  have hm3 : m ≤ cc := by omega
  have hRl : R.length = m := by rw [hR, List.length_drop, ← HN.out, hm]
  have HRL := Hd hRl
  have HRR : Hid ((l.drop 4).take m = R) := Hd (by rw [← hR]; exact List.take_of_length_le (by omega))
  have HR := Hd hR
  clear hm hcc hR hRl
  obtain ⟨k, hk⟩ : ∃ k, k = min V0 m := ⟨_, rfl⟩
  obtain ⟨D, hD⟩ : ∃ D, D = R.take V0 := ⟨_, rfl⟩
  have HDD : Hid ((R.drop 0).take k = D) := Hd (by
    have := HRL.out
    rw [hD, List.drop_zero, hk]
    by_cases hv : V0 ≤ m
    · rw [Nat.min_eq_left hv]
    · rw [Nat.min_eq_right (by omega), List.take_of_length_le (by omega), List.take_of_length_le (by omega)])
  have HO : Hid (openP 4 0 l big = some ({ noneB with kind := 4, len := V0, data := D }, [])) := Hd (by rw [hD, HR.out, HV0.out]; have := HN.out; unfold openP; simp [show ¬ l.length < 4 by omega, w4])
  have e1 : IntKind.u32.wrap (V0 : Int) = (V0 : Int) := by rw [IntKind.wrap_u32]; omega
  have e2 : IntKind.u64.wrap (V0 : Int) = (V0 : Int) := by rw [IntKind.wrap_u64]; omega
  have e3 : IntKind.u64.wrap (m : Int) = (m : Int) := by rw [IntKind.wrap_u64]; omega
  have hk2 : k ≤ m := by omega
  have hkk : (V0 < m ∧ (V0 : Int) < (m : Int) ∧ ¬ (m : Int) < (V0 : Int) ∧ V0 = k) ∨ (¬ V0 < m ∧ ¬ (V0 : Int) < (m : Int) ∧ m = k) := by omega
  clear HN hk hD
  rcases hkk with ⟨k1, k2, k3, k4⟩ | ⟨k1, k2, k4⟩
  · subst k4
    go_enter Try.func59, Try.ntmps59
    go_wp2_with (first
 | ((with_reducible refine sl 3 ?_); (refine z0a rfl 27 (.tmp 0) rfl #[.int .i64 4, .bool false, .int .u32 0, .int .i64 0, .int .u32 0, .int .i64 0, .int .u64 0, .int .u32 0, .slice none 0 0, .slice none 0 0, .slice none 0 0] rfl ?_); intro w1 g3 he__ le_g3 lt_g3 hg__ hb__; have HG3 := Hd hg__; have hE__ := cU HB bup hb__; replace HB := ck HB hE__; clear hE__; clear hg__ hb__ he__; simp only [PT])
 | ((with_reducible refine sl 4 ?_); (refine z0a rfl 24 (.tmp 1) rfl #[.slice ad n c] rfl ?_); intro w2 g4 he__ le_g4 lt_g4 hg__ hb__; have HG4 := Hd hg__; have hE__ := cU HB bup hb__; replace HB := ck HB hE__; replace HG3 := ck HG3 hE__; clear hE__; clear hg__ hb__ he__; simp only [PT])
 | ((with_reducible refine sl 5 ?_); (refine z0a rfl 4 (.tmp 2) rfl #[.bool big] rfl ?_); intro w3 g5 he__ le_g5 lt_g5 hg__ hb__; have HG5 := Hd hg__; have hE__ := cU HB bup hb__; replace HB := ck HB hE__; replace HG3 := ck HG3 hE__; replace HG4 := ck HG4 hE__; clear hE__; clear hg__ hb__ he__; simp only [PT])
 | ((with_reducible refine sl 6 ?_); (refine z09 rfl 27 rfl (.agg #[.int .i64 0, .bool false, .int .u32 0, .int .i64 0, .int .u32 0, .int .i64 0, .int .u64 0, .int .u32 0, .slice none 0 0, .slice none 0 0, .slice none 0 0]) #[.int .i64 0, .bool false, .int .u32 0, .int .i64 0, .int .u32 0, .int .i64 0, .int .u64 0, .int .u32 0, .slice none 0 0, .slice none 0 0, .slice none 0 0] 11 (by kernel_rfl) rfl ?_); intro w4 g6 he__ le_g6 lt_g6 hg__ hb__; have HG6 := Hd hg__; have hE__ := cU HB bup hb__; replace HB := ck HB hE__; replace HG3 := ck HG3 hE__; replace HG4 := ck HG4 hE__; replace HG5 := ck HG5 hE__; clear hE__; clear hg__ hb__ he__; simp only [PT])
 | ((with_reducible refine sl 19 ?_); (refine z1h rfl (.tmp 16) (.tmp 18) rfl _ _ rfl rfl (.int .i64 4) need_at4 ?_); simp only [PT])
 | ((with_reducible refine sl 18 ?_); (refine z01 rfl 3 (.tmp 17) rfl g3 0 rfl (.int .i64 4) HG3.out rfl Try.underlying3 rfl ?_); simp only [PT])
 | ((with_reducible refine sl 20 ?_); (refine z01 rfl 24 (.tmp 4) rfl g4 0 rfl (.slice ad n c) HG4.out rfl Try.underlying24 rfl ?_); simp only [PT])
 | ((with_reducible refine sl 30 ?_); (refine z01 rfl 3 (.tmp 29) rfl g3 0 rfl (.int .i64 4) HG3.out rfl Try.underlying3 rfl ?_); simp only [PT])
 | ((with_reducible refine sl 26 ?_); (refine z01 rfl 24 (.tmp 4) rfl g4 0 rfl (.slice ad n c) HG4.out rfl Try.underlying24 rfl ?_); simp only [PT])
 | ((with_reducible refine sl 28 ?_); (refine z0b elB rfl (.tmp 26) (some (.tmp 27)) none rfl rfl 4 n (.inr ⟨.i64, rfl⟩) (.inl ⟨rfl, rfl⟩) (by omega) (by omega) m cc HM.out HCC.out ?_); intro ad28 had28; have HRG := Hd (show ∀ w0, Bs w0 ad n c l → Bs w0 ad28 m cc R from fun w0 h0 => Bs.partG h0 4 n m cc (by omega) (Nat.le_refl _) HM.out HCC.out ad28 had28 R HRR.out); have HRW := Hd (HRG.out _ HS.out); clear had28; simp only [PT])
 | (go_at_call 82; (with_reducible show Calls _ _ #[Value.int .i64 0, Value.int .i64 4, _, _] _ _); (refine (z19 g4 g5 ad n c l big 0 4 (by omega) (by omega) _ (by exact HG4.out) (by exact HG5.out) (HS.out.below (HB.out.trans (Below.mono bup HB.out.size)))).mono ?_); intro e w5 hr; rw [← HV0.out] at hr; obtain ⟨rfl, hb__⟩ := hr; have hE__ := cU HB bup hb__; replace HB := ck HB hE__; replace HG3 := ck HG3 hE__; replace HG4 := ck HG4 hE__; replace HG5 := ck HG5 hE__; replace HG6 := ck HG6 hE__; clear hE__; clear hb__)
 | ((with_reducible show wpList _ _ _ (⟨none, .store _ (.tmp 103) (.tmp 102), _, _, _, _⟩ :: _) _ _); (refine z0c rfl 22 (.tmp 103) (.tmp 102) rfl g3 7 (.int .u32 (V0 : Int)) rfl rfl rfl HG3.out (by simp) (by kernel_rfl) #[.int .i64 4, .bool false, .int .u32 0, .int .i64 0, .int .u32 0, .int .i64 0, .int .u64 0, .int .u32 (V0 : Int), .slice none 0 0, .slice none 0 0, .slice none 0 0] rfl ?_); intro w7 hs__ hr__; replace HB := cg HB bup hr__ (by omega); replace HG4 := cg HG4 bup hr__ (by omega); replace HG5 := cg HG5 bup hr__ (by omega); replace HG6 := cg HG6 bup hr__ (by omega); clear HG3; have HG3 := Hd hs__; clear hs__ hr__; simp only [PT])
 | ((with_reducible refine sl 109 ?_); (refine z01 rfl 22 (.tmp 108) rfl g3 7 rfl (.int .u32 (V0 : Int)) HG3.out rfl Try.underlying22 rfl ?_); simp only [PT])
 | ((with_reducible refine sl 112 ?_); (refine z0b elB rfl (.tmp 104) none (some (.tmp 111)) rfl rfl 0 V0 (.inl ⟨rfl, rfl⟩) (.inr ⟨.u64, rfl⟩) (Nat.zero_le _) (by omega) V0 cc rfl rfl ?_); intro ad112 had112; have HDW := Hd (Bs.partG HRW.out 0 V0 V0 cc (Nat.zero_le _) (by omega) rfl rfl ad112 had112 D HDD.out); clear had112; simp only [PT])
 | (go_at_call 68; (with_reducible show Calls _ _ #[Value.slice ad112 V0 cc] _ _); (refine (z2d ad112 V0 cc D _ (HDW.out.below (HB.out.trans (Below.mono bup HB.out.size))) (by omega)).mono ?_); intro e w6 hr; unfold RetB at hr; obtain ⟨adD, cD, rfl, hoD, hb__⟩ := hr; have HD := Hd (z0r (base' := g6 + 1) hoD (lt_of_block (by exact HG6.out))); have hE__ := cU HB bup hb__; replace HB := ck HB hE__; replace HG3 := ck HG3 hE__; replace HG4 := ck HG4 hE__; replace HG5 := ck HG5 hE__; replace HG6 := ck HG6 hE__; clear hE__; clear hb__ hoD)
 | ((with_reducible show wpList _ _ _ (⟨none, .store _ (.tmp 114) (.tmp 113), _, _, _, _⟩ :: _) _ _); (refine z0c rfl 24 (.tmp 114) (.tmp 113) rfl g3 8 (.slice adD D.length cD) rfl rfl rfl HG3.out (by simp) (by kernel_rfl) #[.int .i64 4, .bool false, .int .u32 0, .int .i64 0, .int .u32 0, .int .i64 0, .int .u64 0, .int .u32 (V0 : Int), .slice adD D.length cD, .slice none 0 0, .slice none 0 0] rfl ?_); intro w8 hs__ hr__; replace HB := cg HB bup hr__ (by omega); replace HG4 := cg HG4 bup hr__ (by omega); replace HG5 := cg HG5 bup hr__ (by omega); replace HG6 := cg HG6 bup hr__ (by omega); replace HD := cg HD bup hr__ (by omega); clear HG3; have HG3 := Hd hs__; clear hs__ hr__; simp only [PT])
 | ((with_reducible refine sl 146 ?_); (refine z05 rfl 27 (.tmp 3) rfl g3 0 rfl [.int .i64 4, .bool false, .int .u32 0, .int .i64 0, .int .u32 0, .int .i64 0, .int .u64 0, .int .u32 (V0 : Int), .slice adD D.length cD, .slice none 0 0, .slice none 0 0] _ (z00 HG3.out) Try.underlying27 rfl HBI.out ?_); simp only [PT])
 | ((with_reducible show wpList _ _ _ (⟨none, .store _ (.tmp 6) (.tmp 146), _, _, _, _⟩ :: _) _ _); (refine z02 rfl 27 (.tmp 6) (.tmp 146) rfl g6 #[.int .i64 4, .bool false, .int .u32 0, .int .i64 0, .int .u32 0, .int .i64 0, .int .u64 0, .int .u32 (V0 : Int), .slice adD D.length cD, .slice none 0 0, .slice none 0 0] rfl rfl HG6.out HBI.out rfl (all1 _ rfl) ?_); intro w9 hs__ hr__; replace HB := cg HB bup hr__ (by omega); replace HG3 := cg HG3 bup hr__ (by omega); replace HD := cg HD bup hr__ (by omega); clear HG6; have HG6 := Hd hs__; clear hs__ hr__; simp only [PT]))
    all_goals
      (try simp only [Exit.inBlock, Exit.then, Exit.noGoto_ret])
      refine z04 (cs := [.int .i64 4, .bool false, .int .u32 0, .int .i64 0, .int .u32 0, .int .i64 0, .int .u64 0, .int .u32 (V0 : Int), .slice adD D.length cD, .slice none 0 0, .slice none 0 0]) rfl rfl (z00 HG6.out) Try.underlying27 rfl HBI.out rfl ?_
      refine ⟨⟨4, false, 0, 0, 0, 0, 0, V0, adD, D.length, cD, D, none, 0, 0, [], none, 0, 0, []⟩, none, 0, 0, true, rfl, by rw [HO.out]; rfl, fun x r h => ?_, HB.out⟩
      have hh := HO.out.symm.trans h
      simp only [Option.some.injEq, Prod.mk.injEq] at hh
      obtain ⟨rfl, rfl⟩ := hh
      refine ⟨rfl, fun _ _ => Sl.nil _ 1, z0r HD.out (by omega), OwnOps.nil _ _ _, OwnOps.nil _ _ _⟩
  · subst k4
    go_enter Try.func59, Try.ntmps59
    go_wp2_with (first
 | ((with_reducible refine sl 3 ?_); (refine z0a rfl 27 (.tmp 0) rfl #[.int .i64 4, .bool false, .int .u32 0, .int .i64 0, .int .u32 0, .int .i64 0, .int .u64 0, .int .u32 0, .slice none 0 0, .slice none 0 0, .slice none 0 0] rfl ?_); intro w1 g3 he__ le_g3 lt_g3 hg__ hb__; have HG3 := Hd hg__; have hE__ := cU HB bup hb__; replace HB := ck HB hE__; clear hE__; clear hg__ hb__ he__; simp only [PT])
 | ((with_reducible refine sl 4 ?_); (refine z0a rfl 24 (.tmp 1) rfl #[.slice ad n c] rfl ?_); intro w2 g4 he__ le_g4 lt_g4 hg__ hb__; have HG4 := Hd hg__; have hE__ := cU HB bup hb__; replace HB := ck HB hE__; replace HG3 := ck HG3 hE__; clear hE__; clear hg__ hb__ he__; simp only [PT])
 | ((with_reducible refine sl 5 ?_); (refine z0a rfl 4 (.tmp 2) rfl #[.bool big] rfl ?_); intro w3 g5 he__ le_g5 lt_g5 hg__ hb__; have HG5 := Hd hg__; have hE__ := cU HB bup hb__; replace HB := ck HB hE__; replace HG3 := ck HG3 hE__; replace HG4 := ck HG4 hE__; clear hE__; clear hg__ hb__ he__; simp only [PT])
 | ((with_reducible refine sl 6 ?_); (refine z09 rfl 27 rfl (.agg #[.int .i64 0, .bool false, .int .u32 0, .int .i64 0, .int .u32 0, .int .i64 0, .int .u64 0, .int .u32 0, .slice none 0 0, .slice none 0 0, .slice none 0 0]) #[.int .i64 0, .bool false, .int .u32 0, .int .i64 0, .int .u32 0, .int .i64 0, .int .u64 0, .int .u32 0, .slice none 0 0, .slice none 0 0, .slice none 0 0] 11 (by kernel_rfl) rfl ?_); intro w4 g6 he__ le_g6 lt_g6 hg__ hb__; have HG6 := Hd hg__; have hE__ := cU HB bup hb__; replace HB := ck HB hE__; replace HG3 := ck HG3 hE__; replace HG4 := ck HG4 hE__; replace HG5 := ck HG5 hE__; clear hE__; clear hg__ hb__ he__; simp only [PT])
 | ((with_reducible refine sl 19 ?_); (refine z1h rfl (.tmp 16) (.tmp 18) rfl _ _ rfl rfl (.int .i64 4) need_at4 ?_); simp only [PT])
 | ((with_reducible refine sl 18 ?_); (refine z01 rfl 3 (.tmp 17) rfl g3 0 rfl (.int .i64 4) HG3.out rfl Try.underlying3 rfl ?_); simp only [PT])
 | ((with_reducible refine sl 20 ?_); (refine z01 rfl 24 (.tmp 4) rfl g4 0 rfl (.slice ad n c) HG4.out rfl Try.underlying24 rfl ?_); simp only [PT])
 | ((with_reducible refine sl 30 ?_); (refine z01 rfl 3 (.tmp 29) rfl g3 0 rfl (.int .i64 4) HG3.out rfl Try.underlying3 rfl ?_); simp only [PT])
 | ((with_reducible refine sl 26 ?_); (refine z01 rfl 24 (.tmp 4) rfl g4 0 rfl (.slice ad n c) HG4.out rfl Try.underlying24 rfl ?_); simp only [PT])
 | ((with_reducible refine sl 28 ?_); (refine z0b elB rfl (.tmp 26) (some (.tmp 27)) none rfl rfl 4 n (.inr ⟨.i64, rfl⟩) (.inl ⟨rfl, rfl⟩) (by omega) (by omega) m cc HM.out HCC.out ?_); intro ad28 had28; have HRG := Hd (show ∀ w0, Bs w0 ad n c l → Bs w0 ad28 m cc R from fun w0 h0 => Bs.partG h0 4 n m cc (by omega) (Nat.le_refl _) HM.out HCC.out ad28 had28 R HRR.out); have HRW := Hd (HRG.out _ HS.out); clear had28; simp only [PT])
 | (go_at_call 82; (with_reducible show Calls _ _ #[Value.int .i64 0, Value.int .i64 4, _, _] _ _); (refine (z19 g4 g5 ad n c l big 0 4 (by omega) (by omega) _ (by exact HG4.out) (by exact HG5.out) (HS.out.below (HB.out.trans (Below.mono bup HB.out.size)))).mono ?_); intro e w5 hr; rw [← HV0.out] at hr; obtain ⟨rfl, hb__⟩ := hr; have hE__ := cU HB bup hb__; replace HB := ck HB hE__; replace HG3 := ck HG3 hE__; replace HG4 := ck HG4 hE__; replace HG5 := ck HG5 hE__; replace HG6 := ck HG6 hE__; clear hE__; clear hb__)
 | ((with_reducible show wpList _ _ _ (⟨none, .store _ (.tmp 103) (.tmp 102), _, _, _, _⟩ :: _) _ _); (refine z0c rfl 22 (.tmp 103) (.tmp 102) rfl g3 7 (.int .u32 (V0 : Int)) rfl rfl rfl HG3.out (by simp) (by kernel_rfl) #[.int .i64 4, .bool false, .int .u32 0, .int .i64 0, .int .u32 0, .int .i64 0, .int .u64 0, .int .u32 (V0 : Int), .slice none 0 0, .slice none 0 0, .slice none 0 0] rfl ?_); intro w7 hs__ hr__; replace HB := cg HB bup hr__ (by omega); replace HG4 := cg HG4 bup hr__ (by omega); replace HG5 := cg HG5 bup hr__ (by omega); replace HG6 := cg HG6 bup hr__ (by omega); clear HG3; have HG3 := Hd hs__; clear hs__ hr__; simp only [PT])
 | ((with_reducible refine sl 109 ?_); (refine z01 rfl 22 (.tmp 108) rfl g3 7 rfl (.int .u32 (V0 : Int)) HG3.out rfl Try.underlying22 rfl ?_); simp only [PT])
 | ((with_reducible refine sl 112 ?_); (refine z0b elB rfl (.tmp 104) none (some (.tmp 111)) rfl rfl 0 m (.inl ⟨rfl, rfl⟩) (.inr ⟨.u64, rfl⟩) (Nat.zero_le _) (by omega) m cc rfl rfl ?_); intro ad112 had112; have HDW := Hd (Bs.partG HRW.out 0 m m cc (Nat.zero_le _) (by omega) rfl rfl ad112 had112 D HDD.out); clear had112; simp only [PT])
 | (go_at_call 68; (with_reducible show Calls _ _ #[Value.slice ad112 m cc] _ _); (refine (z2d ad112 m cc D _ (HDW.out.below (HB.out.trans (Below.mono bup HB.out.size))) (by omega)).mono ?_); intro e w6 hr; unfold RetB at hr; obtain ⟨adD, cD, rfl, hoD, hb__⟩ := hr; have HD := Hd (z0r (base' := g6 + 1) hoD (lt_of_block (by exact HG6.out))); have hE__ := cU HB bup hb__; replace HB := ck HB hE__; replace HG3 := ck HG3 hE__; replace HG4 := ck HG4 hE__; replace HG5 := ck HG5 hE__; replace HG6 := ck HG6 hE__; clear hE__; clear hb__ hoD)
 | ((with_reducible show wpList _ _ _ (⟨none, .store _ (.tmp 114) (.tmp 113), _, _, _, _⟩ :: _) _ _); (refine z0c rfl 24 (.tmp 114) (.tmp 113) rfl g3 8 (.slice adD D.length cD) rfl rfl rfl HG3.out (by simp) (by kernel_rfl) #[.int .i64 4, .bool false, .int .u32 0, .int .i64 0, .int .u32 0, .int .i64 0, .int .u64 0, .int .u32 (V0 : Int), .slice adD D.length cD, .slice none 0 0, .slice none 0 0] rfl ?_); intro w8 hs__ hr__; replace HB := cg HB bup hr__ (by omega); replace HG4 := cg HG4 bup hr__ (by omega); replace HG5 := cg HG5 bup hr__ (by omega); replace HG6 := cg HG6 bup hr__ (by omega); replace HD := cg HD bup hr__ (by omega); clear HG3; have HG3 := Hd hs__; clear hs__ hr__; simp only [PT])
 | ((with_reducible refine sl 146 ?_); (refine z05 rfl 27 (.tmp 3) rfl g3 0 rfl [.int .i64 4, .bool false, .int .u32 0, .int .i64 0, .int .u32 0, .int .i64 0, .int .u64 0, .int .u32 (V0 : Int), .slice adD D.length cD, .slice none 0 0, .slice none 0 0] _ (z00 HG3.out) Try.underlying27 rfl HBI.out ?_); simp only [PT])
 | ((with_reducible show wpList _ _ _ (⟨none, .store _ (.tmp 6) (.tmp 146), _, _, _, _⟩ :: _) _ _); (refine z02 rfl 27 (.tmp 6) (.tmp 146) rfl g6 #[.int .i64 4, .bool false, .int .u32 0, .int .i64 0, .int .u32 0, .int .i64 0, .int .u64 0, .int .u32 (V0 : Int), .slice adD D.length cD, .slice none 0 0, .slice none 0 0] rfl rfl HG6.out HBI.out rfl (all1 _ rfl) ?_); intro w9 hs__ hr__; replace HB := cg HB bup hr__ (by omega); replace HG3 := cg HG3 bup hr__ (by omega); replace HD := cg HD bup hr__ (by omega); clear HG6; have HG6 := Hd hs__; clear hs__ hr__; simp only [PT]))
    all_goals
      (try simp only [Exit.inBlock, Exit.then, Exit.noGoto_ret])
      refine z04 (cs := [.int .i64 4, .bool false, .int .u32 0, .int .i64 0, .int .u32 0, .int .i64 0, .int .u64 0, .int .u32 (V0 : Int), .slice adD D.length cD, .slice none 0 0, .slice none 0 0]) rfl rfl (z00 HG6.out) Try.underlying27 rfl HBI.out rfl ?_
      refine ⟨⟨4, false, 0, 0, 0, 0, 0, V0, adD, D.length, cD, D, none, 0, 0, [], none, 0, 0, []⟩, none, 0, 0, true, rfl, by rw [HO.out]; rfl, fun x r h => ?_, HB.out⟩
      have hh := HO.out.symm.trans h
      simp only [Option.some.injEq, Prod.mk.injEq] at hh
      obtain ⟨rfl, rfl⟩ := hh
      refine ⟨rfl, fun _ _ => Sl.nil _ 1, z0r HD.out (by omega), OwnOps.nil _ _ _, OwnOps.nil _ _ _⟩
theorem open3_short (ad : Option Addr) (n c : Nat) (l : List UInt8) (big : Bool) (w : World) (hs : Bs w ad n c l) (hn : n ≤ 1048576) (h : n < 20) :
    Calls Try.prog 59 #[.agg #[.int .i64 3, .bool false, .int .u32 0, .int .i64 0, .int .u32 0, .int .i64 0, .int .u64 0, .int .u32 0, .slice none 0 0, .slice none 0 0, .slice none 0 0], .slice ad n c, .bool big] w (OpenR ad n c l (openP 3 0 l big) w) := by
  have HB := Hd (Below.refl w.heap.size w)
  have HS := Hd hs
  have HBI := Hd z0d
  have hc := hs.le
  have HN := Hd hs.len
  clear hs
  have hi : (n : Int) < 20 := by omega
  have HO := Hd (show openP 3 0 l big = none from by have := HN.out; unfold openP; simp [show l.length < 20 by omega])
  clear h
  go_enter Try.func59, Try.ntmps59
  go_wp2_with (first
 | ((with_reducible refine sl 3 ?_); (refine z0a rfl 27 (.tmp 0) rfl #[.int .i64 3, .bool false, .int .u32 0, .int .i64 0, .int .u32 0, .int .i64 0, .int .u64 0, .int .u32 0, .slice none 0 0, .slice none 0 0, .slice none 0 0] rfl ?_); intro w1 g3 he__ le_g3 lt_g3 hg__ hb__; have HG3 := Hd hg__; have hE__ := cU HB bup hb__; replace HB := ck HB hE__; clear hE__; clear hg__ hb__ he__; simp only [PT])
 | ((with_reducible refine sl 4 ?_); (refine z0a rfl 24 (.tmp 1) rfl #[.slice ad n c] rfl ?_); intro w2 g4 he__ le_g4 lt_g4 hg__ hb__; have HG4 := Hd hg__; have hE__ := cU HB bup hb__; replace HB := ck HB hE__; replace HG3 := ck HG3 hE__; clear hE__; clear hg__ hb__ he__; simp only [PT])
 | ((with_reducible refine sl 5 ?_); (refine z0a rfl 4 (.tmp 2) rfl #[.bool big] rfl ?_); intro w3 g5 he__ le_g5 lt_g5 hg__ hb__; have HG5 := Hd hg__; have hE__ := cU HB bup hb__; replace HB := ck HB hE__; replace HG3 := ck HG3 hE__; replace HG4 := ck HG4 hE__; clear hE__; clear hg__ hb__ he__; simp only [PT])
 | ((with_reducible refine sl 6 ?_); (refine z09 rfl 27 rfl (.agg #[.int .i64 0, .bool false, .int .u32 0, .int .i64 0, .int .u32 0, .int .i64 0, .int .u64 0, .int .u32 0, .slice none 0 0, .slice none 0 0, .slice none 0 0]) #[.int .i64 0, .bool false, .int .u32 0, .int .i64 0, .int .u32 0, .int .i64 0, .int .u64 0, .int .u32 0, .slice none 0 0, .slice none 0 0, .slice none 0 0] 11 (by kernel_rfl) rfl ?_); intro w4 g6 he__ le_g6 lt_g6 hg__ hb__; have HG6 := Hd hg__; have hE__ := cU HB bup hb__; replace HB := ck HB hE__; replace HG3 := ck HG3 hE__; replace HG4 := ck HG4 hE__; replace HG5 := ck HG5 hE__; clear hE__; clear hg__ hb__ he__; simp only [PT])
 | ((with_reducible refine sl 19 ?_); (refine z1h rfl (.tmp 16) (.tmp 18) rfl _ _ rfl rfl (.int .i64 20) need_at3 ?_); simp only [PT])
 | ((with_reducible refine sl 18 ?_); (refine z01 rfl 3 (.tmp 17) rfl g3 0 rfl (.int .i64 3) HG3.out rfl Try.underlying3 rfl ?_); simp only [PT])
 | ((with_reducible refine sl 20 ?_); (refine z01 rfl 24 (.tmp 4) rfl g4 0 rfl (.slice ad n c) HG4.out rfl Try.underlying24 rfl ?_); simp only [PT])
 | ((with_reducible refine sl 30 ?_); (refine z01 rfl 3 (.tmp 29) rfl g3 0 rfl (.int .i64 3) HG3.out rfl Try.underlying3 rfl ?_); simp only [PT])
 | ((with_reducible refine sl 26 ?_); (refine z01 rfl 24 (.tmp 4) rfl g4 0 rfl (.slice ad n c) HG4.out rfl Try.underlying24 rfl ?_); simp only [PT])
 | ((with_reducible refine sl 24 ?_); (refine z05 rfl 27 (.tmp 3) rfl g3 0 rfl [.int .i64 3, .bool false, .int .u32 0, .int .i64 0, .int .u32 0, .int .i64 0, .int .u64 0, .int .u32 0, .slice none 0 0, .slice none 0 0, .slice none 0 0] _ (z00 HG3.out) Try.underlying27 rfl HBI.out ?_); simp only [PT])
 | ((with_reducible show wpList _ _ _ (⟨none, .store _ (.tmp 6) (.tmp 24), _, _, _, _⟩ :: _) _ _); (refine z02 rfl 27 (.tmp 6) (.tmp 24) rfl g6 #[.int .i64 3, .bool false, .int .u32 0, .int .i64 0, .int .u32 0, .int .i64 0, .int .u64 0, .int .u32 0, .slice none 0 0, .slice none 0 0, .slice none 0 0] rfl rfl HG6.out HBI.out rfl (all1 _ rfl) ?_); intro w9 hs__ hr__; replace HB := cg HB bup hr__ (by omega); replace HG3 := cg HG3 bup hr__ (by omega); clear HG6; have HG6 := Hd hs__; clear hs__ hr__; simp only [PT]))
  all_goals
    (try simp only [Exit.inBlock, Exit.then, Exit.noGoto_ret])
    refine z04 (cs := [.int .i64 3, .bool false, .int .u32 0, .int .i64 0, .int .u32 0, .int .i64 0, .int .u64 0, .int .u32 0, .slice none 0 0, .slice none 0 0, .slice none 0 0]) rfl rfl (z00 HG6.out) Try.underlying27 rfl HBI.out rfl ?_
    exact ⟨⟨3, false, 0, 0, 0, 0, 0, 0, none, 0, 0, [], none, 0, 0, [], none, 0, 0, []⟩, none, 0, 0, false, rfl, by rw [HO.out]; rfl, fun x r h => absurd (HO.out.symm.trans h) (by simp), HB.out⟩
theorem open3_short2 (ad : Option Addr) (n c : Nat) (l : List UInt8) (big : Bool) (w : World) (hs : Bs w ad n c l) (hn : n ≤ 1048576) (h : 20 ≤ n) (h2 : n - 20 < w4 big l 12) :
    Calls Try.prog 59 #[.agg #[.int .i64 3, .bool false, .int .u32 0, .int .i64 0, .int .u32 0, .int .i64 0, .int .u64 0, .int .u32 0, .slice none 0 0, .slice none 0 0, .slice none 0 0], .slice ad n c, .bool big] w (OpenR ad n c l (openP 3 0 l big) w) := by
  have HB := Hd (Below.refl w.heap.size w)
  have HS := Hd hs
  have HBI := Hd z0d
  have hc := hs.le
  have HN := Hd hs.len
  clear hs
  have hi : ¬ (n : Int) < 20 := by omega
  obtain ⟨V0, hV0⟩ : ∃ x, x = getN ((l.drop 0).take 4) big := ⟨_, rfl⟩
  have bV0 : V0 < 4294967296 := by rw [hV0]; exact w4_lt big l 0
  have HV0 := Hd hV0
  clear hV0
  obtain ⟨V4, hV4⟩ : ∃ x, x = getN ((l.drop 4).take 4) big := ⟨_, rfl⟩
  have bV4 : V4 < 4294967296 := by rw [hV4]; exact w4_lt big l 4
  have HV4 := Hd hV4
  clear hV4
  obtain ⟨V8, hV8⟩ : ∃ x, x = getN ((l.drop 8).take 4) big := ⟨_, rfl⟩
  have bV8 : V8 < 4294967296 := by rw [hV8]; exact w4_lt big l 8
  have HV8 := Hd hV8
  clear hV8
  obtain ⟨V12, hV12⟩ : ∃ x, x = getN ((l.drop 12).take 4) big := ⟨_, rfl⟩
  have bV12 : V12 < 4294967296 := by rw [hV12]; exact w4_lt big l 12
  have HV12 := Hd hV12
  clear hV12
  obtain ⟨V16, hV16⟩ : ∃ x, x = getN ((l.drop 16).take 4) big := ⟨_, rfl⟩
  have bV16 : V16 < 4294967296 := by rw [hV16]; exact w4_lt big l 16
  have HV16 := Hd hV16
  clear hV16
  have e0 : IntKind.i64.wrap (V0 : Int) = (V0 : Int) := by rw [IntKind.wrap_i64]; omega
  obtain ⟨T, hT⟩ : ∃ T, T = V4 * 4294967296 + V8 := ⟨_, rfl⟩
  have hT2 : T < 18446744073709551616 := by omega
  have hor := or_word2 V4 V8 bV4 bV8
  rw [← hT] at hor
  have HT := Hd hT
  clear hT
  have e1 : IntKind.i64.wrap (V12 : Int) = (V12 : Int) := by rw [IntKind.wrap_i64]; omega
  have e2 : IntKind.u32.wrap (V16 : Int) = (V16 : Int) := by rw [IntKind.wrap_u32]; omega
  obtain ⟨m, hm⟩ : ∃ m, m = n - 20 := ⟨_, rfl⟩
  obtain ⟨cc, hcc⟩ : ∃ m, m = c - 20 := ⟨_, rfl⟩
  obtain ⟨R, hR⟩ : ∃ R, R = l.drop 20 := ⟨_, rfl⟩
  have HM := Hd hm.symm
  have HCC := Hd hcc.symm
  have hm1 : m + 20 ≤ n := by omega
  have hm2 : n ≤ m + 20 := by omega
  have hm3 : m ≤ cc := by omega
  have hRl : R.length = m := by rw [hR, List.length_drop, ← HN.out, hm]
  have HRL := Hd hRl
  have HRR : Hid ((l.drop 20).take m = R) := Hd (by rw [← hR]; exact List.take_of_length_le (by omega))
  have HR := Hd hR
  clear hm hcc hR hRl
  obtain ⟨P, hP⟩ : ∃ P, P = padN V12 := ⟨_, rfl⟩
  have hP3 : P ≤ 3 := by rw [hP]; unfold padN; omega
  have HPAD : Hid (∀ w, Calls Try.prog 72 #[.int .i64 (V12 : Int)] w fun e w' => e = .returned (.int .i64 (P : Int)) ∧ w' = w) := Hd (fun w => by rw [hP]; exact pad_nat V12 w (by omega))
  obtain ⟨Q, hQ⟩ : ∃ Q, Q = V12 + P := ⟨_, rfl⟩
  have hs1 : (V12 : Int) + (P : Int) = (Q : Int) := by omega
  have hs2 : IntKind.i64.wrap ((V12 : Int) + (P : Int)) = (Q : Int) := by rw [IntKind.wrap_i64]; omega
  have hs3 : IntKind.i64.wrap (Q : Int) = (Q : Int) := by rw [IntKind.wrap_i64]; omega
  have hQ1 : V12 ≤ Q := by omega
  have h3 : n - 20 < V12 := by rw [HV12.out]; exact h2
  clear h2
  have HO : Hid (openP 3 0 l big = none) := Hd (by
    have := HN.out
    have e : w4 big l 12 = V12 := HV12.out.symm
    unfold openP
    simp only [e, ← hP, ← hQ]
    rw [if_neg (by decide), if_neg (by decide), if_pos trivial, if_neg (by omega), if_pos (by omega)])
  clear HN hP hQ
  have x1 : (m : Int) < (V12 : Int) := by omega
  go_enter Try.func59, Try.ntmps59
  go_wp2_with (first
 | ((with_reducible refine sl 3 ?_); (refine z0a rfl 27 (.tmp 0) rfl #[.int .i64 3, .bool false, .int .u32 0, .int .i64 0, .int .u32 0, .int .i64 0, .int .u64 0, .int .u32 0, .slice none 0 0, .slice none 0 0, .slice none 0 0] rfl ?_); intro w1 g3 he__ le_g3 lt_g3 hg__ hb__; have HG3 := Hd hg__; have hE__ := cU HB bup hb__; replace HB := ck HB hE__; clear hE__; clear hg__ hb__ he__; simp only [PT])
 | ((with_reducible refine sl 4 ?_); (refine z0a rfl 24 (.tmp 1) rfl #[.slice ad n c] rfl ?_); intro w2 g4 he__ le_g4 lt_g4 hg__ hb__; have HG4 := Hd hg__; have hE__ := cU HB bup hb__; replace HB := ck HB hE__; replace HG3 := ck HG3 hE__; clear hE__; clear hg__ hb__ he__; simp only [PT])
 | ((with_reducible refine sl 5 ?_); (refine z0a rfl 4 (.tmp 2) rfl #[.bool big] rfl ?_); intro w3 g5 he__ le_g5 lt_g5 hg__ hb__; have HG5 := Hd hg__; have hE__ := cU HB bup hb__; replace HB := ck HB hE__; replace HG3 := ck HG3 hE__; replace HG4 := ck HG4 hE__; clear hE__; clear hg__ hb__ he__; simp only [PT])
 | ((with_reducible refine sl 6 ?_); (refine z09 rfl 27 rfl (.agg #[.int .i64 0, .bool false, .int .u32 0, .int .i64 0, .int .u32 0, .int .i64 0, .int .u64 0, .int .u32 0, .slice none 0 0, .slice none 0 0, .slice none 0 0]) #[.int .i64 0, .bool false, .int .u32 0, .int .i64 0, .int .u32 0, .int .i64 0, .int .u64 0, .int .u32 0, .slice none 0 0, .slice none 0 0, .slice none 0 0] 11 (by kernel_rfl) rfl ?_); intro w4 g6 he__ le_g6 lt_g6 hg__ hb__; have HG6 := Hd hg__; have hE__ := cU HB bup hb__; replace HB := ck HB hE__; replace HG3 := ck HG3 hE__; replace HG4 := ck HG4 hE__; replace HG5 := ck HG5 hE__; clear hE__; clear hg__ hb__ he__; simp only [PT])
 | ((with_reducible refine sl 19 ?_); (refine z1h rfl (.tmp 16) (.tmp 18) rfl _ _ rfl rfl (.int .i64 20) need_at3 ?_); simp only [PT])
 | ((with_reducible refine sl 18 ?_); (refine z01 rfl 3 (.tmp 17) rfl g3 0 rfl (.int .i64 3) HG3.out rfl Try.underlying3 rfl ?_); simp only [PT])
 | ((with_reducible refine sl 20 ?_); (refine z01 rfl 24 (.tmp 4) rfl g4 0 rfl (.slice ad n c) HG4.out rfl Try.underlying24 rfl ?_); simp only [PT])
 | ((with_reducible refine sl 30 ?_); (refine z01 rfl 3 (.tmp 29) rfl g3 0 rfl (.int .i64 3) HG3.out rfl Try.underlying3 rfl ?_); simp only [PT])
 | ((with_reducible refine sl 26 ?_); (refine z01 rfl 24 (.tmp 4) rfl g4 0 rfl (.slice ad n c) HG4.out rfl Try.underlying24 rfl ?_); simp only [PT])
 | ((with_reducible refine sl 28 ?_); (refine z0b elB rfl (.tmp 26) (some (.tmp 27)) none rfl rfl 20 n (.inr ⟨.i64, rfl⟩) (.inl ⟨rfl, rfl⟩) (by omega) (by omega) m cc HM.out HCC.out ?_); intro ad28 had28; have HRG := Hd (show ∀ w0, Bs w0 ad n c l → Bs w0 ad28 m cc R from fun w0 h0 => Bs.partG h0 20 n m cc (by omega) (Nat.le_refl _) HM.out HCC.out ad28 had28 R HRR.out); have HRW := Hd (HRG.out _ HS.out); clear had28; simp only [PT])
 | (go_at_call 82; (with_reducible show Calls _ _ #[Value.int .i64 0, Value.int .i64 4, _, _] _ _); (refine (z19 g4 g5 ad n c l big 0 4 (by omega) (by omega) _ (by exact HG4.out) (by exact HG5.out) (HS.out.below (HB.out.trans (Below.mono bup HB.out.size)))).mono ?_); intro e w5 hr; rw [← HV0.out] at hr; obtain ⟨rfl, hb__⟩ := hr; have hE__ := cU HB bup hb__; replace HB := ck HB hE__; replace HG3 := ck HG3 hE__; replace HG4 := ck HG4 hE__; replace HG5 := ck HG5 hE__; replace HG6 := ck HG6 hE__; clear hE__; clear hb__)
 | (go_at_call 82; (with_reducible show Calls _ _ #[Value.int .i64 4, Value.int .i64 4, _, _] _ _); (refine (z19 g4 g5 ad n c l big 4 4 (by omega) (by omega) _ (by exact HG4.out) (by exact HG5.out) (HS.out.below (HB.out.trans (Below.mono bup HB.out.size)))).mono ?_); intro e w6 hr; rw [← HV4.out] at hr; obtain ⟨rfl, hb__⟩ := hr; have hE__ := cU HB bup hb__; replace HB := ck HB hE__; replace HG3 := ck HG3 hE__; replace HG4 := ck HG4 hE__; replace HG5 := ck HG5 hE__; replace HG6 := ck HG6 hE__; clear hE__; clear hb__)
 | (go_at_call 82; (with_reducible show Calls _ _ #[Value.int .i64 8, Value.int .i64 4, _, _] _ _); (refine (z19 g4 g5 ad n c l big 8 4 (by omega) (by omega) _ (by exact HG4.out) (by exact HG5.out) (HS.out.below (HB.out.trans (Below.mono bup HB.out.size)))).mono ?_); intro e w7 hr; rw [← HV8.out] at hr; obtain ⟨rfl, hb__⟩ := hr; have hE__ := cU HB bup hb__; replace HB := ck HB hE__; replace HG3 := ck HG3 hE__; replace HG4 := ck HG4 hE__; replace HG5 := ck HG5 hE__; replace HG6 := ck HG6 hE__; clear hE__; clear hb__)
 | (go_at_call 82; (with_reducible show Calls _ _ #[Value.int .i64 16, Value.int .i64 4, _, _] _ _); (refine (z19 g4 g5 ad n c l big 16 4 (by omega) (by omega) _ (by exact HG4.out) (by exact HG5.out) (HS.out.below (HB.out.trans (Below.mono bup HB.out.size)))).mono ?_); intro e w8 hr; rw [← HV16.out] at hr; obtain ⟨rfl, hb__⟩ := hr; have hE__ := cU HB bup hb__; replace HB := ck HB hE__; replace HG3 := ck HG3 hE__; replace HG4 := ck HG4 hE__; replace HG5 := ck HG5 hE__; replace HG6 := ck HG6 hE__; clear hE__; clear hb__)
 | (go_at_call 82; (with_reducible show Calls _ _ #[Value.int .i64 12, Value.int .i64 4, _, _] _ _); (refine (z19 g4 g5 ad n c l big 12 4 (by omega) (by omega) _ (by exact HG4.out) (by exact HG5.out) (HS.out.below (HB.out.trans (Below.mono bup HB.out.size)))).mono ?_); intro e w9 hr; rw [← HV12.out] at hr; obtain ⟨rfl, hb__⟩ := hr; have hE__ := cU HB bup hb__; replace HB := ck HB hE__; replace HG3 := ck HG3 hE__; replace HG4 := ck HG4 hE__; replace HG5 := ck HG5 hE__; replace HG6 := ck HG6 hE__; clear hE__; clear hb__)
 | ((with_reducible show wpList _ _ _ (⟨none, .store _ (.tmp 67) (.tmp 57), _, _, _, _⟩ :: _) _ _); (refine z0c rfl 3 (.tmp 67) (.tmp 57) rfl g3 5 (.int .i64 (V0 : Int)) rfl rfl rfl HG3.out (by simp) (by kernel_rfl) #[.int .i64 3, .bool false, .int .u32 0, .int .i64 0, .int .u32 0, .int .i64 (V0 : Int), .int .u64 0, .int .u32 0, .slice none 0 0, .slice none 0 0, .slice none 0 0] rfl ?_); intro w10 hs__ hr__; replace HB := cg HB bup hr__ (by omega); replace HG4 := cg HG4 bup hr__ (by omega); replace HG5 := cg HG5 bup hr__ (by omega); replace HG6 := cg HG6 bup hr__ (by omega); clear HG3; have HG3 := Hd hs__; clear hs__ hr__; simp only [PT])
 | ((with_reducible show wpList _ _ _ (⟨none, .store _ (.tmp 68) (.tmp 63), _, _, _, _⟩ :: _) _ _); (refine z0c rfl 23 (.tmp 68) (.tmp 63) rfl g3 6 (.int .u64 ((T : Nat) : Int)) rfl rfl rfl HG3.out (by simp) (by kernel_rfl) #[.int .i64 3, .bool false, .int .u32 0, .int .i64 0, .int .u32 0, .int .i64 (V0 : Int), .int .u64 ((T : Nat) : Int), .int .u32 0, .slice none 0 0, .slice none 0 0, .slice none 0 0] rfl ?_); intro w11 hs__ hr__; replace HB := cg HB bup hr__ (by omega); replace HG4 := cg HG4 bup hr__ (by omega); replace HG5 := cg HG5 bup hr__ (by omega); replace HG6 := cg HG6 bup hr__ (by omega); clear HG3; have HG3 := Hd hs__; clear hs__ hr__; simp only [PT])
 | ((with_reducible show wpList _ _ _ (⟨none, .store _ (.tmp 69) (.tmp 66), _, _, _, _⟩ :: _) _ _); (refine z0c rfl 22 (.tmp 69) (.tmp 66) rfl g3 7 (.int .u32 (V16 : Int)) rfl rfl rfl HG3.out (by simp) (by kernel_rfl) #[.int .i64 3, .bool false, .int .u32 0, .int .i64 0, .int .u32 0, .int .i64 (V0 : Int), .int .u64 ((T : Nat) : Int), .int .u32 (V16 : Int), .slice none 0 0, .slice none 0 0, .slice none 0 0] rfl ?_); intro w12 hs__ hr__; replace HB := cg HB bup hr__ (by omega); replace HG4 := cg HG4 bup hr__ (by omega); replace HG5 := cg HG5 bup hr__ (by omega); replace HG6 := cg HG6 bup hr__ (by omega); clear HG3; have HG3 := Hd hs__; clear hs__ hr__; simp only [PT])
 | (go_at_call 72; (refine (HPAD.out _).mono ?_); rintro e w13 ⟨rfl, hw__⟩; subst hw__)
 | ((with_reducible refine sl 86 ?_); (refine z05 rfl 27 (.tmp 3) rfl g3 0 rfl [.int .i64 3, .bool false, .int .u32 0, .int .i64 0, .int .u32 0, .int .i64 (V0 : Int), .int .u64 ((T : Nat) : Int), .int .u32 (V16 : Int), .slice none 0 0, .slice none 0 0, .slice none 0 0] _ (z00 HG3.out) Try.underlying27 rfl HBI.out ?_); simp only [PT])
 | ((with_reducible show wpList _ _ _ (⟨none, .store _ (.tmp 6) (.tmp 86), _, _, _, _⟩ :: _) _ _); (refine z02 rfl 27 (.tmp 6) (.tmp 86) rfl g6 #[.int .i64 3, .bool false, .int .u32 0, .int .i64 0, .int .u32 0, .int .i64 (V0 : Int), .int .u64 ((T : Nat) : Int), .int .u32 (V16 : Int), .slice none 0 0, .slice none 0 0, .slice none 0 0] rfl rfl HG6.out HBI.out rfl (all1 _ rfl) ?_); intro w14 hs__ hr__; replace HB := cg HB bup hr__ (by omega); replace HG3 := cg HG3 bup hr__ (by omega); clear HG6; have HG6 := Hd hs__; clear hs__ hr__; simp only [PT]))
  all_goals
    (try simp only [Exit.inBlock, Exit.then, Exit.noGoto_ret])
    refine z04 (cs := [.int .i64 3, .bool false, .int .u32 0, .int .i64 0, .int .u32 0, .int .i64 (V0 : Int), .int .u64 ((T : Nat) : Int), .int .u32 (V16 : Int), .slice none 0 0, .slice none 0 0, .slice none 0 0]) rfl rfl (z00 HG6.out) Try.underlying27 rfl HBI.out rfl ?_
    exact ⟨⟨3, false, 0, 0, 0, (V0 : Int), T, V16, none, 0, 0, [], none, 0, 0, [], none, 0, 0, []⟩, none, 0, 0, false, rfl, by rw [HO.out]; rfl, fun x r h => absurd (HO.out.symm.trans h) (by simp), HB.out⟩
theorem open3_short3 (ad : Option Addr) (n c : Nat) (l : List UInt8) (big : Bool) (w : World) (hs : Bs w ad n c l) (hn : n ≤ 1048576) (h : 20 ≤ n) (h2 : ¬ n - 20 < w4 big l 12) (h4 : n - 20 < w4 big l 12 + padN (w4 big l 12)) :
    Calls Try.prog 59 #[.agg #[.int .i64 3, .bool false, .int .u32 0, .int .i64 0, .int .u32 0, .int .i64 0, .int .u64 0, .int .u32 0, .slice none 0 0, .slice none 0 0, .slice none 0 0], .slice ad n c, .bool big] w (OpenR ad n c l (openP 3 0 l big) w) := by
  have HB := Hd (Below.refl w.heap.size w)
  have HS := Hd hs
  have HBI := Hd z0d
  have hc := hs.le
  have HN := Hd hs.len
  clear hs
  have hi : ¬ (n : Int) < 20 := by omega
  obtain ⟨V0, hV0⟩ : ∃ x, x = getN ((l.drop 0).take 4) big := ⟨_, rfl⟩
  have bV0 : V0 < 4294967296 := by rw [hV0]; exact w4_lt big l 0
  have HV0 := Hd hV0
  clear hV0
  obtain ⟨V4, hV4⟩ : ∃ x, x = getN ((l.drop 4).take 4) big := ⟨_, rfl⟩
  have bV4 : V4 < 4294967296 := by rw [hV4]; exact w4_lt big l 4
  have HV4 := Hd hV4
  clear hV4
  obtain ⟨V8, hV8⟩ : ∃ x, x = getN ((l.drop 8).take 4) big := ⟨_, rfl⟩
  have bV8 : V8 < 4294967296 := by rw [hV8]; exact w4_lt big l 8
  have HV8 := Hd hV8
  clear hV8
  obtain ⟨V12, hV12⟩ : ∃ x, x = getN ((l.drop 12).take 4) big := ⟨_, rfl⟩
  have bV12 : V12 < 4294967296 := by rw [hV12]; exact w4_lt big l 12
  have HV12 := Hd hV12
  clear hV12
  obtain ⟨V16, hV16⟩ : ∃ x, x = getN ((l.drop 16).take 4) big := ⟨_, rfl⟩
  have bV16 : V16 < 4294967296 := by rw [hV16]; exact w4_lt big l 16
  have HV16 := Hd hV16
  clear hV16
  have e0 : IntKind.i64.wrap (V0 : Int) = (V0 : Int) := by rw [IntKind.wrap_i64]; omega
  obtain ⟨T, hT⟩ : ∃ T, T = V4 * 4294967296 + V8 := ⟨_, rfl⟩
  have hT2 : T < 18446744073709551616 := by omega
  have hor := or_word2 V4 V8 bV4 bV8
  rw [← hT] at hor
  have HT := Hd hT
  clear hT
  have e1 : IntKind.i64.wrap (V12 : Int) = (V12 : Int) := by rw [IntKind.wrap_i64]; omega
  have e2 : IntKind.u32.wrap (V16 : Int) = (V16 : Int) := by rw [IntKind.wrap_u32]; omega
  obtain ⟨m, hm⟩ : ∃ m, m = n - 20 := ⟨_, rfl⟩
  obtain ⟨cc, hcc⟩ : ∃ m, m = c - 20 := ⟨_, rfl⟩
  obtain ⟨R, hR⟩ : ∃ R, R = l.drop 20 := ⟨_, rfl⟩
  have HM := Hd hm.symm
  have HCC := Hd hcc.symm
  have hm1 : m + 20 ≤ n := by omega
  have hm2 : n ≤ m + 20 := by omega
  have hm3 : m ≤ cc := by omega
  have hRl : R.length = m := by rw [hR, List.length_drop, ← HN.out, hm]
  have HRL := Hd hRl
  have HRR : Hid ((l.drop 20).take m = R) := Hd (by rw [← hR]; exact List.take_of_length_le (by omega))
  have HR := Hd hR
  clear hm hcc hR hRl
  obtain ⟨P, hP⟩ : ∃ P, P = padN V12 := ⟨_, rfl⟩
  have hP3 : P ≤ 3 := by rw [hP]; unfold padN; omega
  have HPAD : Hid (∀ w, Calls Try.prog 72 #[.int .i64 (V12 : Int)] w fun e w' => e = .returned (.int .i64 (P : Int)) ∧ w' = w) := Hd (fun w => by rw [hP]; exact pad_nat V12 w (by omega))
  obtain ⟨Q, hQ⟩ : ∃ Q, Q = V12 + P := ⟨_, rfl⟩
  have hs1 : (V12 : Int) + (P : Int) = (Q : Int) := by omega
  have hs2 : IntKind.i64.wrap ((V12 : Int) + (P : Int)) = (Q : Int) := by rw [IntKind.wrap_i64]; omega
  have hs3 : IntKind.i64.wrap (Q : Int) = (Q : Int) := by rw [IntKind.wrap_i64]; omega
  have hQ1 : V12 ≤ Q := by omega
  have h3 : ¬ n - 20 < V12 := by rw [HV12.out]; exact h2
  have h5 : n - 20 < Q := by rw [hQ, hP, HV12.out]; exact h4
  clear h2 h4
  have HO : Hid (openP 3 0 l big = none) := Hd (by
    have := HN.out
    have e : w4 big l 12 = V12 := HV12.out.symm
    unfold openP
    simp only [e, ← hP, ← hQ]
    rw [if_neg (by decide), if_neg (by decide), if_pos trivial, if_neg (by omega), if_pos (by omega)])
  clear HN hP hQ
  have x1 : ¬ (m : Int) < (V12 : Int) := by omega
  have x2 : (m : Int) < (Q : Int) := by omega
  go_enter Try.func59, Try.ntmps59
  go_wp2_with (first
 | ((with_reducible refine sl 3 ?_); (refine z0a rfl 27 (.tmp 0) rfl #[.int .i64 3, .bool false, .int .u32 0, .int .i64 0, .int .u32 0, .int .i64 0, .int .u64 0, .int .u32 0, .slice none 0 0, .slice none 0 0, .slice none 0 0] rfl ?_); intro w1 g3 he__ le_g3 lt_g3 hg__ hb__; have HG3 := Hd hg__; have hE__ := cU HB bup hb__; replace HB := ck HB hE__; clear hE__; clear hg__ hb__ he__; simp only [PT])
 | ((with_reducible refine sl 4 ?_); (refine z0a rfl 24 (.tmp 1) rfl #[.slice ad n c] rfl ?_); intro w2 g4 he__ le_g4 lt_g4 hg__ hb__; have HG4 := Hd hg__; have hE__ := cU HB bup hb__; replace HB := ck HB hE__; replace HG3 := ck HG3 hE__; clear hE__; clear hg__ hb__ he__; simp only [PT])
 | ((with_reducible refine sl 5 ?_); (refine z0a rfl 4 (.tmp 2) rfl #[.bool big] rfl ?_); intro w3 g5 he__ le_g5 lt_g5 hg__ hb__; have HG5 := Hd hg__; have hE__ := cU HB bup hb__; replace HB := ck HB hE__; replace HG3 := ck HG3 hE__; replace HG4 := ck HG4 hE__; clear hE__; clear hg__ hb__ he__; simp only [PT])
 | ((with_reducible refine sl 6 ?_); (refine z09 rfl 27 rfl (.agg #[.int .i64 0, .bool false, .int .u32 0, .int .i64 0, .int .u32 0, .int .i64 0, .int .u64 0, .int .u32 0, .slice none 0 0, .slice none 0 0, .slice none 0 0]) #[.int .i64 0, .bool false, .int .u32 0, .int .i64 0, .int .u32 0, .int .i64 0, .int .u64 0, .int .u32 0, .slice none 0 0, .slice none 0 0, .slice none 0 0] 11 (by kernel_rfl) rfl ?_); intro w4 g6 he__ le_g6 lt_g6 hg__ hb__; have HG6 := Hd hg__; have hE__ := cU HB bup hb__; replace HB := ck HB hE__; replace HG3 := ck HG3 hE__; replace HG4 := ck HG4 hE__; replace HG5 := ck HG5 hE__; clear hE__; clear hg__ hb__ he__; simp only [PT])
 | ((with_reducible refine sl 19 ?_); (refine z1h rfl (.tmp 16) (.tmp 18) rfl _ _ rfl rfl (.int .i64 20) need_at3 ?_); simp only [PT])
 | ((with_reducible refine sl 18 ?_); (refine z01 rfl 3 (.tmp 17) rfl g3 0 rfl (.int .i64 3) HG3.out rfl Try.underlying3 rfl ?_); simp only [PT])
 | ((with_reducible refine sl 20 ?_); (refine z01 rfl 24 (.tmp 4) rfl g4 0 rfl (.slice ad n c) HG4.out rfl Try.underlying24 rfl ?_); simp only [PT])
 | ((with_reducible refine sl 30 ?_); (refine z01 rfl 3 (.tmp 29) rfl g3 0 rfl (.int .i64 3) HG3.out rfl Try.underlying3 rfl ?_); simp only [PT])
 | ((with_reducible refine sl 26 ?_); (refine z01 rfl 24 (.tmp 4) rfl g4 0 rfl (.slice ad n c) HG4.out rfl Try.underlying24 rfl ?_); simp only [PT])
 | ((with_reducible refine sl 28 ?_); (refine z0b elB rfl (.tmp 26) (some (.tmp 27)) none rfl rfl 20 n (.inr ⟨.i64, rfl⟩) (.inl ⟨rfl, rfl⟩) (by omega) (by omega) m cc HM.out HCC.out ?_); intro ad28 had28; have HRG := Hd (show ∀ w0, Bs w0 ad n c l → Bs w0 ad28 m cc R from fun w0 h0 => Bs.partG h0 20 n m cc (by omega) (Nat.le_refl _) HM.out HCC.out ad28 had28 R HRR.out); have HRW := Hd (HRG.out _ HS.out); clear had28; simp only [PT])
 | (go_at_call 82; (with_reducible show Calls _ _ #[Value.int .i64 0, Value.int .i64 4, _, _] _ _); (refine (z19 g4 g5 ad n c l big 0 4 (by omega) (by omega) _ (by exact HG4.out) (by exact HG5.out) (HS.out.below (HB.out.trans (Below.mono bup HB.out.size)))).mono ?_); intro e w5 hr; rw [← HV0.out] at hr; obtain ⟨rfl, hb__⟩ := hr; have hE__ := cU HB bup hb__; replace HB := ck HB hE__; replace HG3 := ck HG3 hE__; replace HG4 := ck HG4 hE__; replace HG5 := ck HG5 hE__; replace HG6 := ck HG6 hE__; clear hE__; clear hb__)
 | (go_at_call 82; (with_reducible show Calls _ _ #[Value.int .i64 4, Value.int .i64 4, _, _] _ _); (refine (z19 g4 g5 ad n c l big 4 4 (by omega) (by omega) _ (by exact HG4.out) (by exact HG5.out) (HS.out.below (HB.out.trans (Below.mono bup HB.out.size)))).mono ?_); intro e w6 hr; rw [← HV4.out] at hr; obtain ⟨rfl, hb__⟩ := hr; have hE__ := cU HB bup hb__; replace HB := ck HB hE__; replace HG3 := ck HG3 hE__; replace HG4 := ck HG4 hE__; replace HG5 := ck HG5 hE__; replace HG6 := ck HG6 hE__; clear hE__; clear hb__)
 | (go_at_call 82; (with_reducible show Calls _ _ #[Value.int .i64 8, Value.int .i64 4, _, _] _ _); (refine (z19 g4 g5 ad n c l big 8 4 (by omega) (by omega) _ (by exact HG4.out) (by exact HG5.out) (HS.out.below (HB.out.trans (Below.mono bup HB.out.size)))).mono ?_); intro e w7 hr; rw [← HV8.out] at hr; obtain ⟨rfl, hb__⟩ := hr; have hE__ := cU HB bup hb__; replace HB := ck HB hE__; replace HG3 := ck HG3 hE__; replace HG4 := ck HG4 hE__; replace HG5 := ck HG5 hE__; replace HG6 := ck HG6 hE__; clear hE__; clear hb__)
 | (go_at_call 82; (with_reducible show Calls _ _ #[Value.int .i64 16, Value.int .i64 4, _, _] _ _); (refine (z19 g4 g5 ad n c l big 16 4 (by omega) (by omega) _ (by exact HG4.out) (by exact HG5.out) (HS.out.below (HB.out.trans (Below.mono bup HB.out.size)))).mono ?_); intro e w8 hr; rw [← HV16.out] at hr; obtain ⟨rfl, hb__⟩ := hr; have hE__ := cU HB bup hb__; replace HB := ck HB hE__; replace HG3 := ck HG3 hE__; replace HG4 := ck HG4 hE__; replace HG5 := ck HG5 hE__; replace HG6 := ck HG6 hE__; clear hE__; clear hb__)
 | (go_at_call 82; (with_reducible show Calls _ _ #[Value.int .i64 12, Value.int .i64 4, _, _] _ _); (refine (z19 g4 g5 ad n c l big 12 4 (by omega) (by omega) _ (by exact HG4.out) (by exact HG5.out) (HS.out.below (HB.out.trans (Below.mono bup HB.out.size)))).mono ?_); intro e w9 hr; rw [← HV12.out] at hr; obtain ⟨rfl, hb__⟩ := hr; have hE__ := cU HB bup hb__; replace HB := ck HB hE__; replace HG3 := ck HG3 hE__; replace HG4 := ck HG4 hE__; replace HG5 := ck HG5 hE__; replace HG6 := ck HG6 hE__; clear hE__; clear hb__)
 | ((with_reducible show wpList _ _ _ (⟨none, .store _ (.tmp 67) (.tmp 57), _, _, _, _⟩ :: _) _ _); (refine z0c rfl 3 (.tmp 67) (.tmp 57) rfl g3 5 (.int .i64 (V0 : Int)) rfl rfl rfl HG3.out (by simp) (by kernel_rfl) #[.int .i64 3, .bool false, .int .u32 0, .int .i64 0, .int .u32 0, .int .i64 (V0 : Int), .int .u64 0, .int .u32 0, .slice none 0 0, .slice none 0 0, .slice none 0 0] rfl ?_); intro w10 hs__ hr__; replace HB := cg HB bup hr__ (by omega); replace HG4 := cg HG4 bup hr__ (by omega); replace HG5 := cg HG5 bup hr__ (by omega); replace HG6 := cg HG6 bup hr__ (by omega); clear HG3; have HG3 := Hd hs__; clear hs__ hr__; simp only [PT])
 | ((with_reducible show wpList _ _ _ (⟨none, .store _ (.tmp 68) (.tmp 63), _, _, _, _⟩ :: _) _ _); (refine z0c rfl 23 (.tmp 68) (.tmp 63) rfl g3 6 (.int .u64 ((T : Nat) : Int)) rfl rfl rfl HG3.out (by simp) (by kernel_rfl) #[.int .i64 3, .bool false, .int .u32 0, .int .i64 0, .int .u32 0, .int .i64 (V0 : Int), .int .u64 ((T : Nat) : Int), .int .u32 0, .slice none 0 0, .slice none 0 0, .slice none 0 0] rfl ?_); intro w11 hs__ hr__; replace HB := cg HB bup hr__ (by omega); replace HG4 := cg HG4 bup hr__ (by omega); replace HG5 := cg HG5 bup hr__ (by omega); replace HG6 := cg HG6 bup hr__ (by omega); clear HG3; have HG3 := Hd hs__; clear hs__ hr__; simp only [PT])
 | ((with_reducible show wpList _ _ _ (⟨none, .store _ (.tmp 69) (.tmp 66), _, _, _, _⟩ :: _) _ _); (refine z0c rfl 22 (.tmp 69) (.tmp 66) rfl g3 7 (.int .u32 (V16 : Int)) rfl rfl rfl HG3.out (by simp) (by kernel_rfl) #[.int .i64 3, .bool false, .int .u32 0, .int .i64 0, .int .u32 0, .int .i64 (V0 : Int), .int .u64 ((T : Nat) : Int), .int .u32 (V16 : Int), .slice none 0 0, .slice none 0 0, .slice none 0 0] rfl ?_); intro w12 hs__ hr__; replace HB := cg HB bup hr__ (by omega); replace HG4 := cg HG4 bup hr__ (by omega); replace HG5 := cg HG5 bup hr__ (by omega); replace HG6 := cg HG6 bup hr__ (by omega); clear HG3; have HG3 := Hd hs__; clear hs__ hr__; simp only [PT])
 | (go_at_call 72; (refine (HPAD.out _).mono ?_); rintro e w13 ⟨rfl, hw__⟩; subst hw__)
 | ((with_reducible refine sl 86 ?_); (refine z05 rfl 27 (.tmp 3) rfl g3 0 rfl [.int .i64 3, .bool false, .int .u32 0, .int .i64 0, .int .u32 0, .int .i64 (V0 : Int), .int .u64 ((T : Nat) : Int), .int .u32 (V16 : Int), .slice none 0 0, .slice none 0 0, .slice none 0 0] _ (z00 HG3.out) Try.underlying27 rfl HBI.out ?_); simp only [PT])
 | ((with_reducible show wpList _ _ _ (⟨none, .store _ (.tmp 6) (.tmp 86), _, _, _, _⟩ :: _) _ _); (refine z02 rfl 27 (.tmp 6) (.tmp 86) rfl g6 #[.int .i64 3, .bool false, .int .u32 0, .int .i64 0, .int .u32 0, .int .i64 (V0 : Int), .int .u64 ((T : Nat) : Int), .int .u32 (V16 : Int), .slice none 0 0, .slice none 0 0, .slice none 0 0] rfl rfl HG6.out HBI.out rfl (all1 _ rfl) ?_); intro w14 hs__ hr__; replace HB := cg HB bup hr__ (by omega); replace HG3 := cg HG3 bup hr__ (by omega); clear HG6; have HG6 := Hd hs__; clear hs__ hr__; simp only [PT]))
  all_goals
    (try simp only [Exit.inBlock, Exit.then, Exit.noGoto_ret])
    refine z04 (cs := [.int .i64 3, .bool false, .int .u32 0, .int .i64 0, .int .u32 0, .int .i64 (V0 : Int), .int .u64 ((T : Nat) : Int), .int .u32 (V16 : Int), .slice none 0 0, .slice none 0 0, .slice none 0 0]) rfl rfl (z00 HG6.out) Try.underlying27 rfl HBI.out rfl ?_
    exact ⟨⟨3, false, 0, 0, 0, (V0 : Int), T, V16, none, 0, 0, [], none, 0, 0, [], none, 0, 0, []⟩, none, 0, 0, false, rfl, by rw [HO.out]; rfl, fun x r h => absurd (HO.out.symm.trans h) (by simp), HB.out⟩
theorem open3_ok (ad : Option Addr) (n c : Nat) (l : List UInt8) (big : Bool) (w : World) (hs : Bs w ad n c l) (hn : n ≤ 1048576) (h : 20 ≤ n) (h2 : ¬ n - 20 < w4 big l 12 + padN (w4 big l 12)) :
    Calls Try.prog 59 #[.agg #[.int .i64 3, .bool false, .int .u32 0, .int .i64 0, .int .u32 0, .int .i64 0, .int .u64 0, .int .u32 0, .slice none 0 0, .slice none 0 0, .slice none 0 0], .slice ad n c, .bool big] w (OpenR ad n c l (openP 3 0 l big) w) := by
  have HB := Hd (Below.refl w.heap.size w)
  have HS := Hd hs
  have HBI := Hd z0d
  have hc := hs.le
  have HN := Hd hs.len
  clear hs
  have hi : ¬ (n : Int) < 20 := by omega
  obtain ⟨V0, hV0⟩ : ∃ x, x = getN ((l.drop 0).take 4) big := ⟨_, rfl⟩
  have bV0 : V0 < 4294967296 := by rw [hV0]; exact w4_lt big l 0
  have HV0 := Hd hV0
  clear hV0
  obtain ⟨V4, hV4⟩ : ∃ x, x = getN ((l.drop 4).take 4) big := ⟨_, rfl⟩
  have bV4 : V4 < 4294967296 := by rw [hV4]; exact w4_lt big l 4
  have HV4 := Hd hV4
  clear hV4
  obtain ⟨V8, hV8⟩ : ∃ x, x = getN ((l.drop 8).take 4) big := ⟨_, rfl⟩
  have bV8 : V8 < 4294967296 := by rw [hV8]; exact w4_lt big l 8
  have HV8 := Hd hV8
  clear hV8
  obtain ⟨V12, hV12⟩ : ∃ x, x = getN ((l.drop 12).take 4) big := ⟨_, rfl⟩
  have bV12 : V12 < 4294967296 := by rw [hV12]; exact w4_lt big l 12
  have HV12 := Hd hV12
  clear hV12
  obtain ⟨V16, hV16⟩ : ∃ x, x = getN ((l.drop 16).take 4) big := ⟨_, rfl⟩
  have bV16 : V16 < 4294967296 := by rw [hV16]; exact w4_lt big l 16
  have HV16 := Hd hV16
  clear hV16
  have e0 : IntKind.i64.wrap (V0 : Int) = (V0 : Int) := by rw [IntKind.wrap_i64]; omega
  obtain ⟨T, hT⟩ : ∃ T, T = V4 * 4294967296 + V8 := ⟨_, rfl⟩
  have hT2 : T < 18446744073709551616 := by omega
  have hor := or_word2 V4 V8 bV4 bV8
  rw [← hT] at hor
  have HT := Hd hT
  clear hT
  have e1 : IntKind.i64.wrap (V12 : Int) = (V12 : Int) := by rw [IntKind.wrap_i64]; omega
  have e2 : IntKind.u32.wrap (V16 : Int) = (V16 : Int) := by rw [IntKind.wrap_u32]; omega
  obtain ⟨m, hm⟩ : ∃ m, m = n - 20 := ⟨_, rfl⟩
  obtain ⟨cc, hcc⟩ : ∃ m, m = c - 20 := ⟨_, rfl⟩
  obtain ⟨R, hR⟩ : ∃ R, R = l.drop 20 := ⟨_, rfl⟩
  have HM := Hd hm.symm
  have HCC := Hd hcc.symm
  have hm1 : m + 20 ≤ n := by omega
  have hm2 : n ≤ m + 20 := by omega
  have hm3 : m ≤ cc := by omega
  have hRl : R.length = m := by rw [hR, List.length_drop, ← HN.out, hm]
  have HRL := Hd hRl
  have HRR : Hid ((l.drop 20).take m = R) := Hd (by rw [← hR]; exact List.take_of_length_le (by omega))
  have HR := Hd hR
  clear hm hcc hR hRl
  obtain ⟨P, hP⟩ : ∃ P, P = padN V12 := ⟨_, rfl⟩
  have hP3 : P ≤ 3 := by rw [hP]; unfold padN; omega
  have HPAD : Hid (∀ w, Calls Try.prog 72 #[.int .i64 (V12 : Int)] w fun e w' => e = .returned (.int .i64 (P : Int)) ∧ w' = w) := Hd (fun w => by rw [hP]; exact pad_nat V12 w (by omega))
  obtain ⟨Q, hQ⟩ : ∃ Q, Q = V12 + P := ⟨_, rfl⟩
  have hs1 : (V12 : Int) + (P : Int) = (Q : Int) := by omega
  have hs2 : IntKind.i64.wrap ((V12 : Int) + (P : Int)) = (Q : Int) := by rw [IntKind.wrap_i64]; omega
  have hs3 : IntKind.i64.wrap (Q : Int) = (Q : Int) := by rw [IntKind.wrap_i64]; omega
  have hQ1 : V12 ≤ Q := by omega
  have h5 : ¬ n - 20 < Q := by rw [hQ, hP, HV12.out]; exact h2
  clear h2
  obtain ⟨k, hk⟩ : ∃ k, k = m - Q := ⟨_, rfl⟩
  obtain ⟨kc, hkc⟩ : ∃ k, k = cc - Q := ⟨_, rfl⟩
  obtain ⟨D, hD⟩ : ∃ D, D = R.take V12 := ⟨_, rfl⟩
  obtain ⟨E, hE⟩ : ∃ D, D = R.drop Q := ⟨_, rfl⟩
  have HKM := Hd hk.symm
  have HKC := Hd hkc.symm
  have HDD : Hid ((R.drop 0).take V12 = D) := Hd (by rw [hD, List.drop_zero])
  have HEE : Hid ((R.drop Q).take k = E) := Hd (by rw [hE]; have := HRL.out; exact List.take_of_length_le (by rw [List.length_drop]; omega))
  have HO : Hid (openP 3 0 l big = some ({ noneB with kind := 3, iface := (V0 : Int), time := T, len := V16, data := D }, E)) := Hd (by
    have := HN.out
    have f0 : w4 big l 0 = V0 := HV0.out.symm
    have f4 : w4 big l 4 = V4 := HV4.out.symm
    have f8 : w4 big l 8 = V8 := HV8.out.symm
    have f12 : w4 big l 12 = V12 := HV12.out.symm
    have f16 : w4 big l 16 = V16 := HV16.out.symm
    unfold openP
    simp only [f0, f4, f8, f12, f16, ← hP, ← hQ]
    rw [if_neg (by decide), if_neg (by decide), if_pos trivial, if_neg (by omega), if_neg (by omega), hD, hE, HT.out, HR.out, List.drop_drop])
  have x1 : ¬ (m : Int) < (V12 : Int) := by omega
  have x2 : ¬ (m : Int) < (Q : Int) := by omega
  have x3 : Q ≤ m := by omega
  have x4 : V12 ≤ m := by omega
  clear HN hk hkc hD hE hP hQ h5
  go_enter Try.func59, Try.ntmps59
  go_wp2_with (first
 | ((with_reducible refine sl 3 ?_); (refine z0a rfl 27 (.tmp 0) rfl #[.int .i64 3, .bool false, .int .u32 0, .int .i64 0, .int .u32 0, .int .i64 0, .int .u64 0, .int .u32 0, .slice none 0 0, .slice none 0 0, .slice none 0 0] rfl ?_); intro w1 g3 he__ le_g3 lt_g3 hg__ hb__; have HG3 := Hd hg__; have hE__ := cU HB bup hb__; replace HB := ck HB hE__; clear hE__; clear hg__ hb__ he__; simp only [PT])
 | ((with_reducible refine sl 4 ?_); (refine z0a rfl 24 (.tmp 1) rfl #[.slice ad n c] rfl ?_); intro w2 g4 he__ le_g4 lt_g4 hg__ hb__; have HG4 := Hd hg__; have hE__ := cU HB bup hb__; replace HB := ck HB hE__; replace HG3 := ck HG3 hE__; clear hE__; clear hg__ hb__ he__; simp only [PT])
 | ((with_reducible refine sl 5 ?_); (refine z0a rfl 4 (.tmp 2) rfl #[.bool big] rfl ?_); intro w3 g5 he__ le_g5 lt_g5 hg__ hb__; have HG5 := Hd hg__; have hE__ := cU HB bup hb__; replace HB := ck HB hE__; replace HG3 := ck HG3 hE__; replace HG4 := ck HG4 hE__; clear hE__; clear hg__ hb__ he__; simp only [PT])
 | ((with_reducible refine sl 6 ?_); (refine z09 rfl 27 rfl (.agg #[.int .i64 0, .bool false, .int .u32 0, .int .i64 0, .int .u32 0, .int .i64 0, .int .u64 0, .int .u32 0, .slice none 0 0, .slice none 0 0, .slice none 0 0]) #[.int .i64 0, .bool false, .int .u32 0, .int .i64 0, .int .u32 0, .int .i64 0, .int .u64 0, .int .u32 0, .slice none 0 0, .slice none 0 0, .slice none 0 0] 11 (by kernel_rfl) rfl ?_); intro w4 g6 he__ le_g6 lt_g6 hg__ hb__; have HG6 := Hd hg__; have hE__ := cU HB bup hb__; replace HB := ck HB hE__; replace HG3 := ck HG3 hE__; replace HG4 := ck HG4 hE__; replace HG5 := ck HG5 hE__; clear hE__; clear hg__ hb__ he__; simp only [PT])
 | ((with_reducible refine sl 19 ?_); (refine z1h rfl (.tmp 16) (.tmp 18) rfl _ _ rfl rfl (.int .i64 20) need_at3 ?_); simp only [PT])
 | ((with_reducible refine sl 18 ?_); (refine z01 rfl 3 (.tmp 17) rfl g3 0 rfl (.int .i64 3) HG3.out rfl Try.underlying3 rfl ?_); simp only [PT])
 | ((with_reducible refine sl 20 ?_); (refine z01 rfl 24 (.tmp 4) rfl g4 0 rfl (.slice ad n c) HG4.out rfl Try.underlying24 rfl ?_); simp only [PT])
 | ((with_reducible refine sl 30 ?_); (refine z01 rfl 3 (.tmp 29) rfl g3 0 rfl (.int .i64 3) HG3.out rfl Try.underlying3 rfl ?_); simp only [PT])
 | ((with_reducible refine sl 26 ?_); (refine z01 rfl 24 (.tmp 4) rfl g4 0 rfl (.slice ad n c) HG4.out rfl Try.underlying24 rfl ?_); simp only [PT])
 | ((with_reducible refine sl 28 ?_); (refine z0b elB rfl (.tmp 26) (some (.tmp 27)) none rfl rfl 20 n (.inr ⟨.i64, rfl⟩) (.inl ⟨rfl, rfl⟩) (by omega) (by omega) m cc HM.out HCC.out ?_); intro ad28 had28; have HRG := Hd (show ∀ w0, Bs w0 ad n c l → Bs w0 ad28 m cc R from fun w0 h0 => Bs.partG h0 20 n m cc (by omega) (Nat.le_refl _) HM.out HCC.out ad28 had28 R HRR.out); have HRW := Hd (HRG.out _ HS.out); clear had28; simp only [PT])
 | (go_at_call 82; (with_reducible show Calls _ _ #[Value.int .i64 0, Value.int .i64 4, _, _] _ _); (refine (z19 g4 g5 ad n c l big 0 4 (by omega) (by omega) _ (by exact HG4.out) (by exact HG5.out) (HS.out.below (HB.out.trans (Below.mono bup HB.out.size)))).mono ?_); intro e w5 hr; rw [← HV0.out] at hr; obtain ⟨rfl, hb__⟩ := hr; have hE__ := cU HB bup hb__; replace HB := ck HB hE__; replace HG3 := ck HG3 hE__; replace HG4 := ck HG4 hE__; replace HG5 := ck HG5 hE__; replace HG6 := ck HG6 hE__; clear hE__; clear hb__)
 | (go_at_call 82; (with_reducible show Calls _ _ #[Value.int .i64 4, Value.int .i64 4, _, _] _ _); (refine (z19 g4 g5 ad n c l big 4 4 (by omega) (by omega) _ (by exact HG4.out) (by exact HG5.out) (HS.out.below (HB.out.trans (Below.mono bup HB.out.size)))).mono ?_); intro e w6 hr; rw [← HV4.out] at hr; obtain ⟨rfl, hb__⟩ := hr; have hE__ := cU HB bup hb__; replace HB := ck HB hE__; replace HG3 := ck HG3 hE__; replace HG4 := ck HG4 hE__; replace HG5 := ck HG5 hE__; replace HG6 := ck HG6 hE__; clear hE__; clear hb__)
 | (go_at_call 82; (with_reducible show Calls _ _ #[Value.int .i64 8, Value.int .i64 4, _, _] _ _); (refine (z19 g4 g5 ad n c l big 8 4 (by omega) (by omega) _ (by exact HG4.out) (by exact HG5.out) (HS.out.below (HB.out.trans (Below.mono bup HB.out.size)))).mono ?_); intro e w7 hr; rw [← HV8.out] at hr; obtain ⟨rfl, hb__⟩ := hr; have hE__ := cU HB bup hb__; replace HB := ck HB hE__; replace HG3 := ck HG3 hE__; replace HG4 := ck HG4 hE__; replace HG5 := ck HG5 hE__; replace HG6 := ck HG6 hE__; clear hE__; clear hb__)
 | (go_at_call 82; (with_reducible show Calls _ _ #[Value.int .i64 16, Value.int .i64 4, _, _] _ _); (refine (z19 g4 g5 ad n c l big 16 4 (by omega) (by omega) _ (by exact HG4.out) (by exact HG5.out) (HS.out.below (HB.out.trans (Below.mono bup HB.out.size)))).mono ?_); intro e w8 hr; rw [← HV16.out] at hr; obtain ⟨rfl, hb__⟩ := hr; have hE__ := cU HB bup hb__; replace HB := ck HB hE__; replace HG3 := ck HG3 hE__; replace HG4 := ck HG4 hE__; replace HG5 := ck HG5 hE__; replace HG6 := ck HG6 hE__; clear hE__; clear hb__)
 | (go_at_call 82; (with_reducible show Calls _ _ #[Value.int .i64 12, Value.int .i64 4, _, _] _ _); (refine (z19 g4 g5 ad n c l big 12 4 (by omega) (by omega) _ (by exact HG4.out) (by exact HG5.out) (HS.out.below (HB.out.trans (Below.mono bup HB.out.size)))).mono ?_); intro e w9 hr; rw [← HV12.out] at hr; obtain ⟨rfl, hb__⟩ := hr; have hE__ := cU HB bup hb__; replace HB := ck HB hE__; replace HG3 := ck HG3 hE__; replace HG4 := ck HG4 hE__; replace HG5 := ck HG5 hE__; replace HG6 := ck HG6 hE__; clear hE__; clear hb__)
 | ((with_reducible show wpList _ _ _ (⟨none, .store _ (.tmp 67) (.tmp 57), _, _, _, _⟩ :: _) _ _); (refine z0c rfl 3 (.tmp 67) (.tmp 57) rfl g3 5 (.int .i64 (V0 : Int)) rfl rfl rfl HG3.out (by simp) (by kernel_rfl) #[.int .i64 3, .bool false, .int .u32 0, .int .i64 0, .int .u32 0, .int .i64 (V0 : Int), .int .u64 0, .int .u32 0, .slice none 0 0, .slice none 0 0, .slice none 0 0] rfl ?_); intro w10 hs__ hr__; replace HB := cg HB bup hr__ (by omega); replace HG4 := cg HG4 bup hr__ (by omega); replace HG5 := cg HG5 bup hr__ (by omega); replace HG6 := cg HG6 bup hr__ (by omega); clear HG3; have HG3 := Hd hs__; clear hs__ hr__; simp only [PT])
 | ((with_reducible show wpList _ _ _ (⟨none, .store _ (.tmp 68) (.tmp 63), _, _, _, _⟩ :: _) _ _); (refine z0c rfl 23 (.tmp 68) (.tmp 63) rfl g3 6 (.int .u64 ((T : Nat) : Int)) rfl rfl rfl HG3.out (by simp) (by kernel_rfl) #[.int .i64 3, .bool false, .int .u32 0, .int .i64 0, .int .u32 0, .int .i64 (V0 : Int), .int .u64 ((T : Nat) : Int), .int .u32 0, .slice none 0 0, .slice none 0 0, .slice none 0 0] rfl ?_); intro w11 hs__ hr__; replace HB := cg HB bup hr__ (by omega); replace HG4 := cg HG4 bup hr__ (by omega); replace HG5 := cg HG5 bup hr__ (by omega); replace HG6 := cg HG6 bup hr__ (by omega); clear HG3; have HG3 := Hd hs__; clear hs__ hr__; simp only [PT])
 | ((with_reducible show wpList _ _ _ (⟨none, .store _ (.tmp 69) (.tmp 66), _, _, _, _⟩ :: _) _ _); (refine z0c rfl 22 (.tmp 69) (.tmp 66) rfl g3 7 (.int .u32 (V16 : Int)) rfl rfl rfl HG3.out (by simp) (by kernel_rfl) #[.int .i64 3, .bool false, .int .u32 0, .int .i64 0, .int .u32 0, .int .i64 (V0 : Int), .int .u64 ((T : Nat) : Int), .int .u32 (V16 : Int), .slice none 0 0, .slice none 0 0, .slice none 0 0] rfl ?_); intro w12 hs__ hr__; replace HB := cg HB bup hr__ (by omega); replace HG4 := cg HG4 bup hr__ (by omega); replace HG5 := cg HG5 bup hr__ (by omega); replace HG6 := cg HG6 bup hr__ (by omega); clear HG3; have HG3 := Hd hs__; clear hs__ hr__; simp only [PT])
 | (go_at_call 72; (refine (HPAD.out _).mono ?_); rintro e w13 ⟨rfl, hw__⟩; subst hw__)
 | ((with_reducible refine sl 89 ?_); (refine z0b elB rfl (.tmp 87) none (some (.tmp 88)) rfl rfl 0 V12 (.inl ⟨rfl, rfl⟩) (.inr ⟨.i64, rfl⟩) (Nat.zero_le _) (by omega) V12 cc rfl rfl ?_); intro ad89 had89; have HDW := Hd (Bs.partG HRW.out 0 V12 V12 cc (Nat.zero_le _) (by omega) rfl rfl ad89 had89 D HDD.out); clear had89; simp only [PT])
 | (go_at_call 68; (with_reducible show Calls _ _ #[Value.slice ad89 V12 cc] _ _); (refine (z2d ad89 V12 cc D _ (HDW.out.below (HB.out.trans (Below.mono bup HB.out.size))) (by omega)).mono ?_); intro e w15 hr; unfold RetB at hr; obtain ⟨adD, cD, rfl, hoD, hb__⟩ := hr; have HD := Hd (z0r (base' := g6 + 1) hoD (lt_of_block (by exact HG6.out))); have hE__ := cU HB bup hb__; replace HB := ck HB hE__; replace HG3 := ck HG3 hE__; replace HG4 := ck HG4 hE__; replace HG5 := ck HG5 hE__; replace HG6 := ck HG6 hE__; clear hE__; clear hb__ hoD)
 | ((with_reducible show wpList _ _ _ (⟨none, .store _ (.tmp 91) (.tmp 90), _, _, _, _⟩ :: _) _ _); (refine z0c rfl 24 (.tmp 91) (.tmp 90) rfl g3 8 (.slice adD D.length cD) rfl rfl rfl HG3.out (by simp) (by kernel_rfl) #[.int .i64 3, .bool false, .int .u32 0, .int .i64 0, .int .u32 0, .int .i64 (V0 : Int), .int .u64 ((T : Nat) : Int), .int .u32 (V16 : Int), .slice adD D.length cD, .slice none 0 0, .slice none 0 0] rfl ?_); intro w16 hs__ hr__; replace HB := cg HB bup hr__ (by omega); replace HG4 := cg HG4 bup hr__ (by omega); replace HG5 := cg HG5 bup hr__ (by omega); replace HG6 := cg HG6 bup hr__ (by omega); replace HD := cg HD bup hr__ (by omega); clear HG3; have HG3 := Hd hs__; clear hs__ hr__; simp only [PT])
 | ((with_reducible refine sl 97 ?_); (refine z0b elB rfl (.tmp 92) (some (.tmp 96)) none rfl rfl Q m (.inr ⟨.i64, rfl⟩) (.inl ⟨rfl, rfl⟩) (by omega) (by omega) k kc HKM.out HKC.out ?_); intro ad97 had97; have HEG := Hd (show ∀ w0, Bs w0 ad n c l → Bs w0 ad97 k kc E from fun w0 h0 => Bs.partG (HRG.out w0 h0) Q m k kc (by omega) (Nat.le_refl _) HKM.out HKC.out ad97 had97 E HEE.out); clear had97; simp only [PT])
 | ((with_reducible refine sl 146 ?_); (refine z05 rfl 27 (.tmp 3) rfl g3 0 rfl [.int .i64 3, .bool false, .int .u32 0, .int .i64 0, .int .u32 0, .int .i64 (V0 : Int), .int .u64 ((T : Nat) : Int), .int .u32 (V16 : Int), .slice adD D.length cD, .slice none 0 0, .slice none 0 0] _ (z00 HG3.out) Try.underlying27 rfl HBI.out ?_); simp only [PT])
 | ((with_reducible show wpList _ _ _ (⟨none, .store _ (.tmp 6) (.tmp 146), _, _, _, _⟩ :: _) _ _); (refine z02 rfl 27 (.tmp 6) (.tmp 146) rfl g6 #[.int .i64 3, .bool false, .int .u32 0, .int .i64 0, .int .u32 0, .int .i64 (V0 : Int), .int .u64 ((T : Nat) : Int), .int .u32 (V16 : Int), .slice adD D.length cD, .slice none 0 0, .slice none 0 0] rfl rfl HG6.out HBI.out rfl (all1 _ rfl) ?_); intro w17 hs__ hr__; replace HB := cg HB bup hr__ (by omega); replace HG3 := cg HG3 bup hr__ (by omega); replace HD := cg HD bup hr__ (by omega); clear HG6; have HG6 := Hd hs__; clear hs__ hr__; simp only [PT]))
  all_goals
    (try simp only [Exit.inBlock, Exit.then, Exit.noGoto_ret])
    refine z04 (cs := [.int .i64 3, .bool false, .int .u32 0, .int .i64 0, .int .u32 0, .int .i64 (V0 : Int), .int .u64 ((T : Nat) : Int), .int .u32 (V16 : Int), .slice adD D.length cD, .slice none 0 0, .slice none 0 0]) rfl rfl (z00 HG6.out) Try.underlying27 rfl HBI.out rfl ?_
    refine ⟨⟨3, false, 0, 0, 0, (V0 : Int), T, V16, adD, D.length, cD, D, none, 0, 0, [], none, 0, 0, []⟩, ad97, k, kc, true, rfl, by rw [HO.out]; rfl, fun x r h => ?_, HB.out⟩
    have hh := HO.out.symm.trans h
    simp only [Option.some.injEq, Prod.mk.injEq] at hh
    obtain ⟨rfl, rfl⟩ := hh
    refine ⟨rfl, HEG.out, z0r HD.out (by omega), OwnOps.nil _ _ _, OwnOps.nil _ _ _⟩
theorem open5_not (ad : Option Addr) (n c : Nat) (l : List UInt8) (big : Bool) (w : World) (hs : Bs w ad n c l) (hn : n ≤ 1048576) (h2 : (rowsO big l).2.2 ≠ (0, 0)) :
    Calls Try.prog 59 #[.agg #[.int .i64 5, .bool false, .int .u32 0, .int .i64 0, .int .u32 0, .int .i64 0, .int .u64 0, .int .u32 0, .slice none 0 0, .slice none 0 0, .slice none 0 0], .slice ad n c, .bool big] w (OpenR ad n c l (openP 5 0 l big) w) := by
  have HB := Hd (Below.refl w.heap.size w)
  have HS := Hd hs
  have HBI := Hd z0d
  have hc := hs.le
  have HN := Hd hs.len
  clear hs
  have h : 0 ≤ n := Nat.zero_le _
  have hi : ¬ (n : Int) < 0 := by omega
  have HI : Hid ((Try.prog.info? 49).map (·.size) = some 2) := Hd (by kernel_rfl)
  obtain ⟨m, hm⟩ : ∃ m, m = n - 0 := ⟨_, rfl⟩
  obtain ⟨cc, hcc⟩ : ∃ m, m = c - 0 := ⟨_, rfl⟩
  obtain ⟨R, hR⟩ : ∃ R, R = l.drop 0 := ⟨_, rfl⟩
  have HM := Hd hm.symm
  have HCC := Hd hcc.symm
  have hm1 : m + 0 ≤ n := by omega
  have hm2 : n ≤ m + 0 := by omega
  have hm3 : m ≤ cc := by omega
  have hRl : R.length = m := by rw [hR, List.length_drop, ← HN.out, hm]
  have HRL := Hd hRl
  have HRR : Hid ((l.drop 0).take m = R) := Hd (by rw [← hR]; exact List.take_of_length_le (by omega))
  have HR := Hd hR
  clear hm hcc hR hRl
  have hRe : R = l := by rw [HR.out, List.drop_zero]
  obtain ⟨X, hX⟩ : ∃ X, X = rowsO big R := ⟨_, rfl⟩
  obtain ⟨X1, X2, X3⟩ := X
  have HX := Hd hX.symm
  have h3 : X3 ≠ (0, 0) := by rw [← hRe, ← hX] at h2; exact h2
  have HO : Hid (openP 5 0 l big = none) := Hd (by unfold openP; simp [h2])
  have HB1 := Hd (show true = !decide (X3 = (0, 0)) by simp [h3])
  have H3 := Hd h3
  clear h3
  clear HN h2 hX hRe
  go_enter Try.func59, Try.ntmps59
  go_wp2_with (first
 | ((with_reducible refine sl 3 ?_); (refine z0a rfl 27 (.tmp 0) rfl #[.int .i64 5, .bool false, .int .u32 0, .int .i64 0, .int .u32 0, .int .i64 0, .int .u64 0, .int .u32 0, .slice none 0 0, .slice none 0 0, .slice none 0 0] rfl ?_); intro w1 g3 he__ le_g3 lt_g3 hg__ hb__; have HG3 := Hd hg__; have hE__ := cU HB bup hb__; replace HB := ck HB hE__; clear hE__; clear hg__ hb__ he__; simp only [PT])
 | ((with_reducible refine sl 4 ?_); (refine z0a rfl 24 (.tmp 1) rfl #[.slice ad n c] rfl ?_); intro w2 g4 he__ le_g4 lt_g4 hg__ hb__; have HG4 := Hd hg__; have hE__ := cU HB bup hb__; replace HB := ck HB hE__; replace HG3 := ck HG3 hE__; clear hE__; clear hg__ hb__ he__; simp only [PT])
 | ((with_reducible refine sl 5 ?_); (refine z0a rfl 4 (.tmp 2) rfl #[.bool big] rfl ?_); intro w3 g5 he__ le_g5 lt_g5 hg__ hb__; have HG5 := Hd hg__; have hE__ := cU HB bup hb__; replace HB := ck HB hE__; replace HG3 := ck HG3 hE__; replace HG4 := ck HG4 hE__; clear hE__; clear hg__ hb__ he__; simp only [PT])
 | ((with_reducible refine sl 6 ?_); (refine z09 rfl 27 rfl (.agg #[.int .i64 0, .bool false, .int .u32 0, .int .i64 0, .int .u32 0, .int .i64 0, .int .u64 0, .int .u32 0, .slice none 0 0, .slice none 0 0, .slice none 0 0]) #[.int .i64 0, .bool false, .int .u32 0, .int .i64 0, .int .u32 0, .int .i64 0, .int .u64 0, .int .u32 0, .slice none 0 0, .slice none 0 0, .slice none 0 0] 11 (by kernel_rfl) rfl ?_); intro w4 g6 he__ le_g6 lt_g6 hg__ hb__; have HG6 := Hd hg__; have hE__ := cU HB bup hb__; replace HB := ck HB hE__; replace HG3 := ck HG3 hE__; replace HG4 := ck HG4 hE__; replace HG5 := ck HG5 hE__; clear hE__; clear hg__ hb__ he__; simp only [PT])
 | ((with_reducible refine sl 19 ?_); (refine z1h rfl (.tmp 16) (.tmp 18) rfl _ _ rfl rfl (.int .i64 0) need_at5 ?_); simp only [PT])
 | ((with_reducible refine sl 18 ?_); (refine z01 rfl 3 (.tmp 17) rfl g3 0 rfl (.int .i64 5) HG3.out rfl Try.underlying3 rfl ?_); simp only [PT])
 | ((with_reducible refine sl 20 ?_); (refine z01 rfl 24 (.tmp 4) rfl g4 0 rfl (.slice ad n c) HG4.out rfl Try.underlying24 rfl ?_); simp only [PT])
 | ((with_reducible refine sl 30 ?_); (refine z01 rfl 3 (.tmp 29) rfl g3 0 rfl (.int .i64 5) HG3.out rfl Try.underlying3 rfl ?_); simp only [PT])
 | ((with_reducible refine sl 26 ?_); (refine z01 rfl 24 (.tmp 4) rfl g4 0 rfl (.slice ad n c) HG4.out rfl Try.underlying24 rfl ?_); simp only [PT])
 | ((with_reducible refine sl 28 ?_); (refine z0b elB rfl (.tmp 26) (some (.tmp 27)) none rfl rfl 0 n (.inr ⟨.i64, rfl⟩) (.inl ⟨rfl, rfl⟩) (by omega) (by omega) m cc HM.out HCC.out ?_); intro ad28 had28; have HRG := Hd (show ∀ w0, Bs w0 ad n c l → Bs w0 ad28 m cc R from fun w0 h0 => Bs.partG h0 0 n m cc (by omega) (Nat.le_refl _) HM.out HCC.out ad28 had28 R HRR.out); have HRW := Hd (HRG.out _ HS.out); clear had28; simp only [PT])
 | ((with_reducible refine sl 119 ?_); (refine z01 rfl 4 (.tmp 5) rfl g5 0 rfl (.bool big) HG5.out rfl Try.underlying4 rfl ?_); simp only [PT])
 | (go_at_call 83; (refine (rowsO_any ad28 m cc R big _ (HRW.out.below (HB.out.trans (Below.mono bup HB.out.size))) (by omega)).mono ?_); intro e w5 hr; rw [HX.out] at hr; dsimp only at hr; obtain ⟨ad5, n5, c5, os, rfl, how, hvs, hb__⟩ := hr; have HW := Hd (how.base (base' := g6 + 1) (lt_of_block (by exact HG6.out))); have HVS := Hd hvs; have hE__ := cU HB bup hb__; replace HB := ck HB hE__; replace HG3 := ck HG3 hE__; replace HG4 := ck HG4 hE__; replace HG5 := ck HG5 hE__; replace HG6 := ck HG6 hE__; clear hE__; clear hb__ how hvs)
 | ((with_reducible refine sl 15 ?_); (refine z09 rfl 49 rfl (.agg #[.int .i64 0, .int .i64 0]) #[.int .i64 0, .int .i64 0] 2 (by kernel_rfl) rfl ?_); intro w6 g15 he__ le_g15 lt_g15 hg__ hb__; have HG15 := Hd hg__; have le15 : w5.heap.size ≤ g15 := le_g15; have HBA := Hd (show Below w5.heap.size w5 w6 from Below.trans bup hb__); have sz5 := lt_of_block HG6.out; have hE__ := cU HB bup hb__; replace HB := ck HB hE__; replace HG3 := ck HG3 hE__; replace HG4 := ck HG4 hE__; replace HG5 := ck HG5 hE__; replace HG6 := ck HG6 hE__; clear hE__; clear hg__ hb__ he__; simp only [PT])
 | ((with_reducible show wpList _ _ _ (⟨none, .store _ (.tmp 15) (.tmp 123), _, _, _, _⟩ :: _) _ _); (refine z02 rfl 49 (.tmp 15) (.tmp 123) rfl g15 (spotC X3).toArray rfl rfl HG15.out HI.out rfl (all1 (spotC X3) rfl) ?_); intro w7 hs__ hr__; replace HB := cg HB bup hr__ (by omega); replace HG3 := cg HG3 bup hr__ (by omega); replace HG4 := cg HG4 bup hr__ (by omega); replace HG5 := cg HG5 bup hr__ (by omega); replace HG6 := cg HG6 bup hr__ (by omega); replace HBA := cg HBA bup hr__ (by omega); replace HW := cW1 HW HBA.out; clear HG15; have HG15 := Hd hs__; clear hs__ hr__; simp only [PT])
 | ((with_reducible refine sl 124 ?_); (refine z05 rfl 49 (.tmp 15) rfl g15 0 rfl (spotC X3) _ (z00 HG15.out) Try.underlying49 rfl HI.out ?_); simp only [PT])
 | ((with_reducible refine sl 126 ?_); (refine z3e X3 (0, 0) true HB1.out rfl (.tmp 124) (.tmp 125) rfl rfl rfl ?_); simp only [PT])
 | ((with_reducible refine sl 127 ?_); (refine z05 rfl 27 (.tmp 3) rfl g3 0 rfl [.int .i64 5, .bool false, .int .u32 0, .int .i64 0, .int .u32 0, .int .i64 0, .int .u64 0, .int .u32 0, .slice none 0 0, .slice none 0 0, .slice none 0 0] _ (z00 HG3.out) Try.underlying27 rfl HBI.out ?_); simp only [PT])
 | ((with_reducible show wpList _ _ _ (⟨none, .store _ (.tmp 6) (.tmp 127), _, _, _, _⟩ :: _) _ _); (refine z02 rfl 27 (.tmp 6) (.tmp 127) rfl g6 #[.int .i64 5, .bool false, .int .u32 0, .int .i64 0, .int .u32 0, .int .i64 0, .int .u64 0, .int .u32 0, .slice none 0 0, .slice none 0 0, .slice none 0 0] rfl rfl HG6.out HBI.out rfl (all1 _ rfl) ?_); intro w8 hs__ hr__; replace HB := cg HB bup hr__ (by omega); replace HG3 := cg HG3 bup hr__ (by omega); clear HG6; have HG6 := Hd hs__; clear hs__ hr__; simp only [PT]))
  all_goals
    (try simp only [Exit.inBlock, Exit.then, Exit.noGoto_ret])
    refine z04 (cs := [.int .i64 5, .bool false, .int .u32 0, .int .i64 0, .int .u32 0, .int .i64 0, .int .u64 0, .int .u32 0, .slice none 0 0, .slice none 0 0, .slice none 0 0]) rfl rfl (z00 HG6.out) Try.underlying27 rfl HBI.out rfl ?_
    exact ⟨⟨5, false, 0, 0, 0, 0, 0, 0, none, 0, 0, [], none, 0, 0, [], none, 0, 0, []⟩, none, 0, 0, false, rfl, by rw [HO.out]; rfl, fun x r h => absurd (HO.out.symm.trans h) (by simp), HB.out⟩
theorem open5_ok (ad : Option Addr) (n c : Nat) (l : List UInt8) (big : Bool) (w : World) (hs : Bs w ad n c l) (hn : n ≤ 1048576) (h2 : (rowsO big l).2.2 = (0, 0)) :
    Calls Try.prog 59 #[.agg #[.int .i64 5, .bool false, .int .u32 0, .int .i64 0, .int .u32 0, .int .i64 0, .int .u64 0, .int .u32 0, .slice none 0 0, .slice none 0 0, .slice none 0 0], .slice ad n c, .bool big] w (OpenR ad n c l (openP 5 0 l big) w) := by
  have HB := Hd (Below.refl w.heap.size w)
  have HS := Hd hs
  have HBI := Hd z0d
  have hc := hs.le
  have HN := Hd hs.len
  clear hs
  have h : 0 ≤ n := Nat.zero_le _
  have hi : ¬ (n : Int) < 0 := by omega
  have HI : Hid ((Try.prog.info? 49).map (·.size) = some 2) := Hd (by kernel_rfl)
  obtain ⟨m, hm⟩ : ∃ m, m = n - 0 := ⟨_, rfl⟩
  obtain ⟨cc, hcc⟩ : ∃ m, m = c - 0 := ⟨_, rfl⟩
  obtain ⟨R, hR⟩ : ∃ R, R = l.drop 0 := ⟨_, rfl⟩
  have HM := Hd hm.symm
  have HCC := Hd hcc.symm
  have hm1 : m + 0 ≤ n := by omega
  have hm2 : n ≤ m + 0 := by omega
  have hm3 : m ≤ cc := by omega
  have hRl : R.length = m := by rw [hR, List.length_drop, ← HN.out, hm]
  have HRL := Hd hRl
  have HRR : Hid ((l.drop 0).take m = R) := Hd (by rw [← hR]; exact List.take_of_length_le (by omega))
  have HR := Hd hR
  clear hm hcc hR hRl
  have hRe : R = l := by rw [HR.out, List.drop_zero]
  obtain ⟨X, hX⟩ : ∃ X, X = rowsO big R := ⟨_, rfl⟩
  obtain ⟨X1, X2, X3⟩ := X
  have HX := Hd hX.symm
  have h3 : X3 = (0, 0) := by rw [← hRe, ← hX] at h2; exact h2
  have hx2 : X2 ≤ m := by
    have := (rowsO_ok big R (by rw [← hX]; exact h3)).2.2
    rw [← hX] at this
    have e := HRL.out
    exact e ▸ this
  have HO : Hid (openP 5 0 l big = some ({ noneB with kind := 5, names := X1 }, R.drop X2)) := Hd (by unfold openP; rw [← hRe, ← hX]; simp [h3])
  clear HN h2 hX hRe
  subst h3
  go_enter Try.func59, Try.ntmps59
  go_wp2_with (first
 | ((with_reducible refine sl 3 ?_); (refine z0a rfl 27 (.tmp 0) rfl #[.int .i64 5, .bool false, .int .u32 0, .int .i64 0, .int .u32 0, .int .i64 0, .int .u64 0, .int .u32 0, .slice none 0 0, .slice none 0 0, .slice none 0 0] rfl ?_); intro w1 g3 he__ le_g3 lt_g3 hg__ hb__; have HG3 := Hd hg__; have hE__ := cU HB bup hb__; replace HB := ck HB hE__; clear hE__; clear hg__ hb__ he__; simp only [PT])
 | ((with_reducible refine sl 4 ?_); (refine z0a rfl 24 (.tmp 1) rfl #[.slice ad n c] rfl ?_); intro w2 g4 he__ le_g4 lt_g4 hg__ hb__; have HG4 := Hd hg__; have hE__ := cU HB bup hb__; replace HB := ck HB hE__; replace HG3 := ck HG3 hE__; clear hE__; clear hg__ hb__ he__; simp only [PT])
 | ((with_reducible refine sl 5 ?_); (refine z0a rfl 4 (.tmp 2) rfl #[.bool big] rfl ?_); intro w3 g5 he__ le_g5 lt_g5 hg__ hb__; have HG5 := Hd hg__; have hE__ := cU HB bup hb__; replace HB := ck HB hE__; replace HG3 := ck HG3 hE__; replace HG4 := ck HG4 hE__; clear hE__; clear hg__ hb__ he__; simp only [PT])
 | ((with_reducible refine sl 6 ?_); (refine z09 rfl 27 rfl (.agg #[.int .i64 0, .bool false, .int .u32 0, .int .i64 0, .int .u32 0, .int .i64 0, .int .u64 0, .int .u32 0, .slice none 0 0, .slice none 0 0, .slice none 0 0]) #[.int .i64 0, .bool false, .int .u32 0, .int .i64 0, .int .u32 0, .int .i64 0, .int .u64 0, .int .u32 0, .slice none 0 0, .slice none 0 0, .slice none 0 0] 11 (by kernel_rfl) rfl ?_); intro w4 g6 he__ le_g6 lt_g6 hg__ hb__; have HG6 := Hd hg__; have hE__ := cU HB bup hb__; replace HB := ck HB hE__; replace HG3 := ck HG3 hE__; replace HG4 := ck HG4 hE__; replace HG5 := ck HG5 hE__; clear hE__; clear hg__ hb__ he__; simp only [PT])
 | ((with_reducible refine sl 19 ?_); (refine z1h rfl (.tmp 16) (.tmp 18) rfl _ _ rfl rfl (.int .i64 0) need_at5 ?_); simp only [PT])
 | ((with_reducible refine sl 18 ?_); (refine z01 rfl 3 (.tmp 17) rfl g3 0 rfl (.int .i64 5) HG3.out rfl Try.underlying3 rfl ?_); simp only [PT])
 | ((with_reducible refine sl 20 ?_); (refine z01 rfl 24 (.tmp 4) rfl g4 0 rfl (.slice ad n c) HG4.out rfl Try.underlying24 rfl ?_); simp only [PT])
 | ((with_reducible refine sl 30 ?_); (refine z01 rfl 3 (.tmp 29) rfl g3 0 rfl (.int .i64 5) HG3.out rfl Try.underlying3 rfl ?_); simp only [PT])
 | ((with_reducible refine sl 26 ?_); (refine z01 rfl 24 (.tmp 4) rfl g4 0 rfl (.slice ad n c) HG4.out rfl Try.underlying24 rfl ?_); simp only [PT])
 | ((with_reducible refine sl 28 ?_); (refine z0b elB rfl (.tmp 26) (some (.tmp 27)) none rfl rfl 0 n (.inr ⟨.i64, rfl⟩) (.inl ⟨rfl, rfl⟩) (by omega) (by omega) m cc HM.out HCC.out ?_); intro ad28 had28; have HRG := Hd (show ∀ w0, Bs w0 ad n c l → Bs w0 ad28 m cc R from fun w0 h0 => Bs.partG h0 0 n m cc (by omega) (Nat.le_refl _) HM.out HCC.out ad28 had28 R HRR.out); have HRW := Hd (HRG.out _ HS.out); clear had28; simp only [PT])
 | ((with_reducible refine sl 119 ?_); (refine z01 rfl 4 (.tmp 5) rfl g5 0 rfl (.bool big) HG5.out rfl Try.underlying4 rfl ?_); simp only [PT])
 | (go_at_call 83; (refine (rowsO_any ad28 m cc R big _ (HRW.out.below (HB.out.trans (Below.mono bup HB.out.size))) (by omega)).mono ?_); intro e w5 hr; rw [HX.out] at hr; dsimp only at hr; obtain ⟨ad5, n5, c5, os, rfl, how, hvs, hb__⟩ := hr; have HW := Hd (how.base (base' := g6 + 1) (lt_of_block (by exact HG6.out))); have HVS := Hd hvs; have hE__ := cU HB bup hb__; replace HB := ck HB hE__; replace HG3 := ck HG3 hE__; replace HG4 := ck HG4 hE__; replace HG5 := ck HG5 hE__; replace HG6 := ck HG6 hE__; clear hE__; clear hb__ how hvs)
 | ((with_reducible refine sl 15 ?_); (refine z09 rfl 49 rfl (.agg #[.int .i64 0, .int .i64 0]) #[.int .i64 0, .int .i64 0] 2 (by kernel_rfl) rfl ?_); intro w6 g15 he__ le_g15 lt_g15 hg__ hb__; have HG15 := Hd hg__; have le15 : w5.heap.size ≤ g15 := le_g15; have HBA := Hd (show Below w5.heap.size w5 w6 from Below.trans bup hb__); have sz5 := lt_of_block HG6.out; have hE__ := cU HB bup hb__; replace HB := ck HB hE__; replace HG3 := ck HG3 hE__; replace HG4 := ck HG4 hE__; replace HG5 := ck HG5 hE__; replace HG6 := ck HG6 hE__; clear hE__; clear hg__ hb__ he__; simp only [PT])
 | ((with_reducible show wpList _ _ _ (⟨none, .store _ (.tmp 15) (.tmp 123), _, _, _, _⟩ :: _) _ _); (refine z02 rfl 49 (.tmp 15) (.tmp 123) rfl g15 (spotC (0, 0)).toArray rfl rfl HG15.out HI.out rfl (all1 (spotC (0, 0)) rfl) ?_); intro w7 hs__ hr__; replace HB := cg HB bup hr__ (by omega); replace HG3 := cg HG3 bup hr__ (by omega); replace HG4 := cg HG4 bup hr__ (by omega); replace HG5 := cg HG5 bup hr__ (by omega); replace HG6 := cg HG6 bup hr__ (by omega); replace HBA := cg HBA bup hr__ (by omega); replace HW := cW1 HW HBA.out; clear HG15; have HG15 := Hd hs__; clear hs__ hr__; simp only [PT])
 | ((with_reducible refine sl 124 ?_); (refine z05 rfl 49 (.tmp 15) rfl g15 0 rfl (spotC (0, 0)) _ (z00 HG15.out) Try.underlying49 rfl HI.out ?_); simp only [PT])
 | ((with_reducible refine sl 126 ?_); (refine z3e (0, 0) (0, 0) false (by rfl) rfl (.tmp 124) (.tmp 125) rfl rfl rfl ?_); simp only [PT]))
  refine wp_region_held_drew (S := fun u => True) (by kernel_rfl) ?_ (fun hHeld => ?_); (focus (exact trivial)); (refine tk 0 (oi := ⟨some 128, _, _, _, _, _⟩) (v := ?_) rfl (by kernel_rfl) (.inl ⟨by rfl, ?_⟩) hHeld ?_; rotate_left; focus (intro w hSw; (try dsimp only at hSw); go_simp; try with_reducible rfl)); simp only [PT]; (refine tk 1 (oi := ⟨some 129, _, _, _, _, _⟩) (v := ?_) rfl (by kernel_rfl) (.inl ⟨by rfl, ?_⟩) hHeld ?_; rotate_left; focus (intro w hSw; (try dsimp only at hSw); go_simp; try with_reducible rfl)); simp only [PT]; (refine tk 2 (oi := ⟨some 130, _, _, _, _, _⟩) (v := ?_) rfl (by kernel_rfl) (.inl ⟨by rfl, ?_⟩) hHeld ?_; rotate_left; focus (intro w hSw; (try dsimp only at hSw); go_simp; try with_reducible rfl)); simp only [PT]; refine' tk 3 (oi := ⟨some 131, _, _, _, _, _⟩) (v := _) rfl (by kernel_rfl) (z14 elB rfl (.tmp 129) (some (.tmp 130)) none rfl rfl X2 m (.inr ⟨.i64, rfl⟩) (.inl ⟨rfl, rfl⟩) (by omega) (by omega)) hHeld ?_; simp only [PT]; (refine tk 4 (oi := ⟨some 132, _, _, _, _, _⟩) (v := ?_) rfl (by kernel_rfl) (.inl ⟨by rfl, ?_⟩) hHeld ?_; rotate_left; focus (intro w hSw; (try dsimp only at hSw); go_simp; try with_reducible rfl)); simp only [PT]; refine wpAnyH_ready (rs := [5]) (by kernel_rfl) (by simp) ?_; refine (AllReadyH.cons (o := ⟨none, _, _, _, _, _⟩) rfl (fun K hK => ?_) AllReadyH.nil); ((refine step_storeF rfl 25 (.tmp 132) (.tmp 128) rfl g3 9 (.slice ad5 n5 c5) rfl rfl rfl HG3.out (by simp) (by kernel_rfl) #[.int .i64 5, .bool false, .int .u32 0, .int .i64 0, .int .u32 0, .int .i64 0, .int .u64 0, .int .u32 0, .slice none 0 0, .slice ad5 n5 c5, .slice none 0 0] rfl ?_); intro w8 hs__ hr__; replace HB := cg HB bup hr__ (by omega); replace HG4 := cg HG4 bup hr__ (by omega); replace HG5 := cg HG5 bup hr__ (by omega); replace HG6 := cg HG6 bup hr__ (by omega); replace HW := cg HW bup hr__ (by omega); clear HG3; have HG3 := Hd hs__; clear hs__ hr__); refine hK.out _ _ ?_ (fun hHeld => ?_); (focus (exact trivial)); clear hK K; (try simp only [PT]); (refine tk 6 (oi := ⟨some 11, _, _, _, _, _⟩) (v := ?_) rfl (by kernel_rfl) (.inl ⟨by rfl, ?_⟩) hHeld ?_; rotate_left; focus (intro w hSw; (try dsimp only at hSw); go_simp; try with_reducible rfl)); simp only [PT]; refine wpAnyH_done (by kernel_rfl) ?_ _
  all_goals
    go_wp2_with (first
 | ((with_reducible refine sl 146 ?_); (refine z05 rfl 27 (.tmp 3) rfl g3 0 rfl [.int .i64 5, .bool false, .int .u32 0, .int .i64 0, .int .u32 0, .int .i64 0, .int .u64 0, .int .u32 0, .slice none 0 0, .slice ad5 n5 c5, .slice none 0 0] _ (z00 HG3.out) Try.underlying27 rfl HBI.out ?_); simp only [PT])
 | ((with_reducible show wpList _ _ _ (⟨none, .store _ (.tmp 6) (.tmp 146), _, _, _, _⟩ :: _) _ _); (refine z02 rfl 27 (.tmp 6) (.tmp 146) rfl g6 #[.int .i64 5, .bool false, .int .u32 0, .int .i64 0, .int .u32 0, .int .i64 0, .int .u64 0, .int .u32 0, .slice none 0 0, .slice ad5 n5 c5, .slice none 0 0] rfl rfl HG6.out HBI.out rfl (all1 _ rfl) ?_); intro w9 hs__ hr__; replace HB := cg HB bup hr__ (by omega); replace HG3 := cg HG3 bup hr__ (by omega); replace HW := cg HW bup hr__ (by omega); clear HG6; have HG6 := Hd hs__; clear hs__ hr__; simp only [PT]))
    (try simp only [Exit.inBlock, Exit.then, Exit.noGoto_ret])
    refine z04 (cs := [.int .i64 5, .bool false, .int .u32 0, .int .i64 0, .int .u32 0, .int .i64 0, .int .u64 0, .int .u32 0, .slice none 0 0, .slice ad5 n5 c5, .slice none 0 0]) rfl rfl (z00 HG6.out) Try.underlying27 rfl HBI.out rfl ?_
    refine ⟨⟨5, false, 0, 0, 0, 0, 0, 0, none, 0, 0, [], ad5, n5, c5, os, none, 0, 0, []⟩, _, _, _, true, rfl, by rw [HO.out]; rfl, fun x r h => ?_, HB.out⟩
    have hh := HO.out.symm.trans h
    simp only [Option.some.injEq, Prod.mk.injEq] at hh
    obtain ⟨rfl, rfl⟩ := hh
    refine ⟨(by rw [← HVS.out]; rfl), fun w0 h0 => Bs.drop8 (HRG.out w0 h0) X2 hx2, z1i _ _ _ _, HW.out.base (by omega), OwnOps.nil _ _ _⟩
def hdrC (t : Nat) : List Value := [.int .i64 (kindP t), .bool false, .int .u32 ((if kindP t = 7 then t else 0 : Nat) : Int), .int .i64 0, .int .u32 0, .int .i64 0, .int .u64 0, .int .u32 0, .slice none 0 0, .slice none 0 0, .slice none 0 0]
theorem kindP_cases (t : Nat) : kindP t = 1 ∨ kindP t = 2 ∨ kindP t = 3 ∨ kindP t = 4 ∨ kindP t = 5 ∨ kindP t = 6 ∨ kindP t = 7 := by
  unfold kindP
  repeat' split
  all_goals simp
theorem open_any (t : Nat) (ad : Option Addr) (n c : Nat) (l : List UInt8) (big : Bool) (w : World) (hs : Bs w ad n c l) (hn : n ≤ 1048576) :
    Calls Try.prog 59 #[.agg (hdrC t).toArray, .slice ad n c, .bool big] w (OpenR ad n c l (openP (kindP t) t l big) w) := by
  have hN := hs.len
  unfold hdrC
  rcases kindP_cases t with h | h | h | h | h | h | h <;> rw [h]
  · rw [show openP 1 t l big = openP 1 0 l big from rfl, if_neg (by decide)]
    by_cases hlt : n < 16
    · exact open1_short ad n c l big w hs hn hlt
    · by_cases h1 : w2 big l 4 = 1
      · exact open1_ok ad n c l big w hs hn (by omega) h1
      · exact open1_not ad n c l big w hs hn (by omega) h1
  · rw [show openP 2 t l big = openP 2 0 l big from rfl, if_neg (by decide)]
    by_cases hlt : n < 8
    · exact open2_short ad n c l big w hs hn hlt
    · exact open2_ok ad n c l big w hs hn (by omega)
  · rw [show openP 3 t l big = openP 3 0 l big from rfl, if_neg (by decide)]
    by_cases hlt : n < 20
    · exact open3_short ad n c l big w hs hn hlt
    · by_cases h1 : n - 20 < w4 big l 12
      · exact open3_short2 ad n c l big w hs hn (by omega) h1
      · by_cases h2 : n - 20 < w4 big l 12 + padN (w4 big l 12)
        · exact open3_short3 ad n c l big w hs hn (by omega) h1 h2
        · exact open3_ok ad n c l big w hs hn (by omega) h2
  · rw [show openP 4 t l big = openP 4 0 l big from rfl, if_neg (by decide)]
    by_cases hlt : n < 4
    · exact open4_short ad n c l big w hs hn hlt
    · exact open4_ok ad n c l big w hs hn (by omega)
  · rw [show openP 5 t l big = openP 5 0 l big from rfl, if_neg (by decide)]
    by_cases h1 : (rowsO big l).2.2 = (0, 0)
    · exact open5_ok ad n c l big w hs hn h1
    · exact open5_not ad n c l big w hs hn h1
  · rw [show openP 6 t l big = openP 6 0 l big from rfl, if_neg (by decide)]
    by_cases hlt : n < 12
    · exact open6_short ad n c l big w hs hn hlt
    · exact open6_ok ad n c l big w hs hn (by omega)
  · rw [if_pos rfl]
    exact open7_ok t ad n c l big w hs hn
end Go.Proofs.Ytmfplinbbcoahaa
