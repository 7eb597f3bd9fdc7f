/-
  Joined by program (merge.py): RO5, RO6, RO7, RO8, ROpn.
-/
import Derived.Test.YtmfplinbbcoahaaR2
import Derived.Test.YtmfplinbbcoahaaR3
import Derived.Test.YtmfplinbbcoahaaR7
import Derived.Test.YtmfplinbbcoahaaR9
import Derived.Test.YtmfplinbbcoahaaR12
set_option linter.unusedVariables false
set_option linter.unusedSimpArgs false
set_option maxRecDepth 100000
set_option maxHeartbeats 16000000
namespace Go.Proofs.Ytmfplinbbcoahaa
open Go.RowKit Go.Sort
theorem rowsO_cases (big : Bool) (l : List UInt8) (X1 : List OV) (X2 : Nat) (XE : Bool) (X3 : Nat × Int) (hX : rowsB big l = (X1, X2, XE, X3)) :
    (X3 = (0, 0) ∧ XE = true ∧ rowsO big l = (X1, X2, (0, 0))) ∨ (X3 = (0, 0) ∧ XE = false ∧ (rowsO big l).2.2 ≠ (0, 0)) ∨ (X3.2 ≠ 0 ∧ (rowsO big l).2.2 ≠ (0, 0)) := by
  have e : rowsO big l = rowsR (X1, X2, XE, X3) := by unfold rowsO; rw [hX]
  rw [e]
  have hs : X3 = (0, 0) ∨ X3.2 ≠ 0 := by
    have h2 : (rowsS big l.length l 0 []).2.2.2 = X3 := congrArg (fun r : RR => r.2.2.2) hX
    rcases rowsS_spot big l.length l 0 [] with h | ⟨h, _⟩
    · exact .inl (by rw [← h2]; exact h)
    · refine .inr fun e => ?_
      rw [h2, e] at h
      omega
  rcases hs with rfl | h
  · cases XE
    · exact .inr (.inl ⟨rfl, rfl, by simp [rowsR]⟩)
    · exact .inl ⟨rfl, rfl, by simp [rowsR]⟩
  · refine .inr (.inr ⟨h, ?_⟩)
    have hne : X3 ≠ (0, 0) := fun e => h (by rw [e])
    simp [rowsR, hne]
theorem refOpen5 (ad : Option Addr) (n c : Nat) (l : List UInt8) (big : Bool) (w : World) (hs : Bs w ad n c l) (hn : n ≤ 1048576) :
    Calls Try.prog 62 #[.agg #[.int .i64 5, .bool false, .int .u32 0, .int .i64 0, .int .u32 0, .int .i64 0, .int .u64 0, .int .u32 0, .slice none 0 0, .slice none 0 0, .slice none 0 0], .slice ad n c, .bool big] w (OpenR ad n c l (openP 5 0 l big) w) := by
  have HB := Hd (Below.refl w.heap.size w)
  have HS := Hd hs
  have HBI := Hd z0d
  have hc := hs.le
  have HN := Hd hs.len
  clear hs
  have h : 0 ≤ n := Nat.zero_le _
  have hi : ¬ (n : Int) < 0 := by omega
  have HI : Hid ((Try.prog.info? 49).map (·.size) = some 2) := Hd (by kernel_rfl)
  obtain ⟨X, hX⟩ : ∃ X, X = rowsB big l := ⟨_, rfl⟩
  obtain ⟨X1, X2, XE, X3⟩ := X
  have HX := Hd hX.symm
  rcases rowsO_cases big l X1 X2 XE X3 hX.symm with ⟨rfl, rfl, h2⟩ | ⟨rfl, rfl, h2⟩ | ⟨hx, h2⟩
  · have hx2 : X2 ≤ n := by
      have := (rowsO_ok big l (by rw [h2])).2.2
      rw [h2] at this
      have e := HN.out
      exact e ▸ this
    have HO : Hid (openP 5 0 l big = some ({ noneB with kind := 5, names := X1 }, l.drop X2)) := Hd (by unfold openP; rw [h2]; simp)
    have HP5 : Hid (∀ w0, Bs w0 ad n c l → Bs w0 (subAd ad c X2 1) (n - X2) (c - X2) (l.drop X2)) := Hd (fun w0 h0 => Bs.drop8 h0 X2 hx2)
    clear HN h2 hX
    go_enter Try.func62, Try.ntmps62
    go_wp2_with (first
 | ((with_reducible refine sl 3 ?_); (refine z0a rfl 27 (.tmp 0) rfl #[.int .i64 5, .bool false, .int .u32 0, .int .i64 0, .int .u32 0, .int .i64 0, .int .u64 0, .int .u32 0, .slice none 0 0, .slice none 0 0, .slice none 0 0] rfl ?_); intro w1 g3 he__ le_g3 lt_g3 hg__ hb__; have HG3 := Hd hg__; have hE__ := cU HB bup hb__; replace HB := ck HB hE__; clear hE__; clear hg__ hb__ he__; simp only [PT])
 | ((with_reducible refine sl 6 ?_); (refine z09 rfl 27 rfl (.agg #[.int .i64 0, .bool false, .int .u32 0, .int .i64 0, .int .u32 0, .int .i64 0, .int .u64 0, .int .u32 0, .slice none 0 0, .slice none 0 0, .slice none 0 0]) #[.int .i64 0, .bool false, .int .u32 0, .int .i64 0, .int .u32 0, .int .i64 0, .int .u64 0, .int .u32 0, .slice none 0 0, .slice none 0 0, .slice none 0 0] 11 (by kernel_rfl) rfl ?_); intro w2 g6 he__ le_g6 lt_g6 hg__ hb__; have HG6 := Hd hg__; have hE__ := cU HB bup hb__; replace HB := ck HB hE__; replace HG3 := ck HG3 hE__; clear hE__; clear hg__ hb__ he__; simp only [PT])
 | ((with_reducible refine sl 25 ?_); (refine z1q rfl 101 3 8 _ rfl .i64 [0, 16, 8, 20, 4, 0, 12, 0] Try.underlying101 (by kernel_rfl) (by kernel_rfl) rfl (by decide) (by decide) (by rfl) ?_); intro w3 gL le_gL hg__ hb__; have HGL := Hd hg__; have hE__ := cU HB bup hb__; replace HB := ck HB hE__; replace HG3 := ck HG3 hE__; replace HG6 := ck HG6 hE__; clear hE__; clear hg__ hb__; simp only [PT])
 | ((with_reducible refine sl 27 ?_); (refine z01 rfl 3 (.tmp 26) rfl g3 0 rfl (.int .i64 5) HG3.out rfl Try.underlying3 rfl ?_); simp only [PT])
 | ((with_reducible refine sl 29 ?_); (refine z01 rfl 3 (.tmp 28) rfl gL 5 rfl (.int .i64 0) HGL.out rfl Try.underlying3 rfl ?_); simp only [PT])
 | ((with_reducible refine sl 36 ?_); (refine z01 rfl 3 (.tmp 35) rfl g3 0 rfl (.int .i64 5) HG3.out rfl Try.underlying3 rfl ?_); simp only [PT])
 | ((with_reducible refine sl 83 ?_); (refine z01 rfl 3 (.tmp 82) rfl g3 0 rfl (.int .i64 5) HG3.out rfl Try.underlying3 rfl ?_); simp only [PT])
 | (go_at_call 87; (refine (z2u ad n c l big _ (HS.out.below (HB.out.trans (Below.mono bup HB.out.size))) (by omega)).mono ?_); intro e w5 hr; rw [HX.out] at hr; dsimp only at hr; obtain ⟨ad5, n5, c5, os, rfl, how, hvs, hb__⟩ := hr; have HW := Hd (how.base (base' := g6 + 1) (lt_of_block (by exact HG6.out))); have HVS := Hd hvs; have hE__ := cU HB bup hb__; replace HB := ck HB hE__; replace HG3 := ck HG3 hE__; replace HG6 := ck HG6 hE__; clear hE__; clear hb__ how hvs)
 | ((with_reducible refine sl 24 ?_); (refine z09 rfl 49 rfl (.agg #[.int .i64 0, .int .i64 0]) #[.int .i64 0, .int .i64 0] 2 (by kernel_rfl) rfl ?_); intro w6 g24 he__ le_g24 lt_g24 hg__ hb__; have HG24 := Hd hg__; have le24 : w5.heap.size ≤ g24 := le_g24; have HBA := Hd (show Below w5.heap.size w5 w6 from Below.trans bup hb__); have sz5 := lt_of_block HG6.out; have hE__ := cU HB bup hb__; replace HB := ck HB hE__; replace HG3 := ck HG3 hE__; replace HG6 := ck HG6 hE__; clear hE__; clear hg__ hb__ he__; simp only [PT])
 | ((with_reducible show wpList _ _ _ (⟨none, .store _ (.tmp 24) (.tmp 164), _, _, _, _⟩ :: _) _ _); (refine z02 rfl 49 (.tmp 24) (.tmp 164) rfl g24 (spotC (0, 0)).toArray rfl rfl HG24.out HI.out rfl (all1 (spotC (0, 0)) rfl) ?_); intro w7 hs__ hr__; replace HB := cg HB bup hr__ (by omega); replace HG3 := cg HG3 bup hr__ (by omega); replace HG6 := cg HG6 bup hr__ (by omega); replace HBA := cg HBA bup hr__ (by omega); replace HW := cW1 HW HBA.out; clear HG24; have HG24 := Hd hs__; clear hs__ hr__; simp only [PT])
 | ((with_reducible refine sl 166 ?_); (refine z01 rfl 31 (.tmp 165) rfl g24 1 rfl (.int .i64 0) HG24.out rfl Try.underlying31 rfl ?_); simp only [PT])
 | ((with_reducible show wpList _ _ _ (⟨none, .store _ (.tmp 174) (.tmp 173), _, _, _, _⟩ :: _) _ _); (refine z0c rfl 25 (.tmp 174) (.tmp 173) rfl g3 9 (.slice ad5 n5 c5) rfl rfl rfl HG3.out (by simp) (by kernel_rfl) #[.int .i64 5, .bool false, .int .u32 0, .int .i64 0, .int .u32 0, .int .i64 0, .int .u64 0, .int .u32 0, .slice none 0 0, .slice ad5 n5 c5, .slice none 0 0] rfl ?_); intro w8 hs__ hr__; replace HB := cg HB bup hr__ (by omega); replace HG6 := cg HG6 bup hr__ (by omega); replace HW := cg HW bup hr__ (by omega); clear HG3; have HG3 := Hd hs__; clear hs__ hr__; simp only [PT]))
    refine wp_region_held_drew (S := fun u => True) (by kernel_rfl) ?_ (fun hHeld => ?_); (focus (exact trivial)); (refine tk 1 (oi := ⟨some 176, _, _, _, _, _⟩) (v := ?_) rfl (by kernel_rfl) (.inl ⟨by rfl, ?_⟩) hHeld ?_; rotate_left; focus (intro w hSw; (try dsimp only at hSw); go_simp; try with_reducible rfl)); simp only [PT]; (refine tk 2 (oi := ⟨some 177, _, _, _, _, _⟩) (v := ?_) rfl (by kernel_rfl) (.inl ⟨by rfl, ?_⟩) hHeld ?_; rotate_left; focus (intro w hSw; (try dsimp only at hSw); go_simp; try with_reducible rfl)); simp only [PT]; refine' tk 3 (oi := ⟨some 178, _, _, _, _, _⟩) (v := _) rfl (by kernel_rfl) (z14 elB rfl (.tmp 176) (some (.tmp 177)) none rfl rfl X2 n (.inr ⟨.i64, rfl⟩) (.inl ⟨rfl, rfl⟩) (by omega) (by omega)) hHeld ?_; simp only [PT]; refine wpAnyH_ready (rs := [0]) (by kernel_rfl) (by simp) ?_; refine (AllReadyH.cons (o := ⟨some 175, _, _, _, _, _⟩) rfl (fun K hK => ?_) AllReadyH.nil); ((refine z1m rfl 27 (.tmp 3) rfl g3 0 rfl [.int .i64 5, .bool false, .int .u32 0, .int .i64 0, .int .u32 0, .int .i64 0, .int .u64 0, .int .u32 0, .slice none 0 0, .slice ad5 n5 c5, .slice none 0 0] _ (by exact z00 HG3.out) Try.underlying27 rfl HBI.out ?_)); refine hK.out _ _ ?_ (fun hHeld => ?_); (focus (exact trivial)); clear hK K; (try simp only [PT]); refine wpAnyH_ready (rs := [4]) (by kernel_rfl) (by simp) ?_; refine (AllReadyH.cons (o := ⟨none, _, _, _, _, _⟩) rfl (fun K hK => ?_) AllReadyH.nil); ((refine z0j rfl 27 (.tmp 6) (.tmp 175) rfl g6 #[.int .i64 5, .bool false, .int .u32 0, .int .i64 0, .int .u32 0, .int .i64 0, .int .u64 0, .int .u32 0, .slice none 0 0, .slice ad5 n5 c5, .slice none 0 0] rfl rfl HG6.out HBI.out rfl (all1 _ rfl) ?_); intro w9 hs__ hr__; replace HB := cg HB bup hr__ (by omega); replace HG3 := cg HG3 bup hr__ (by omega); replace HW := cg HW bup hr__ (by omega); clear HG6; have HG6 := Hd hs__; clear hs__ hr__); refine hK.out _ _ ?_ (fun hHeld => ?_); (focus (exact trivial)); clear hK K; (try simp only [PT]); (refine tk 5 (oi := ⟨some 7, _, _, _, _, _⟩) (v := ?_) rfl (by kernel_rfl) (.inl ⟨by rfl, ?_⟩) hHeld ?_; rotate_left; focus (intro w hSw; (try dsimp only at hSw); go_simp; try with_reducible rfl)); simp only [PT]; (refine tk 6 (oi := ⟨some 8, _, _, _, _, _⟩) (v := ?_) rfl (by kernel_rfl) (.inl ⟨by rfl, ?_⟩) hHeld ?_; rotate_left; focus (intro w hSw; (try dsimp only at hSw); go_simp; try with_reducible rfl)); simp only [PT]; refine wpAnyH_done (by kernel_rfl) ?_ _
    all_goals
      go_wp2_with fail
      (try simp only [Exit.inBlock, Exit.then, Exit.noGoto_ret])
      refine z04 (cs := [.int .i64 5, .bool false, .int .u32 0, .int .i64 0, .int .u32 0, .int .i64 0, .int .u64 0, .int .u32 0, .slice none 0 0, .slice ad5 n5 c5, .slice none 0 0]) rfl rfl (z00 HG6.out) Try.underlying27 rfl HBI.out rfl ?_
      refine ⟨⟨5, false, 0, 0, 0, 0, 0, 0, none, 0, 0, [], ad5, n5, c5, os, none, 0, 0, []⟩, _, _, _, true, rfl, by rw [HO.out]; rfl, fun x r h => ?_, HB.out⟩
      have hh := HO.out.symm.trans h
      simp only [Option.some.injEq, Prod.mk.injEq] at hh
      obtain ⟨rfl, rfl⟩ := hh
      refine ⟨(by rw [← HVS.out]; rfl), HP5.out, z1i _ _ _ _, HW.out.base (by omega), OwnOps.nil _ _ _⟩
  · have HO : Hid (openP 5 0 l big = none) := Hd (by unfold openP; simp [h2])
    clear HN h2 hX
    go_enter Try.func62, Try.ntmps62
    go_wp2_with (first
 | ((with_reducible refine sl 3 ?_); (refine z0a rfl 27 (.tmp 0) rfl #[.int .i64 5, .bool false, .int .u32 0, .int .i64 0, .int .u32 0, .int .i64 0, .int .u64 0, .int .u32 0, .slice none 0 0, .slice none 0 0, .slice none 0 0] rfl ?_); intro w1 g3 he__ le_g3 lt_g3 hg__ hb__; have HG3 := Hd hg__; have hE__ := cU HB bup hb__; replace HB := ck HB hE__; clear hE__; clear hg__ hb__ he__; simp only [PT])
 | ((with_reducible refine sl 6 ?_); (refine z09 rfl 27 rfl (.agg #[.int .i64 0, .bool false, .int .u32 0, .int .i64 0, .int .u32 0, .int .i64 0, .int .u64 0, .int .u32 0, .slice none 0 0, .slice none 0 0, .slice none 0 0]) #[.int .i64 0, .bool false, .int .u32 0, .int .i64 0, .int .u32 0, .int .i64 0, .int .u64 0, .int .u32 0, .slice none 0 0, .slice none 0 0, .slice none 0 0] 11 (by kernel_rfl) rfl ?_); intro w2 g6 he__ le_g6 lt_g6 hg__ hb__; have HG6 := Hd hg__; have hE__ := cU HB bup hb__; replace HB := ck HB hE__; replace HG3 := ck HG3 hE__; clear hE__; clear hg__ hb__ he__; simp only [PT])
 | ((with_reducible refine sl 25 ?_); (refine z1q rfl 101 3 8 _ rfl .i64 [0, 16, 8, 20, 4, 0, 12, 0] Try.underlying101 (by kernel_rfl) (by kernel_rfl) rfl (by decide) (by decide) (by rfl) ?_); intro w3 gL le_gL hg__ hb__; have HGL := Hd hg__; have hE__ := cU HB bup hb__; replace HB := ck HB hE__; replace HG3 := ck HG3 hE__; replace HG6 := ck HG6 hE__; clear hE__; clear hg__ hb__; simp only [PT])
 | ((with_reducible refine sl 27 ?_); (refine z01 rfl 3 (.tmp 26) rfl g3 0 rfl (.int .i64 5) HG3.out rfl Try.underlying3 rfl ?_); simp only [PT])
 | ((with_reducible refine sl 29 ?_); (refine z01 rfl 3 (.tmp 28) rfl gL 5 rfl (.int .i64 0) HGL.out rfl Try.underlying3 rfl ?_); simp only [PT])
 | ((with_reducible refine sl 36 ?_); (refine z01 rfl 3 (.tmp 35) rfl g3 0 rfl (.int .i64 5) HG3.out rfl Try.underlying3 rfl ?_); simp only [PT])
 | ((with_reducible refine sl 83 ?_); (refine z01 rfl 3 (.tmp 82) rfl g3 0 rfl (.int .i64 5) HG3.out rfl Try.underlying3 rfl ?_); simp only [PT])
 | (go_at_call 87; (refine (z2u ad n c l big _ (HS.out.below (HB.out.trans (Below.mono bup HB.out.size))) (by omega)).mono ?_); intro e w5 hr; rw [HX.out] at hr; dsimp only at hr; obtain ⟨ad5, n5, c5, os, rfl, how, hvs, hb__⟩ := hr; have HW := Hd (how.base (base' := g6 + 1) (lt_of_block (by exact HG6.out))); have HVS := Hd hvs; have hE__ := cU HB bup hb__; replace HB := ck HB hE__; replace HG3 := ck HG3 hE__; replace HG6 := ck HG6 hE__; clear hE__; clear hb__ how hvs)
 | ((with_reducible refine sl 24 ?_); (refine z09 rfl 49 rfl (.agg #[.int .i64 0, .int .i64 0]) #[.int .i64 0, .int .i64 0] 2 (by kernel_rfl) rfl ?_); intro w6 g24 he__ le_g24 lt_g24 hg__ hb__; have HG24 := Hd hg__; have le24 : w5.heap.size ≤ g24 := le_g24; have HBA := Hd (show Below w5.heap.size w5 w6 from Below.trans bup hb__); have sz5 := lt_of_block HG6.out; have hE__ := cU HB bup hb__; replace HB := ck HB hE__; replace HG3 := ck HG3 hE__; replace HG6 := ck HG6 hE__; clear hE__; clear hg__ hb__ he__; simp only [PT])
 | ((with_reducible show wpList _ _ _ (⟨none, .store _ (.tmp 24) (.tmp 164), _, _, _, _⟩ :: _) _ _); (refine z02 rfl 49 (.tmp 24) (.tmp 164) rfl g24 (spotC (0, 0)).toArray rfl rfl HG24.out HI.out rfl (all1 (spotC (0, 0)) rfl) ?_); intro w7 hs__ hr__; replace HB := cg HB bup hr__ (by omega); replace HG3 := cg HG3 bup hr__ (by omega); replace HG6 := cg HG6 bup hr__ (by omega); replace HBA := cg HBA bup hr__ (by omega); replace HW := cW1 HW HBA.out; clear HG24; have HG24 := Hd hs__; clear hs__ hr__; simp only [PT])
 | ((with_reducible refine sl 166 ?_); (refine z01 rfl 31 (.tmp 165) rfl g24 1 rfl (.int .i64 0) HG24.out rfl Try.underlying31 rfl ?_); simp only [PT])
 | ((with_reducible refine sl 172 ?_); (refine z05 rfl 27 (.tmp 3) rfl g3 0 rfl [.int .i64 5, .bool false, .int .u32 0, .int .i64 0, .int .u32 0, .int .i64 0, .int .u64 0, .int .u32 0, .slice none 0 0, .slice none 0 0, .slice none 0 0] _ (z00 HG3.out) Try.underlying27 rfl HBI.out ?_); simp only [PT])
 | ((with_reducible show wpList _ _ _ (⟨none, .store _ (.tmp 6) (.tmp 172), _, _, _, _⟩ :: _) _ _); (refine z02 rfl 27 (.tmp 6) (.tmp 172) rfl g6 #[.int .i64 5, .bool false, .int .u32 0, .int .i64 0, .int .u32 0, .int .i64 0, .int .u64 0, .int .u32 0, .slice none 0 0, .slice none 0 0, .slice none 0 0] rfl rfl HG6.out HBI.out rfl (all1 _ rfl) ?_); intro w8 hs__ hr__; replace HB := cg HB bup hr__ (by omega); replace HG3 := cg HG3 bup hr__ (by omega); clear HG6; have HG6 := Hd hs__; clear hs__ hr__; simp only [PT]))
    all_goals
      (try simp only [Exit.inBlock, Exit.then, Exit.noGoto_ret])
      refine z04 (cs := [.int .i64 5, .bool false, .int .u32 0, .int .i64 0, .int .u32 0, .int .i64 0, .int .u64 0, .int .u32 0, .slice none 0 0, .slice none 0 0, .slice none 0 0]) rfl rfl (z00 HG6.out) Try.underlying27 rfl HBI.out rfl ?_
      exact ⟨⟨5, false, 0, 0, 0, 0, 0, 0, none, 0, 0, [], none, 0, 0, [], none, 0, 0, []⟩, none, 0, 0, false, rfl, by rw [HO.out]; rfl, fun x r h => absurd (HO.out.symm.trans h) (by simp), HB.out⟩
  · have HO : Hid (openP 5 0 l big = none) := Hd (by unfold openP; simp [h2])
    have hxb : (X3.2 != 0) = true := by simp [hx]
    have hxi : ¬ X3.2 = 0 := hx
    clear HN h2 hX hx
    go_enter Try.func62, Try.ntmps62
    go_wp2_with (first
 | ((with_reducible refine sl 3 ?_); (refine z0a rfl 27 (.tmp 0) rfl #[.int .i64 5, .bool false, .int .u32 0, .int .i64 0, .int .u32 0, .int .i64 0, .int .u64 0, .int .u32 0, .slice none 0 0, .slice none 0 0, .slice none 0 0] rfl ?_); intro w1 g3 he__ le_g3 lt_g3 hg__ hb__; have HG3 := Hd hg__; have hE__ := cU HB bup hb__; replace HB := ck HB hE__; clear hE__; clear hg__ hb__ he__; simp only [PT])
 | ((with_reducible refine sl 6 ?_); (refine z09 rfl 27 rfl (.agg #[.int .i64 0, .bool false, .int .u32 0, .int .i64 0, .int .u32 0, .int .i64 0, .int .u64 0, .int .u32 0, .slice none 0 0, .slice none 0 0, .slice none 0 0]) #[.int .i64 0, .bool false, .int .u32 0, .int .i64 0, .int .u32 0, .int .i64 0, .int .u64 0, .int .u32 0, .slice none 0 0, .slice none 0 0, .slice none 0 0] 11 (by kernel_rfl) rfl ?_); intro w2 g6 he__ le_g6 lt_g6 hg__ hb__; have HG6 := Hd hg__; have hE__ := cU HB bup hb__; replace HB := ck HB hE__; replace HG3 := ck HG3 hE__; clear hE__; clear hg__ hb__ he__; simp only [PT])
 | ((with_reducible refine sl 25 ?_); (refine z1q rfl 101 3 8 _ rfl .i64 [0, 16, 8, 20, 4, 0, 12, 0] Try.underlying101 (by kernel_rfl) (by kernel_rfl) rfl (by decide) (by decide) (by rfl) ?_); intro w3 gL le_gL hg__ hb__; have HGL := Hd hg__; have hE__ := cU HB bup hb__; replace HB := ck HB hE__; replace HG3 := ck HG3 hE__; replace HG6 := ck HG6 hE__; clear hE__; clear hg__ hb__; simp only [PT])
 | ((with_reducible refine sl 27 ?_); (refine z01 rfl 3 (.tmp 26) rfl g3 0 rfl (.int .i64 5) HG3.out rfl Try.underlying3 rfl ?_); simp only [PT])
 | ((with_reducible refine sl 29 ?_); (refine z01 rfl 3 (.tmp 28) rfl gL 5 rfl (.int .i64 0) HGL.out rfl Try.underlying3 rfl ?_); simp only [PT])
 | ((with_reducible refine sl 36 ?_); (refine z01 rfl 3 (.tmp 35) rfl g3 0 rfl (.int .i64 5) HG3.out rfl Try.underlying3 rfl ?_); simp only [PT])
 | ((with_reducible refine sl 83 ?_); (refine z01 rfl 3 (.tmp 82) rfl g3 0 rfl (.int .i64 5) HG3.out rfl Try.underlying3 rfl ?_); simp only [PT])
 | (go_at_call 87; (refine (z2u ad n c l big _ (HS.out.below (HB.out.trans (Below.mono bup HB.out.size))) (by omega)).mono ?_); intro e w5 hr; rw [HX.out] at hr; dsimp only at hr; obtain ⟨ad5, n5, c5, os, rfl, how, hvs, hb__⟩ := hr; have HW := Hd (how.base (base' := g6 + 1) (lt_of_block (by exact HG6.out))); have HVS := Hd hvs; have hE__ := cU HB bup hb__; replace HB := ck HB hE__; replace HG3 := ck HG3 hE__; replace HG6 := ck HG6 hE__; clear hE__; clear hb__ how hvs)
 | ((with_reducible refine sl 24 ?_); (refine z09 rfl 49 rfl (.agg #[.int .i64 0, .int .i64 0]) #[.int .i64 0, .int .i64 0] 2 (by kernel_rfl) rfl ?_); intro w6 g24 he__ le_g24 lt_g24 hg__ hb__; have HG24 := Hd hg__; have le24 : w5.heap.size ≤ g24 := le_g24; have HBA := Hd (show Below w5.heap.size w5 w6 from Below.trans bup hb__); have sz5 := lt_of_block HG6.out; have hE__ := cU HB bup hb__; replace HB := ck HB hE__; replace HG3 := ck HG3 hE__; replace HG6 := ck HG6 hE__; clear hE__; clear hg__ hb__ he__; simp only [PT])
 | ((with_reducible show wpList _ _ _ (⟨none, .store _ (.tmp 24) (.tmp 164), _, _, _, _⟩ :: _) _ _); (refine z02 rfl 49 (.tmp 24) (.tmp 164) rfl g24 (spotC X3).toArray rfl rfl HG24.out HI.out rfl (all1 (spotC X3) rfl) ?_); intro w7 hs__ hr__; replace HB := cg HB bup hr__ (by omega); replace HG3 := cg HG3 bup hr__ (by omega); replace HG6 := cg HG6 bup hr__ (by omega); replace HBA := cg HBA bup hr__ (by omega); replace HW := cW1 HW HBA.out; clear HG24; have HG24 := Hd hs__; clear hs__ hr__; simp only [PT])
 | ((with_reducible refine sl 166 ?_); (refine z01 rfl 31 (.tmp 165) rfl g24 1 rfl (.int .i64 X3.2) HG24.out rfl Try.underlying31 rfl ?_); simp only [PT])
 | ((with_reducible refine sl 172 ?_); (refine z05 rfl 27 (.tmp 3) rfl g3 0 rfl [.int .i64 5, .bool false, .int .u32 0, .int .i64 0, .int .u32 0, .int .i64 0, .int .u64 0, .int .u32 0, .slice none 0 0, .slice none 0 0, .slice none 0 0] _ (z00 HG3.out) Try.underlying27 rfl HBI.out ?_); simp only [PT])
 | ((with_reducible show wpList _ _ _ (⟨none, .store _ (.tmp 6) (.tmp 172), _, _, _, _⟩ :: _) _ _); (refine z02 rfl 27 (.tmp 6) (.tmp 172) rfl g6 #[.int .i64 5, .bool false, .int .u32 0, .int .i64 0, .int .u32 0, .int .i64 0, .int .u64 0, .int .u32 0, .slice none 0 0, .slice none 0 0, .slice none 0 0] rfl rfl HG6.out HBI.out rfl (all1 _ rfl) ?_); intro w8 hs__ hr__; replace HB := cg HB bup hr__ (by omega); replace HG3 := cg HG3 bup hr__ (by omega); clear HG6; have HG6 := Hd hs__; clear hs__ hr__; simp only [PT]))
    all_goals
      (try simp only [Exit.inBlock, Exit.then, Exit.noGoto_ret])
      refine z04 (cs := [.int .i64 5, .bool false, .int .u32 0, .int .i64 0, .int .u32 0, .int .i64 0, .int .u64 0, .int .u32 0, .slice none 0 0, .slice none 0 0, .slice none 0 0]) rfl rfl (z00 HG6.out) Try.underlying27 rfl HBI.out rfl ?_
      exact ⟨⟨5, false, 0, 0, 0, 0, 0, 0, none, 0, 0, [], none, 0, 0, [], none, 0, 0, []⟩, none, 0, 0, false, rfl, by rw [HO.out]; rfl, fun x r h => absurd (HO.out.symm.trans h) (by simp), HB.out⟩
theorem refOpen6_short (ad : Option Addr) (n c : Nat) (l : List UInt8) (big : Bool) (w : World) (hs : Bs w ad n c l) (hn : n ≤ 1048576) (h : n < 12) :
    Calls Try.prog 62 #[.agg #[.int .i64 6, .bool false, .int .u32 0, .int .i64 0, .int .u32 0, .int .i64 0, .int .u64 0, .int .u32 0, .slice none 0 0, .slice none 0 0, .slice none 0 0], .slice ad n c, .bool big] w (OpenR ad n c l (openP 6 0 l big) w) := by
  have HB := Hd (Below.refl w.heap.size w)
  have HS := Hd hs
  have HBI := Hd z0d
  have hc := hs.le
  have HN := Hd hs.len
  clear hs
  have hi : (n : Int) < 12 := by omega
  have HO := Hd (show openP 6 0 l big = none from by have := HN.out; unfold openP; simp [show l.length < 12 by omega])
  clear h
  go_enter Try.func62, Try.ntmps62
  go_wp2_with (first
 | ((with_reducible refine sl 3 ?_); (refine z0a rfl 27 (.tmp 0) rfl #[.int .i64 6, .bool false, .int .u32 0, .int .i64 0, .int .u32 0, .int .i64 0, .int .u64 0, .int .u32 0, .slice none 0 0, .slice none 0 0, .slice none 0 0] rfl ?_); intro w1 g3 he__ le_g3 lt_g3 hg__ hb__; have HG3 := Hd hg__; have hE__ := cU HB bup hb__; replace HB := ck HB hE__; clear hE__; clear hg__ hb__ he__; simp only [PT])
 | ((with_reducible refine sl 6 ?_); (refine z09 rfl 27 rfl (.agg #[.int .i64 0, .bool false, .int .u32 0, .int .i64 0, .int .u32 0, .int .i64 0, .int .u64 0, .int .u32 0, .slice none 0 0, .slice none 0 0, .slice none 0 0]) #[.int .i64 0, .bool false, .int .u32 0, .int .i64 0, .int .u32 0, .int .i64 0, .int .u64 0, .int .u32 0, .slice none 0 0, .slice none 0 0, .slice none 0 0] 11 (by kernel_rfl) rfl ?_); intro w2 g6 he__ le_g6 lt_g6 hg__ hb__; have HG6 := Hd hg__; have hE__ := cU HB bup hb__; replace HB := ck HB hE__; replace HG3 := ck HG3 hE__; clear hE__; clear hg__ hb__ he__; simp only [PT])
 | ((with_reducible refine sl 25 ?_); (refine z1q rfl 101 3 8 _ rfl .i64 [0, 16, 8, 20, 4, 0, 12, 0] Try.underlying101 (by kernel_rfl) (by kernel_rfl) rfl (by decide) (by decide) (by rfl) ?_); intro w3 gL le_gL hg__ hb__; have HGL := Hd hg__; have hE__ := cU HB bup hb__; replace HB := ck HB hE__; replace HG3 := ck HG3 hE__; replace HG6 := ck HG6 hE__; clear hE__; clear hg__ hb__; simp only [PT])
 | ((with_reducible refine sl 27 ?_); (refine z01 rfl 3 (.tmp 26) rfl g3 0 rfl (.int .i64 6) HG3.out rfl Try.underlying3 rfl ?_); simp only [PT])
 | ((with_reducible refine sl 29 ?_); (refine z01 rfl 3 (.tmp 28) rfl gL 6 rfl (.int .i64 12) HGL.out rfl Try.underlying3 rfl ?_); simp only [PT])
 | ((with_reducible refine sl 36 ?_); (refine z01 rfl 3 (.tmp 35) rfl g3 0 rfl (.int .i64 6) HG3.out rfl Try.underlying3 rfl ?_); simp only [PT])
 | ((with_reducible refine sl 83 ?_); (refine z01 rfl 3 (.tmp 82) rfl g3 0 rfl (.int .i64 6) HG3.out rfl Try.underlying3 rfl ?_); simp only [PT])
 | ((with_reducible refine sl 34 ?_); (refine z05 rfl 27 (.tmp 3) rfl g3 0 rfl [.int .i64 6, .bool false, .int .u32 0, .int .i64 0, .int .u32 0, .int .i64 0, .int .u64 0, .int .u32 0, .slice none 0 0, .slice none 0 0, .slice none 0 0] _ (z00 HG3.out) Try.underlying27 rfl HBI.out ?_); simp only [PT])
 | ((with_reducible show wpList _ _ _ (⟨none, .store _ (.tmp 6) (.tmp 34), _, _, _, _⟩ :: _) _ _); (refine z02 rfl 27 (.tmp 6) (.tmp 34) rfl g6 #[.int .i64 6, .bool false, .int .u32 0, .int .i64 0, .int .u32 0, .int .i64 0, .int .u64 0, .int .u32 0, .slice none 0 0, .slice none 0 0, .slice none 0 0] rfl rfl HG6.out HBI.out rfl (all1 _ rfl) ?_); intro w9 hs__ hr__; replace HB := cg HB bup hr__ (by omega); replace HG3 := cg HG3 bup hr__ (by omega); clear HG6; have HG6 := Hd hs__; clear hs__ hr__; simp only [PT]))
  all_goals
    (try simp only [Exit.inBlock, Exit.then, Exit.noGoto_ret])
    refine z04 (cs := [.int .i64 6, .bool false, .int .u32 0, .int .i64 0, .int .u32 0, .int .i64 0, .int .u64 0, .int .u32 0, .slice none 0 0, .slice none 0 0, .slice none 0 0]) rfl rfl (z00 HG6.out) Try.underlying27 rfl HBI.out rfl ?_
    exact ⟨⟨6, false, 0, 0, 0, 0, 0, 0, none, 0, 0, [], none, 0, 0, [], none, 0, 0, []⟩, none, 0, 0, false, rfl, by rw [HO.out]; rfl, fun x r h => absurd (HO.out.symm.trans h) (by simp), HB.out⟩
theorem refOpen6_ok (ad : Option Addr) (n c : Nat) (l : List UInt8) (big : Bool) (w : World) (hs : Bs w ad n c l) (hn : n ≤ 1048576) (h : 12 ≤ n) :
    Calls Try.prog 62 #[.agg #[.int .i64 6, .bool false, .int .u32 0, .int .i64 0, .int .u32 0, .int .i64 0, .int .u64 0, .int .u32 0, .slice none 0 0, .slice none 0 0, .slice none 0 0], .slice ad n c, .bool big] w (OpenR ad n c l (openP 6 0 l big) w) := by
  have HB := Hd (Below.refl w.heap.size w)
  have HS := Hd hs
  have HBI := Hd z0d
  have hc := hs.le
  have HN := Hd hs.len
  clear hs
  have hi : ¬ (n : Int) < 12 := by omega
  obtain ⟨V0, hV0⟩ : ∃ x, x = getN ((l.drop 0).take 4) big := ⟨_, rfl⟩
  have bV0 : V0 < 4294967296 := by rw [hV0]; exact w4_lt big l 0
  have HV0 := Hd hV0
  clear hV0
  obtain ⟨V4, hV4⟩ : ∃ x, x = getN ((l.drop 4).take 4) big := ⟨_, rfl⟩
  have bV4 : V4 < 4294967296 := by rw [hV4]; exact w4_lt big l 4
  have HV4 := Hd hV4
  clear hV4
  obtain ⟨V8, hV8⟩ : ∃ x, x = getN ((l.drop 8).take 4) big := ⟨_, rfl⟩
  have bV8 : V8 < 4294967296 := by rw [hV8]; exact w4_lt big l 8
  have HV8 := Hd hV8
  clear hV8
  have e0 : IntKind.i64.wrap (V0 : Int) = (V0 : Int) := by rw [IntKind.wrap_i64]; omega
  obtain ⟨T, hT⟩ : ∃ T, T = V4 * 4294967296 + V8 := ⟨_, rfl⟩
  have hT2 : T < 18446744073709551616 := by omega
  have ht1 : IntKind.u64.wrap ((V4 : Int) * 4294967296) = (V4 : Int) * 4294967296 := by rw [IntKind.wrap_u64]; omega
  have ht2 : (V4 : Int) * 4294967296 + (V8 : Int) = (T : Int) := by omega
  have ht3 : IntKind.u64.wrap ((V4 : Int) * 4294967296 + (V8 : Int)) = (T : Int) := by rw [IntKind.wrap_u64]; omega
  have ht4 : IntKind.u64.wrap (T : Int) = (T : Int) := by rw [IntKind.wrap_u64]; omega
  have HT := Hd hT
  clear hT
  have HO : Hid (openP 6 0 l big = some ({ noneB with kind := 6, iface := (V0 : Int), time := T }, l.drop 12)) := Hd (by rw [HT.out, HV0.out, HV4.out, HV8.out]; have := HN.out; unfold openP; simp [show ¬ l.length < 12 by omega, w4])
  have HP12 : Hid (∀ w0, Bs w0 ad n c l → Bs w0 (subAd ad c 12 1) (n - 12) (c - 12) (l.drop 12)) := Hd (fun w0 h0 => Bs.drop8 h0 12 (by omega))
  clear HN
  go_enter Try.func62, Try.ntmps62
  go_wp2_with (first
 | ((with_reducible refine sl 3 ?_); (refine z0a rfl 27 (.tmp 0) rfl #[.int .i64 6, .bool false, .int .u32 0, .int .i64 0, .int .u32 0, .int .i64 0, .int .u64 0, .int .u32 0, .slice none 0 0, .slice none 0 0, .slice none 0 0] rfl ?_); intro w1 g3 he__ le_g3 lt_g3 hg__ hb__; have HG3 := Hd hg__; have hE__ := cU HB bup hb__; replace HB := ck HB hE__; clear hE__; clear hg__ hb__ he__; simp only [PT])
 | ((with_reducible refine sl 6 ?_); (refine z09 rfl 27 rfl (.agg #[.int .i64 0, .bool false, .int .u32 0, .int .i64 0, .int .u32 0, .int .i64 0, .int .u64 0, .int .u32 0, .slice none 0 0, .slice none 0 0, .slice none 0 0]) #[.int .i64 0, .bool false, .int .u32 0, .int .i64 0, .int .u32 0, .int .i64 0, .int .u64 0, .int .u32 0, .slice none 0 0, .slice none 0 0, .slice none 0 0] 11 (by kernel_rfl) rfl ?_); intro w2 g6 he__ le_g6 lt_g6 hg__ hb__; have HG6 := Hd hg__; have hE__ := cU HB bup hb__; replace HB := ck HB hE__; replace HG3 := ck HG3 hE__; clear hE__; clear hg__ hb__ he__; simp only [PT])
 | ((with_reducible refine sl 25 ?_); (refine z1q rfl 101 3 8 _ rfl .i64 [0, 16, 8, 20, 4, 0, 12, 0] Try.underlying101 (by kernel_rfl) (by kernel_rfl) rfl (by decide) (by decide) (by rfl) ?_); intro w3 gL le_gL hg__ hb__; have HGL := Hd hg__; have hE__ := cU HB bup hb__; replace HB := ck HB hE__; replace HG3 := ck HG3 hE__; replace HG6 := ck HG6 hE__; clear hE__; clear hg__ hb__; simp only [PT])
 | ((with_reducible refine sl 27 ?_); (refine z01 rfl 3 (.tmp 26) rfl g3 0 rfl (.int .i64 6) HG3.out rfl Try.underlying3 rfl ?_); simp only [PT])
 | ((with_reducible refine sl 29 ?_); (refine z01 rfl 3 (.tmp 28) rfl gL 6 rfl (.int .i64 12) HGL.out rfl Try.underlying3 rfl ?_); simp only [PT])
 | ((with_reducible refine sl 36 ?_); (refine z01 rfl 3 (.tmp 35) rfl g3 0 rfl (.int .i64 6) HG3.out rfl Try.underlying3 rfl ?_); simp only [PT])
 | ((with_reducible refine sl 83 ?_); (refine z01 rfl 3 (.tmp 82) rfl g3 0 rfl (.int .i64 6) HG3.out rfl Try.underlying3 rfl ?_); simp only [PT])
 | (go_at_call 85; (with_reducible show Calls _ _ #[_, Value.int .i64 0, _] _ _); (refine (z1g ad n c l 0 big _ (HS.out.below (HB.out.trans (Below.mono bup HB.out.size))) (by omega) (by omega)).mono ?_); intro e w4 hr; rw [← HV0.out] at hr; obtain ⟨rfl, hw__⟩ := hr; subst hw__)
 | ((with_reducible show wpList _ _ _ (⟨none, .store _ (.tmp 72) (.tmp 71), _, _, _, _⟩ :: _) _ _); (refine z0c rfl 3 (.tmp 72) (.tmp 71) rfl g3 5 (.int .i64 (V0 : Int)) rfl rfl rfl HG3.out (by simp) (by kernel_rfl) #[.int .i64 6, .bool false, .int .u32 0, .int .i64 0, .int .u32 0, .int .i64 (V0 : Int), .int .u64 0, .int .u32 0, .slice none 0 0, .slice none 0 0, .slice none 0 0] rfl ?_); intro w5 hs__ hr__; replace HB := cg HB bup hr__ (by omega); replace HG6 := cg HG6 bup hr__ (by omega); clear HG3; have HG3 := Hd hs__; clear hs__ hr__; simp only [PT])
 | (go_at_call 85; (with_reducible show Calls _ _ #[_, Value.int .i64 4, _] _ _); (refine (z1g ad n c l 4 big _ (HS.out.below (HB.out.trans (Below.mono bup HB.out.size))) (by omega) (by omega)).mono ?_); intro e w6 hr; rw [← HV4.out] at hr; obtain ⟨rfl, hw__⟩ := hr; subst hw__)
 | (go_at_call 85; (with_reducible show Calls _ _ #[_, Value.int .i64 8, _] _ _); (refine (z1g ad n c l 8 big _ (HS.out.below (HB.out.trans (Below.mono bup HB.out.size))) (by omega) (by omega)).mono ?_); intro e w7 hr; rw [← HV8.out] at hr; obtain ⟨rfl, hw__⟩ := hr; subst hw__)
 | ((with_reducible show wpList _ _ _ (⟨none, .store _ (.tmp 81) (.tmp 80), _, _, _, _⟩ :: _) _ _); (refine z0c rfl 23 (.tmp 81) (.tmp 80) rfl g3 6 (.int .u64 ((T : Nat) : Int)) rfl rfl rfl HG3.out (by simp) (by kernel_rfl) #[.int .i64 6, .bool false, .int .u32 0, .int .i64 0, .int .u32 0, .int .i64 (V0 : Int), .int .u64 ((T : Nat) : Int), .int .u32 0, .slice none 0 0, .slice none 0 0, .slice none 0 0] rfl ?_); intro w8 hs__ hr__; replace HB := cg HB bup hr__ (by omega); replace HG6 := cg HG6 bup hr__ (by omega); clear HG3; have HG3 := Hd hs__; clear hs__ hr__; simp only [PT]))
  refine wp_region_held_drew (S := fun u => True) (by kernel_rfl) ?_ (fun hHeld => ?_); (focus (exact trivial)); (refine tk 1 (oi := ⟨some 86, _, _, _, _, _⟩) (v := ?_) rfl (by kernel_rfl) (.inl ⟨by rfl, ?_⟩) hHeld ?_; rotate_left; focus (intro w hSw; (try dsimp only at hSw); go_simp; try with_reducible rfl)); simp only [PT]; refine' tk 2 (oi := ⟨some 87, _, _, _, _, _⟩) (v := _) rfl (by kernel_rfl) (z14 elB rfl (.tmp 86) (some (.const (.int .i64 12))) none rfl rfl 12 n (.inr ⟨.i64, rfl⟩) (.inl ⟨rfl, rfl⟩) (by omega) (by omega)) hHeld ?_; simp only [PT]; refine wpAnyH_ready (rs := [0]) (by kernel_rfl) (by simp) ?_; refine (AllReadyH.cons (o := ⟨some 85, _, _, _, _, _⟩) rfl (fun K hK => ?_) AllReadyH.nil); ((refine z1m rfl 27 (.tmp 3) rfl g3 0 rfl [.int .i64 6, .bool false, .int .u32 0, .int .i64 0, .int .u32 0, .int .i64 (V0 : Int), .int .u64 ((T : Nat) : Int), .int .u32 0, .slice none 0 0, .slice none 0 0, .slice none 0 0] _ (by exact z00 HG3.out) Try.underlying27 rfl HBI.out ?_)); refine hK.out _ _ ?_ (fun hHeld => ?_); (focus (exact trivial)); clear hK K; (try simp only [PT]); refine wpAnyH_ready (rs := [3]) (by kernel_rfl) (by simp) ?_; refine (AllReadyH.cons (o := ⟨none, _, _, _, _, _⟩) rfl (fun K hK => ?_) AllReadyH.nil); ((refine z0j rfl 27 (.tmp 6) (.tmp 85) rfl g6 #[.int .i64 6, .bool false, .int .u32 0, .int .i64 0, .int .u32 0, .int .i64 (V0 : Int), .int .u64 ((T : Nat) : Int), .int .u32 0, .slice none 0 0, .slice none 0 0, .slice none 0 0] rfl rfl HG6.out HBI.out rfl (all1 _ rfl) ?_); intro w9 hs__ hr__; replace HB := cg HB bup hr__ (by omega); replace HG3 := cg HG3 bup hr__ (by omega); clear HG6; have HG6 := Hd hs__; clear hs__ hr__); refine hK.out _ _ ?_ (fun hHeld => ?_); (focus (exact trivial)); clear hK K; (try simp only [PT]); (refine tk 4 (oi := ⟨some 7, _, _, _, _, _⟩) (v := ?_) rfl (by kernel_rfl) (.inl ⟨by rfl, ?_⟩) hHeld ?_; rotate_left; focus (intro w hSw; (try dsimp only at hSw); go_simp; try with_reducible rfl)); simp only [PT]; (refine tk 5 (oi := ⟨some 8, _, _, _, _, _⟩) (v := ?_) rfl (by kernel_rfl) (.inl ⟨by rfl, ?_⟩) hHeld ?_; rotate_left; focus (intro w hSw; (try dsimp only at hSw); go_simp; try with_reducible rfl)); simp only [PT]; refine wpAnyH_done (by kernel_rfl) ?_ _
  all_goals
    go_wp2_with fail
    (try simp only [Exit.inBlock, Exit.then, Exit.noGoto_ret])
    refine z04 (cs := [.int .i64 6, .bool false, .int .u32 0, .int .i64 0, .int .u32 0, .int .i64 (V0 : Int), .int .u64 ((T : Nat) : Int), .int .u32 0, .slice none 0 0, .slice none 0 0, .slice none 0 0]) rfl rfl (z00 HG6.out) Try.underlying27 rfl HBI.out rfl ?_
    refine ⟨⟨6, false, 0, 0, 0, (V0 : Int), T, 0, none, 0, 0, [], none, 0, 0, [], none, 0, 0, []⟩, _, _, _, true, rfl, by rw [HO.out]; rfl, fun x r h => ?_, HB.out⟩
    have hh := HO.out.symm.trans h
    simp only [Option.some.injEq, Prod.mk.injEq] at hh
    obtain ⟨rfl, rfl⟩ := hh
    refine ⟨rfl, HP12.out, z1i _ _ _ _, OwnOps.nil _ _ _, OwnOps.nil _ _ _⟩
theorem refOpen7_ok (t : Nat) (ad : Option Addr) (n c : Nat) (l : List UInt8) (big : Bool) (w : World) (hs : Bs w ad n c l) (hn : n ≤ 1048576) :
    Calls Try.prog 62 #[.agg #[.int .i64 7, .bool false, .int .u32 (t : Int), .int .i64 0, .int .u32 0, .int .i64 0, .int .u64 0, .int .u32 0, .slice none 0 0, .slice none 0 0, .slice none 0 0], .slice ad n c, .bool big] w (OpenR ad n c l (openP 7 t l big) w) := by
  have HB := Hd (Below.refl w.heap.size w)
  have HS := Hd hs
  have HBI := Hd z0d
  have hc := hs.le
  have HN := Hd hs.len
  clear hs
  have h : 0 ≤ n := Nat.zero_le _
  have hi : ¬ (n : Int) < 0 := by omega
  have hll : l.length ≤ 1048576 := by have := HN.out; omega
  have HO : Hid (openP 7 t l big = some ({ noneB with kind := 7, type := t, data := l }, [])) := Hd rfl
  have HOO := HO
  clear HN HO
  go_enter Try.func62, Try.ntmps62
  go_wp2_with (first
 | ((with_reducible refine sl 3 ?_); (refine z0a rfl 27 (.tmp 0) rfl #[.int .i64 7, .bool false, .int .u32 (t : Int), .int .i64 0, .int .u32 0, .int .i64 0, .int .u64 0, .int .u32 0, .slice none 0 0, .slice none 0 0, .slice none 0 0] rfl ?_); intro w1 g3 he__ le_g3 lt_g3 hg__ hb__; have HG3 := Hd hg__; have hE__ := cU HB bup hb__; replace HB := ck HB hE__; clear hE__; clear hg__ hb__ he__; simp only [PT])
 | ((with_reducible refine sl 6 ?_); (refine z09 rfl 27 rfl (.agg #[.int .i64 0, .bool false, .int .u32 0, .int .i64 0, .int .u32 0, .int .i64 0, .int .u64 0, .int .u32 0, .slice none 0 0, .slice none 0 0, .slice none 0 0]) #[.int .i64 0, .bool false, .int .u32 0, .int .i64 0, .int .u32 0, .int .i64 0, .int .u64 0, .int .u32 0, .slice none 0 0, .slice none 0 0, .slice none 0 0] 11 (by kernel_rfl) rfl ?_); intro w2 g6 he__ le_g6 lt_g6 hg__ hb__; have HG6 := Hd hg__; have hE__ := cU HB bup hb__; replace HB := ck HB hE__; replace HG3 := ck HG3 hE__; clear hE__; clear hg__ hb__ he__; simp only [PT])
 | ((with_reducible refine sl 25 ?_); (refine z1q rfl 101 3 8 _ rfl .i64 [0, 16, 8, 20, 4, 0, 12, 0] Try.underlying101 (by kernel_rfl) (by kernel_rfl) rfl (by decide) (by decide) (by rfl) ?_); intro w3 gL le_gL hg__ hb__; have HGL := Hd hg__; have hE__ := cU HB bup hb__; replace HB := ck HB hE__; replace HG3 := ck HG3 hE__; replace HG6 := ck HG6 hE__; clear hE__; clear hg__ hb__; simp only [PT])
 | ((with_reducible refine sl 27 ?_); (refine z01 rfl 3 (.tmp 26) rfl g3 0 rfl (.int .i64 7) HG3.out rfl Try.underlying3 rfl ?_); simp only [PT])
 | ((with_reducible refine sl 29 ?_); (refine z01 rfl 3 (.tmp 28) rfl gL 7 rfl (.int .i64 0) HGL.out rfl Try.underlying3 rfl ?_); simp only [PT])
 | ((with_reducible refine sl 36 ?_); (refine z01 rfl 3 (.tmp 35) rfl g3 0 rfl (.int .i64 7) HG3.out rfl Try.underlying3 rfl ?_); simp only [PT])
 | ((with_reducible refine sl 83 ?_); (refine z01 rfl 3 (.tmp 82) rfl g3 0 rfl (.int .i64 7) HG3.out rfl Try.underlying3 rfl ?_); simp only [PT])
 | ((with_reducible refine sl 179 ?_); (refine wpL_lit0 rfl rfl ?_); intro w4 g4 le__ ho__ hb__; have HO := Hd (z0r (base' := g6 + 1) ho__ (lt_of_block (by exact HG6.out))); have hs6 : g6 + 1 ≤ w4.heap.size := Nat.le_trans (lt_of_block (by exact HG6.out)) hb__.size; have hE__ := cU HB bup hb__; replace HB := ck HB hE__; replace HG3 := ck HG3 hE__; replace HG6 := ck HG6 hE__; clear hE__; clear ho__ hb__ le__; simp only [PT])
 | ((with_reducible refine sl 181 ?_); (refine wpL_appL elB rfl (.tmp 179) (.tmp 180) rfl (g6 + 1) rfl (z08 HO.out bup) rfl ((HS.out.below (HB.out.trans (Below.mono bup HB.out.size)))) l (List.nil_append l) (by omega) (by exact hs6) ?_); intro adD cD w5 ho__ hb__; have HD := Hd ho__; replace HB := Hd ((HB.out.trans (Below.mono bup HB.out.size)).trans (hb__.mono (by omega))); replace HG3 := Hd ((hb__.block g3 (by omega)).trans HG3.out); replace HG6 := Hd ((hb__.block g6 (by omega)).trans HG6.out); clear HO ho__ hb__; simp only [PT])
 | ((with_reducible show wpList _ _ _ (⟨none, .store _ (.tmp 182) (.tmp 181), _, _, _, _⟩ :: _) _ _); (refine z0c rfl 24 (.tmp 182) (.tmp 181) rfl g3 8 (.slice adD l.length cD) rfl rfl rfl HG3.out (by simp) (by kernel_rfl) #[.int .i64 7, .bool false, .int .u32 (t : Int), .int .i64 0, .int .u32 0, .int .i64 0, .int .u64 0, .int .u32 0, .slice adD l.length cD, .slice none 0 0, .slice none 0 0] rfl ?_); intro w7 hs__ hr__; replace HB := cg HB bup hr__ (by omega); replace HG6 := cg HG6 bup hr__ (by omega); replace HD := cg HD bup hr__ (by omega); clear HG3; have HG3 := Hd hs__; clear hs__ hr__; simp only [PT])
 | ((with_reducible refine sl 183 ?_); (refine z05 rfl 27 (.tmp 3) rfl g3 0 rfl [.int .i64 7, .bool false, .int .u32 (t : Int), .int .i64 0, .int .u32 0, .int .i64 0, .int .u64 0, .int .u32 0, .slice adD l.length cD, .slice none 0 0, .slice none 0 0] _ (z00 HG3.out) Try.underlying27 rfl HBI.out ?_); simp only [PT])
 | ((with_reducible show wpList _ _ _ (⟨none, .store _ (.tmp 6) (.tmp 183), _, _, _, _⟩ :: _) _ _); (refine z02 rfl 27 (.tmp 6) (.tmp 183) rfl g6 #[.int .i64 7, .bool false, .int .u32 (t : Int), .int .i64 0, .int .u32 0, .int .i64 0, .int .u64 0, .int .u32 0, .slice adD l.length cD, .slice none 0 0, .slice none 0 0] rfl rfl HG6.out HBI.out rfl (all1 _ rfl) ?_); intro w9 hs__ hr__; replace HB := cg HB bup hr__ (by omega); replace HG3 := cg HG3 bup hr__ (by omega); replace HD := cg HD bup hr__ (by omega); clear HG6; have HG6 := Hd hs__; clear hs__ hr__; simp only [PT]))
  all_goals
    have HO := HOO
    (try simp only [Exit.inBlock, Exit.then, Exit.noGoto_ret])
    refine z04 (cs := [.int .i64 7, .bool false, .int .u32 (t : Int), .int .i64 0, .int .u32 0, .int .i64 0, .int .u64 0, .int .u32 0, .slice adD l.length cD, .slice none 0 0, .slice none 0 0]) rfl rfl (z00 HG6.out) Try.underlying27 rfl HBI.out rfl ?_
    refine ⟨⟨7, false, t, 0, 0, 0, 0, 0, adD, l.length, cD, l, none, 0, 0, [], none, 0, 0, []⟩, none, 0, 0, true, rfl, by rw [HO.out]; rfl, fun x r h => ?_, HB.out⟩
    have hh := HO.out.symm.trans h
    simp only [Option.some.injEq, Prod.mk.injEq] at hh
    obtain ⟨rfl, rfl⟩ := hh
    refine ⟨rfl, fun _ _ => Sl.nil _ 1, z0r HD.out (by omega), OwnOps.nil _ _ _, OwnOps.nil _ _ _⟩
theorem refOpen3_ok (ad : Option Addr) (n c : Nat) (l : List UInt8) (big : Bool) (w : World) (hs : Bs w ad n c l) (hn : n ≤ 1048576) (h : 20 ≤ n) (h2 : ¬ n - 20 < w4 big l 12 + padN (w4 big l 12)) :
    Calls Try.prog 62 #[.agg #[.int .i64 3, .bool false, .int .u32 0, .int .i64 0, .int .u32 0, .int .i64 0, .int .u64 0, .int .u32 0, .slice none 0 0, .slice none 0 0, .slice none 0 0], .slice ad n c, .bool big] w (OpenR ad n c l (openP 3 0 l big) w) := by
  have HB := Hd (Below.refl w.heap.size w)
  have HS := Hd hs
  have HBI := Hd z0d
  have hc := hs.le
  have HN := Hd hs.len
  clear hs
  have hi : ¬ (n : Int) < 20 := by omega
  obtain ⟨V0, hV0⟩ : ∃ x, x = getN ((l.drop 0).take 4) big := ⟨_, rfl⟩
  have bV0 : V0 < 4294967296 := by rw [hV0]; exact w4_lt big l 0
  have HV0 := Hd hV0
  clear hV0
  obtain ⟨V4, hV4⟩ : ∃ x, x = getN ((l.drop 4).take 4) big := ⟨_, rfl⟩
  have bV4 : V4 < 4294967296 := by rw [hV4]; exact w4_lt big l 4
  have HV4 := Hd hV4
  clear hV4
  obtain ⟨V8, hV8⟩ : ∃ x, x = getN ((l.drop 8).take 4) big := ⟨_, rfl⟩
  have bV8 : V8 < 4294967296 := by rw [hV8]; exact w4_lt big l 8
  have HV8 := Hd hV8
  clear hV8
  obtain ⟨V12, hV12⟩ : ∃ x, x = getN ((l.drop 12).take 4) big := ⟨_, rfl⟩
  have bV12 : V12 < 4294967296 := by rw [hV12]; exact w4_lt big l 12
  have HV12 := Hd hV12
  clear hV12
  obtain ⟨V16, hV16⟩ : ∃ x, x = getN ((l.drop 16).take 4) big := ⟨_, rfl⟩
  have bV16 : V16 < 4294967296 := by rw [hV16]; exact w4_lt big l 16
  have HV16 := Hd hV16
  clear hV16
  have e0 : IntKind.i64.wrap (V0 : Int) = (V0 : Int) := by rw [IntKind.wrap_i64]; omega
  obtain ⟨T, hT⟩ : ∃ T, T = V4 * 4294967296 + V8 := ⟨_, rfl⟩
  have hT2 : T < 18446744073709551616 := by omega
  have ht1 : IntKind.u64.wrap ((V4 : Int) * 4294967296) = (V4 : Int) * 4294967296 := by rw [IntKind.wrap_u64]; omega
  have ht2 : (V4 : Int) * 4294967296 + (V8 : Int) = (T : Int) := by omega
  have ht3 : IntKind.u64.wrap ((V4 : Int) * 4294967296 + (V8 : Int)) = (T : Int) := by rw [IntKind.wrap_u64]; omega
  have ht4 : IntKind.u64.wrap (T : Int) = (T : Int) := by rw [IntKind.wrap_u64]; omega
  have HT := Hd hT
  clear hT
  have e1 : IntKind.i64.wrap (V12 : Int) = (V12 : Int) := by rw [IntKind.wrap_i64]; omega
  have e2 : IntKind.u32.wrap (V16 : Int) = (V16 : Int) := by rw [IntKind.wrap_u32]; omega
  obtain ⟨m, hm⟩ : ∃ m, m = n - 20 := ⟨_, rfl⟩
  obtain ⟨cc, hcc⟩ : ∃ m, m = c - 20 := ⟨_, rfl⟩
  obtain ⟨R, hR⟩ : ∃ R, R = l.drop 20 := ⟨_, rfl⟩
  have HM := Hd hm.symm
  have HCC := Hd hcc.symm
  have hm1 : m + 20 ≤ n := by omega
  have hm2 : n ≤ m + 20 := by omega
  have hm3 : m ≤ cc := by omega
  have hRl : R.length = m := by rw [hR, List.length_drop, ← HN.out, hm]
  have HRL := Hd hRl
  have HRR : Hid ((l.drop 20).take m = R) := Hd (by rw [← hR]; exact List.take_of_length_le (by omega))
  have HR := Hd hR
  clear hm hcc hR hRl
  obtain ⟨P, hP⟩ : ∃ P, P = padN V12 := ⟨_, rfl⟩
  obtain ⟨Q, hQ⟩ : ∃ Q, Q = V12 + P := ⟨_, rfl⟩
  have hQ1 : V12 ≤ Q := by omega
  have hQ2 : Q ≤ V12 + 3 := by rw [hQ, hP]; unfold padN; omega
  have hQ3 : Q % 4 = 0 := by rw [hQ, hP]; unfold padN; omega
  obtain ⟨D, hD⟩ : ∃ D, D = R.take V12 := ⟨_, rfl⟩
  have HDD := Hd hD.symm
  have h5 : ¬ n - 20 < Q := by rw [hQ, hP, HV12.out]; exact h2
  have HO : Hid (openP 3 0 l big = some ({ noneB with kind := 3, iface := (V0 : Int), time := T, len := V16, data := D }, R.drop Q)) := Hd (by
    have := HN.out
    have f0 : w4 big l 0 = V0 := HV0.out.symm
    have f4 : w4 big l 4 = V4 := HV4.out.symm
    have f8 : w4 big l 8 = V8 := HV8.out.symm
    have f12 : w4 big l 12 = V12 := HV12.out.symm
    have f16 : w4 big l 16 = V16 := HV16.out.symm
    unfold openP
    simp only [f0, f4, f8, f12, f16, ← hP, ← hQ]
    rw [if_neg (by decide), if_neg (by decide), if_pos trivial, if_neg (by omega), if_neg (by omega), hD, HT.out, HR.out, List.drop_drop])
  clear HN hP hQ hD h2
  go_enter Try.func62, Try.ntmps62
  go_wp2_with (first
 | ((with_reducible refine sl 3 ?_); (refine z0a rfl 27 (.tmp 0) rfl #[.int .i64 3, .bool false, .int .u32 0, .int .i64 0, .int .u32 0, .int .i64 0, .int .u64 0, .int .u32 0, .slice none 0 0, .slice none 0 0, .slice none 0 0] rfl ?_); intro w1 g3 he__ le_g3 lt_g3 hg__ hb__; have HG3 := Hd hg__; have hE__ := cU HB bup hb__; replace HB := ck HB hE__; clear hE__; clear hg__ hb__ he__; simp only [PT])
 | ((with_reducible refine sl 6 ?_); (refine z09 rfl 27 rfl (.agg #[.int .i64 0, .bool false, .int .u32 0, .int .i64 0, .int .u32 0, .int .i64 0, .int .u64 0, .int .u32 0, .slice none 0 0, .slice none 0 0, .slice none 0 0]) #[.int .i64 0, .bool false, .int .u32 0, .int .i64 0, .int .u32 0, .int .i64 0, .int .u64 0, .int .u32 0, .slice none 0 0, .slice none 0 0, .slice none 0 0] 11 (by kernel_rfl) rfl ?_); intro w2 g6 he__ le_g6 lt_g6 hg__ hb__; have HG6 := Hd hg__; have hE__ := cU HB bup hb__; replace HB := ck HB hE__; replace HG3 := ck HG3 hE__; clear hE__; clear hg__ hb__ he__; simp only [PT])
 | ((with_reducible refine sl 25 ?_); (refine z1q rfl 101 3 8 _ rfl .i64 [0, 16, 8, 20, 4, 0, 12, 0] Try.underlying101 (by kernel_rfl) (by kernel_rfl) rfl (by decide) (by decide) (by rfl) ?_); intro w3 gL le_gL hg__ hb__; have HGL := Hd hg__; have hE__ := cU HB bup hb__; replace HB := ck HB hE__; replace HG3 := ck HG3 hE__; replace HG6 := ck HG6 hE__; clear hE__; clear hg__ hb__; simp only [PT])
 | ((with_reducible refine sl 27 ?_); (refine z01 rfl 3 (.tmp 26) rfl g3 0 rfl (.int .i64 3) HG3.out rfl Try.underlying3 rfl ?_); simp only [PT])
 | ((with_reducible refine sl 29 ?_); (refine z01 rfl 3 (.tmp 28) rfl gL 3 rfl (.int .i64 20) HGL.out rfl Try.underlying3 rfl ?_); simp only [PT])
 | ((with_reducible refine sl 36 ?_); (refine z01 rfl 3 (.tmp 35) rfl g3 0 rfl (.int .i64 3) HG3.out rfl Try.underlying3 rfl ?_); simp only [PT])
 | ((with_reducible refine sl 83 ?_); (refine z01 rfl 3 (.tmp 82) rfl g3 0 rfl (.int .i64 3) HG3.out rfl Try.underlying3 rfl ?_); simp only [PT])
 | (go_at_call 85; (with_reducible show Calls _ _ #[_, Value.int .i64 0, _] _ _); (refine (z1g ad n c l 0 big _ (HS.out.below (HB.out.trans (Below.mono bup HB.out.size))) (by omega) (by omega)).mono ?_); intro e w4 hr; rw [← HV0.out] at hr; obtain ⟨rfl, hw__⟩ := hr; subst hw__)
 | ((with_reducible show wpList _ _ _ (⟨none, .store _ (.tmp 72) (.tmp 71), _, _, _, _⟩ :: _) _ _); (refine z0c rfl 3 (.tmp 72) (.tmp 71) rfl g3 5 (.int .i64 (V0 : Int)) rfl rfl rfl HG3.out (by simp) (by kernel_rfl) #[.int .i64 3, .bool false, .int .u32 0, .int .i64 0, .int .u32 0, .int .i64 (V0 : Int), .int .u64 0, .int .u32 0, .slice none 0 0, .slice none 0 0, .slice none 0 0] rfl ?_); intro w5 hs__ hr__; replace HB := cg HB bup hr__ (by omega); replace HG6 := cg HG6 bup hr__ (by omega); clear HG3; have HG3 := Hd hs__; clear hs__ hr__; simp only [PT])
 | (go_at_call 85; (with_reducible show Calls _ _ #[_, Value.int .i64 4, _] _ _); (refine (z1g ad n c l 4 big _ (HS.out.below (HB.out.trans (Below.mono bup HB.out.size))) (by omega) (by omega)).mono ?_); intro e w6 hr; rw [← HV4.out] at hr; obtain ⟨rfl, hw__⟩ := hr; subst hw__)
 | (go_at_call 85; (with_reducible show Calls _ _ #[_, Value.int .i64 8, _] _ _); (refine (z1g ad n c l 8 big _ (HS.out.below (HB.out.trans (Below.mono bup HB.out.size))) (by omega) (by omega)).mono ?_); intro e w7 hr; rw [← HV8.out] at hr; obtain ⟨rfl, hw__⟩ := hr; subst hw__)
 | ((with_reducible show wpList _ _ _ (⟨none, .store _ (.tmp 81) (.tmp 80), _, _, _, _⟩ :: _) _ _); (refine z0c rfl 23 (.tmp 81) (.tmp 80) rfl g3 6 (.int .u64 ((T : Nat) : Int)) rfl rfl rfl HG3.out (by simp) (by kernel_rfl) #[.int .i64 3, .bool false, .int .u32 0, .int .i64 0, .int .u32 0, .int .i64 (V0 : Int), .int .u64 ((T : Nat) : Int), .int .u32 0, .slice none 0 0, .slice none 0 0, .slice none 0 0] rfl ?_); intro w8 hs__ hr__; replace HB := cg HB bup hr__ (by omega); replace HG6 := cg HG6 bup hr__ (by omega); clear HG3; have HG3 := Hd hs__; clear hs__ hr__; simp only [PT])
 | (go_at_call 85; (with_reducible show Calls _ _ #[_, Value.int .i64 16, _] _ _); (refine (z1g ad n c l 16 big _ (HS.out.below (HB.out.trans (Below.mono bup HB.out.size))) (by omega) (by omega)).mono ?_); intro e w9 hr; rw [← HV16.out] at hr; obtain ⟨rfl, hw__⟩ := hr; subst hw__)
 | ((with_reducible show wpList _ _ _ (⟨none, .store _ (.tmp 92) (.tmp 91), _, _, _, _⟩ :: _) _ _); (refine z0c rfl 22 (.tmp 92) (.tmp 91) rfl g3 7 (.int .u32 (V16 : Int)) rfl rfl rfl HG3.out (by simp) (by kernel_rfl) #[.int .i64 3, .bool false, .int .u32 0, .int .i64 0, .int .u32 0, .int .i64 (V0 : Int), .int .u64 ((T : Nat) : Int), .int .u32 (V16 : Int), .slice none 0 0, .slice none 0 0, .slice none 0 0] rfl ?_); intro w10 hs__ hr__; replace HB := cg HB bup hr__ (by omega); replace HG6 := cg HG6 bup hr__ (by omega); clear HG3; have HG3 := Hd hs__; clear hs__ hr__; simp only [PT])
 | (go_at_call 85; (with_reducible show Calls _ _ #[_, Value.int .i64 12, _] _ _); (refine (z1g ad n c l 12 big _ (HS.out.below (HB.out.trans (Below.mono bup HB.out.size))) (by omega) (by omega)).mono ?_); intro e w11 hr; rw [← HV12.out] at hr; obtain ⟨rfl, hw__⟩ := hr; subst hw__)
 | ((with_reducible refine sl 99 ?_); (refine z0b elB rfl (.tmp 98) (some (.const (.int .i64 20))) none rfl rfl 20 n (.inr ⟨.i64, rfl⟩) (.inl ⟨rfl, rfl⟩) (by omega) (by omega) m cc HM.out HCC.out ?_); intro ad99 had; have HA99 := Hd (show ∀ w0, Bs w0 ad n c l → Bs w0 ad99 m cc R from fun w0 h0 => Bs.partG h0 20 n m cc (by omega) (by omega) HM.out HCC.out ad99 had R HRR.out); clear had; simp only [PT])
 | (go_at_call 86; (with_reducible show Calls _ _ #[Value.slice ad99 _ _, Value.int .i64 (V12 : Int)] _ _); (refine (cut_ok ad99 m cc R V12 (by omega) (by omega) D HDD.out _ (HA99.out _ (HS.out.below (HB.out.trans (Below.mono bup HB.out.size))))).mono ?_); intro e w12 hr; obtain ⟨adD, cD, rfl, hoD, hb__⟩ := hr; have HD := Hd (z0r (base' := g6 + 1) hoD (lt_of_block (by exact HG6.out))); have hE__ := cU HB bup hb__; replace HB := ck HB hE__; replace HG3 := ck HG3 hE__; replace HG6 := ck HG6 hE__; clear hE__; clear hb__ hoD))
  go_loopw [10] (fun i wr => ∃ x : Nat, V12 ≤ x ∧ x ≤ Q ∧ i = .int .i64 (x : Int) ∧ wr.heap[g3]? = some (.cells #[.int .i64 3, .bool false, .int .u32 0, .int .i64 0, .int .u32 0, .int .i64 (V0 : Int), .int .u64 ((T : Nat) : Int), .int .u32 (V16 : Int), .slice none 0 0, .slice none 0 0, .slice none 0 0] 27 (0, 0)) ∧ wr.heap[g6]? = some (.cells #[.int .i64 0, .bool false, .int .u32 0, .int .i64 0, .int .u32 0, .int .i64 0, .int .u64 0, .int .u32 0, .slice none 0 0, .slice none 0 0, .slice none 0 0] 27 (0, 0)) ∧ Below w.heap.size w wr ∧ wr.ownsRow (g6 + 1) 5 1 (.slice adD D.length cD) D.length (BV D)) (fun i _ => Q + 4 - (intOf i).toNat)
  case atStart => exact ⟨V12, Nat.le_refl _, hQ1, rfl, HG3.out, HG6.out, HB.out, HD.out⟩
  case round =>
    obtain ⟨x, hx1, hx2, rfl, hg3, hg6, hb, hd⟩ := hrel
    clear HB HG3 HG6 HD
    have HB := Hd hb
    have HG3 := Hd hg3
    have HG6 := Hd hg6
    have HD := Hd hd
    clear hb hg3 hg6 hd
    by_cases h4 : x % 4 = 0
    · obtain rfl : x = Q := by omega
      have h4i : (x : Int) % 4 = 0 := by omega
      go_wp2_with (first
 | ((with_reducible refine sl 112 ?_); (refine z0b elB rfl (.tmp 111) (some (.const (.int .i64 20))) none rfl rfl 20 n (.inr ⟨.i64, rfl⟩) (.inl ⟨rfl, rfl⟩) (by omega) (by omega) m cc HM.out HCC.out ?_); intro ad112 had; have HA112 := Hd (show ∀ w0, Bs w0 ad n c l → Bs w0 ad112 m cc R from fun w0 h0 => Bs.partG h0 20 n m cc (by omega) (by omega) HM.out HCC.out ad112 had R HRR.out); clear had; simp only [PT])
 | (go_at_call 86; (with_reducible show Calls _ _ #[Value.slice ad112 _ _, Value.int .i64 (x : Int)] _ _); (refine (cut_ok ad112 m cc R x (by omega) (by omega) (R.take x) rfl _ (HA112.out _ (HS.out.below (HB.out.trans (Below.mono bup HB.out.size))))).mono ?_); intro e w13 hr; obtain ⟨adD2, cD2, rfl, hoD, hb__⟩ := hr; have hE__ := cU HB bup hb__; replace HB := ck HB hE__; replace HG3 := ck HG3 hE__; replace HG6 := ck HG6 hE__; replace HD := ck HD hE__; clear hE__; clear hb__ hoD)
 | ((with_reducible show wpList _ _ _ (⟨none, .store _ (.tmp 119) (.tmp 118), _, _, _, _⟩ :: _) _ _); (refine z0c rfl 24 (.tmp 119) (.tmp 118) rfl g3 8 (.slice adD D.length cD) rfl rfl rfl HG3.out (by simp) (by kernel_rfl) #[.int .i64 3, .bool false, .int .u32 0, .int .i64 0, .int .u32 0, .int .i64 (V0 : Int), .int .u64 ((T : Nat) : Int), .int .u32 (V16 : Int), .slice adD D.length cD, .slice none 0 0, .slice none 0 0] rfl ?_); intro w14 hs__ hr__; replace HB := cg HB bup hr__ (by omega); replace HG6 := cg HG6 bup hr__ (by omega); replace HD := cg HD bup hr__ (by omega); clear HG3; have HG3 := Hd hs__; clear hs__ hr__; simp only [PT])
 | ((with_reducible refine sl 120 ?_); (refine z05 rfl 27 (.tmp 3) rfl g3 0 rfl [.int .i64 3, .bool false, .int .u32 0, .int .i64 0, .int .u32 0, .int .i64 (V0 : Int), .int .u64 ((T : Nat) : Int), .int .u32 (V16 : Int), .slice adD D.length cD, .slice none 0 0, .slice none 0 0] _ (z00 HG3.out) Try.underlying27 rfl HBI.out ?_); simp only [PT])
 | ((with_reducible show wpList _ _ _ (⟨none, .store _ (.tmp 6) (.tmp 120), _, _, _, _⟩ :: _) _ _); (refine z02 rfl 27 (.tmp 6) (.tmp 120) rfl g6 #[.int .i64 3, .bool false, .int .u32 0, .int .i64 0, .int .u32 0, .int .i64 (V0 : Int), .int .u64 ((T : Nat) : Int), .int .u32 (V16 : Int), .slice adD D.length cD, .slice none 0 0, .slice none 0 0] rfl rfl HG6.out HBI.out rfl (all1 _ rfl) ?_); intro w15 hs__ hr__; replace HB := cg HB bup hr__ (by omega); replace HG3 := cg HG3 bup hr__ (by omega); replace HD := cg HD bup hr__ (by omega); clear HG6; have HG6 := Hd hs__; clear hs__ hr__; simp only [PT]))
      (try simp only [Exit.inBlock, Exit.then, Exit.noGoto_ret])
      refine z04 (cs := [.int .i64 3, .bool false, .int .u32 0, .int .i64 0, .int .u32 0, .int .i64 (V0 : Int), .int .u64 ((T : Nat) : Int), .int .u32 (V16 : Int), .slice adD D.length cD, .slice none 0 0, .slice none 0 0]) rfl rfl (z00 HG6.out) Try.underlying27 rfl HBI.out rfl ?_
      refine ⟨⟨3, false, 0, 0, 0, (V0 : Int), T, V16, adD, D.length, cD, D, none, 0, 0, [], none, 0, 0, []⟩, _, _, _, true, rfl, by rw [HO.out]; rfl, fun x r h => ?_, HB.out⟩
      have hh := HO.out.symm.trans h
      simp only [Option.some.injEq, Prod.mk.injEq] at hh
      obtain ⟨rfl, rfl⟩ := hh
      refine ⟨rfl, fun w0 h0 => Bs.drop8 (HA112.out w0 h0) x (by omega), z0r HD.out (by omega), OwnOps.nil _ _ _, OwnOps.nil _ _ _⟩
    · have h4i : ¬ (x : Int) % 4 = 0 := by omega
      go_wp2_with fail
      go_roundw
      case rel => exact ⟨x + 1, by omega, by omega, by go_num, HG3.out, HG6.out, HB.out, HD.out⟩
      case measure => simp [intOf]; omega
theorem refOpen_any (t : Nat) (ad : Option Addr) (n c : Nat) (l : List UInt8) (big : Bool) (w : World) (hs : Bs w ad n c l) (hn : n ≤ 1048576) :
    Calls Try.prog 62 #[.agg (hdrC t).toArray, .slice ad n c, .bool big] w (OpenR ad n c l (openP (kindP t) t l big) w) := by
  unfold hdrC
  rcases kindP_cases t with h | h | h | h | h | h | h <;> rw [h]
  · rw [show openP 1 t l big = openP 1 0 l big from rfl, if_neg (by decide)]
    by_cases hlt : n < 16
    · exact refOpen1_short ad n c l big w hs hn hlt
    · by_cases h1 : w2 big l 4 = 1
      · exact refOpen1_ok ad n c l big w hs hn (by omega) h1
      · exact refOpen1_not ad n c l big w hs hn (by omega) h1
  · rw [show openP 2 t l big = openP 2 0 l big from rfl, if_neg (by decide)]
    by_cases hlt : n < 8
    · exact refOpen2_short ad n c l big w hs hn hlt
    · exact refOpen2_ok ad n c l big w hs hn (by omega)
  · rw [show openP 3 t l big = openP 3 0 l big from rfl, if_neg (by decide)]
    by_cases hlt : n < 20
    · exact refOpen3_short ad n c l big w hs hn hlt
    · by_cases h1 : n - 20 < w4 big l 12
      · exact refOpen3_a ad n c l big w hs hn (by omega) h1
      · by_cases h2 : n - 20 < w4 big l 12 + padN (w4 big l 12)
        · exact refOpen3_b ad n c l big w hs hn (by omega) h1 h2
        · exact refOpen3_ok ad n c l big w hs hn (by omega) h2
  · rw [show openP 4 t l big = openP 4 0 l big from rfl, if_neg (by decide)]
    by_cases hlt : n < 4
    · exact refOpen4_short ad n c l big w hs hn hlt
    · exact refOpen4_ok ad n c l big w hs hn (by omega)
  · rw [show openP 5 t l big = openP 5 0 l big from rfl, if_neg (by decide)]
    exact refOpen5 ad n c l big w hs hn
  · rw [show openP 6 t l big = openP 6 0 l big from rfl, if_neg (by decide)]
    by_cases hlt : n < 12
    · exact refOpen6_short ad n c l big w hs hn hlt
    · exact refOpen6_ok ad n c l big w hs hn (by omega)
  · rw [if_pos rfl]
    exact refOpen7_ok t ad n c l big w hs hn
theorem magic_true (B : List UInt8) (h : B.length = 4) : getN B true = 439041101 ↔ B = [26, 43, 60, 77] := by
  constructor
  · intro e
    have := putL_getN B true (by omega)
    rw [h, e] at this
    rw [← this]
    rfl
  · rintro rfl; rfl
theorem magic_false (B : List UInt8) (h : B.length = 4) : getN B false = 439041101 ↔ B = [77, 60, 43, 26] := by
  constructor
  · intro e
    have := putL_getN B false (by omega)
    rw [h, e] at this
    rw [← this]
    rfl
  · rintro rfl; rfl
theorem z2t {P : Program} {w : World} {ops : Array Oper} {o : Oper} {a : Act} {K : Act → World → Prop} {Q : Exit → Act → World → Prop} {E : Prop} (hgd : o.guard = none) (T : TypeId) (ho : o.op = .alloc T) (z : Value) (zs : Array Value) (n : Nat) (hi : (P.info? T).map (fun i => (i.zero, i.size)) = some (some z, n)) (hz : z.cells = zs)
    (h : ∀ w1 g, w.heap.size ≤ g → g < w1.heap.size → w1.heap[g]? = some (.cells zs T (0, 0)) → Below w.heap.size w w1 → K (a.put o.dst (.pointer (some ⟨g, 0, none⟩))) w1) : if Region.wanted o (yielded ops a.tmps) = true then Oper.wp P o a w K Q else E := by
  obtain ⟨hz0, hsz⟩ := zero_of_info hi
  refine z39 (by simp [Region.wanted, hgd]) (v := .pointer (some ⟨w.heap.size, 0, none⟩)) (w' := w.alloc (.cells zs T)) ?_ (h _ _ (Nat.le_refl _) (by simp) (heap_alloc_last w _) ((Below.refl _ _).alloc (Nat.le_refl _) _))
  simp [execOp, ho, Instr.alloc, hz0, newVar, newRow, hz]
end Go.Proofs.Ytmfplinbbcoahaa
