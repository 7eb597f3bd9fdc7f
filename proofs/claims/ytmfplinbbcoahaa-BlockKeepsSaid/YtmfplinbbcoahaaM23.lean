/-
  Joined by program (merge.py): RefBlk2, RO1, RO2, RCut.
-/
import Derived.Test.YtmfplinbbcoahaaM2
import Derived.Test.YtmfplinbbcoahaaM4
import Derived.Test.YtmfplinbbcoahaaM13
import Derived.Test.YtmfplinbbcoahaaM18
/-
  Chapter 26: the reference's word, walked.
-/
namespace Go.Proofs.Ytmfplinbbcoahaa
open Go.RowKit Go.Sort
set_option linter.unusedVariables false
set_option linter.unusedSimpArgs false

set_option maxRecDepth 100000 in
set_option maxHeartbeats 4000000 in
theorem word_any (ad : Option Addr) (n c : Nat) (l : List UInt8) (k : Nat) (big : Bool) (w : World) (hs : Bs w ad n c l) (hk : k + 4 ≤ n) (hn : n ≤ 4000000) :
    Calls Try.prog 85 #[.slice ad n c, .int .i64 k, .bool big] w fun e w' => e = .returned (.int .u64 (getN ((l.drop k).take 4) big)) ∧ w = w' := by
  have HS := Lib.hid hs
  have hc := hs.le
  obtain ⟨m, hm⟩ : ∃ m, m = k + 4 := ⟨_, rfl⟩
  have hmi : (k : Int) + 4 = (m : Int) := by omega
  have hmw : IntKind.i64.wrap ((k : Int) + 4) = (m : Int) := by rw [IntKind.wrap_i64]; omega
  have hmk : Hid (m - k = 4) := Lib.hid (by omega)
  have hkm : k ≤ m := by omega
  have hmn : m ≤ n := by omega
  clear hs hm
  go_enter Try.func85, Try.ntmps85
  go_wp2_with (first
    | ((with_reducible refine sl 11 ?_); (try rw [hmi]); go_must (refine wpL_slice elB rfl (.tmp 7) (some (.tmp 8)) (some (.tmp 10)) rfl rfl k m (.inr ⟨.i64, rfl⟩) (.inr ⟨.i64, rfl⟩) (by omega) (by omega) ?_); intro ad4 had4; go_must (have H4 := Lib.hid (show Bs w ad4 (m - k) (c - k) ((l.drop k).take 4) by rw [had4.out, ← hmk.out]; exact Bs.part HS.out k m (by omega) (by omega))); simp only [PT])
    | (go_at_call 61; go_must (refine (refGet_any ad4 _ _ _ big _ H4.out).mono ?_); rintro e w5 ⟨rfl, hw5⟩))
  go_ret
  exact ⟨rfl, hw5⟩
end Go.Proofs.Ytmfplinbbcoahaa
/-
  Chapter 26: a block's body read by the document, kind by kind, walked (by genrefopen.py).
-/
namespace Go.Proofs.Ytmfplinbbcoahaa
open Go.RowKit Go.Sort
set_option linter.unusedVariables false
set_option linter.unusedSimpArgs false

set_option maxRecDepth 100000 in
set_option maxHeartbeats 8000000 in
theorem refOpen1_short (ad : Option Addr) (n c : Nat) (l : List UInt8) (big : Bool) (w : World) (hs : Bs w ad n c l) (hn : n ≤ 1048576) (h : n < 16) :
    Calls Try.prog 62 #[.agg #[.int .i64 1, .bool false, .int .u32 0, .int .i64 0, .int .u32 0, .int .i64 0, .int .u64 0, .int .u32 0, .slice none 0 0, .slice none 0 0, .slice none 0 0], .slice ad n c, .bool big] w (OpenR ad n c l (openP 1 0 l big) w) := by
  have HB := Lib.hid (Below.refl w.heap.size w)
  have HS := Lib.hid hs
  have HBI := Lib.hid blk_info
  have hc := hs.le
  have HN := Lib.hid hs.len
  clear hs
  have hi : (n : Int) < 16 := by omega
  have HO := Lib.hid (show openP 1 0 l big = none from by have := HN.out; unfold openP; simp [show l.length < 16 by omega])
  clear h
  go_enter Try.func62, Try.ntmps62
  go_wp2_with (first
    | ((with_reducible refine sl 3 ?_); go_must (refine wpL_boxG rfl 27 (.tmp 0) rfl #[.int .i64 1, .bool false, .int .u32 0, .int .i64 0, .int .u32 0, .int .i64 0, .int .u64 0, .int .u32 0, .slice none 0 0, .slice none 0 0, .slice none 0 0] rfl ?_); intro w1 g3 he__ le_g3 lt_g3 hg__ hb__; have HG3 := Lib.hid hg__; have hE__ := cU HB bup hb__; replace HB := ck HB hE__; clear hE__; clear hg__ hb__ he__; simp only [PT])
    | ((with_reducible refine sl 6 ?_); go_must (refine wpL_allocG rfl 27 rfl (.agg #[.int .i64 0, .bool false, .int .u32 0, .int .i64 0, .int .u32 0, .int .i64 0, .int .u64 0, .int .u32 0, .slice none 0 0, .slice none 0 0, .slice none 0 0]) #[.int .i64 0, .bool false, .int .u32 0, .int .i64 0, .int .u32 0, .int .i64 0, .int .u64 0, .int .u32 0, .slice none 0 0, .slice none 0 0, .slice none 0 0] 11 (by kernel_rfl) rfl ?_); intro w2 g6 he__ le_g6 lt_g6 hg__ hb__; have HG6 := Lib.hid hg__; have hE__ := cU HB bup hb__; replace HB := ck HB hE__; replace HG3 := ck HG3 hE__; clear hE__; clear hg__ hb__ he__; simp only [PT])
    | ((with_reducible refine sl 25 ?_); go_must (refine wpL_litN rfl 101 3 8 _ rfl .i64 [0, 16, 8, 20, 4, 0, 12, 0] Try.underlying101 (by kernel_rfl) (by kernel_rfl) rfl (by decide) (by decide) (by rfl) ?_); intro w3 gL le_gL hg__ hb__; have HGL := Lib.hid hg__; have hE__ := cU HB bup hb__; replace HB := ck HB hE__; replace HG3 := ck HG3 hE__; replace HG6 := ck HG6 hE__; clear hE__; clear hg__ hb__; simp only [PT])
    | ((with_reducible refine sl 27 ?_); go_must (refine wpL_loadF rfl 3 (.tmp 26) rfl g3 0 rfl (.int .i64 1) HG3.out rfl Try.underlying3 rfl ?_); simp only [PT])
    | ((with_reducible refine sl 29 ?_); go_must (refine wpL_loadF rfl 3 (.tmp 28) rfl gL 1 rfl (.int .i64 16) HGL.out rfl Try.underlying3 rfl ?_); simp only [PT])
    | ((with_reducible refine sl 36 ?_); go_must (refine wpL_loadF rfl 3 (.tmp 35) rfl g3 0 rfl (.int .i64 1) HG3.out rfl Try.underlying3 rfl ?_); simp only [PT])
    | ((with_reducible refine sl 83 ?_); go_must (refine wpL_loadF rfl 3 (.tmp 82) rfl g3 0 rfl (.int .i64 1) HG3.out rfl Try.underlying3 rfl ?_); simp only [PT])
    | ((with_reducible refine sl 34 ?_); go_must (refine wpL_load rfl 27 (.tmp 3) rfl g3 0 rfl [.int .i64 1, .bool false, .int .u32 0, .int .i64 0, .int .u32 0, .int .i64 0, .int .u64 0, .int .u32 0, .slice none 0 0, .slice none 0 0, .slice none 0 0] _ (range_block HG3.out) Try.underlying27 rfl HBI.out ?_); simp only [PT])
    | ((with_reducible show wpList _ _ _ (⟨none, .store _ (.tmp 6) (.tmp 34), _, _, _, _⟩ :: _) _ _); go_must (refine wpL_storeRow rfl 27 (.tmp 6) (.tmp 34) rfl g6 #[.int .i64 1, .bool false, .int .u32 0, .int .i64 0, .int .u32 0, .int .i64 0, .int .u64 0, .int .u32 0, .slice none 0 0, .slice none 0 0, .slice none 0 0] rfl rfl HG6.out HBI.out rfl (all1 _ rfl) ?_); intro w9 hs__ hr__; replace HB := cg HB bup hr__ (by omega); replace HG3 := cg HG3 bup hr__ (by omega); clear HG6; have HG6 := Lib.hid hs__; clear hs__ hr__; simp only [PT]))
  all_goals
    (try simp only [Exit.inBlock, Exit.then, Exit.noGoto_ret])
    refine bodyPost_cell1x (cs := [.int .i64 1, .bool false, .int .u32 0, .int .i64 0, .int .u32 0, .int .i64 0, .int .u64 0, .int .u32 0, .slice none 0 0, .slice none 0 0, .slice none 0 0]) rfl rfl (range_block HG6.out) Try.underlying27 rfl HBI.out rfl ?_
    exact ⟨⟨1, false, 0, 0, 0, 0, 0, 0, none, 0, 0, [], none, 0, 0, [], none, 0, 0, []⟩, none, 0, 0, false, rfl, by rw [HO.out]; rfl, fun x r h => absurd (HO.out.symm.trans h) (by simp), HB.out⟩

set_option maxRecDepth 100000 in
set_option maxHeartbeats 8000000 in
theorem refOpen1_ok (ad : Option Addr) (n c : Nat) (l : List UInt8) (big : Bool) (w : World) (hs : Bs w ad n c l) (hn : n ≤ 1048576) (h : 16 ≤ n) (h1 : w2 big l 4 = 1) :
    Calls Try.prog 62 #[.agg #[.int .i64 1, .bool false, .int .u32 0, .int .i64 0, .int .u32 0, .int .i64 0, .int .u64 0, .int .u32 0, .slice none 0 0, .slice none 0 0, .slice none 0 0], .slice ad n c, .bool big] w (OpenR ad n c l (openP 1 0 l big) w) := by
  have HB := Lib.hid (Below.refl w.heap.size w)
  have HS := Lib.hid hs
  have HBI := Lib.hid blk_info
  have hc := hs.le
  have HN := Lib.hid hs.len
  clear hs
  have hi : ¬ (n : Int) < 16 := by omega
  obtain ⟨V4, hV4⟩ : ∃ x, x = getN ((l.drop 4).take 2) big := ⟨_, rfl⟩
  have bV4 : V4 < 65536 := by rw [hV4]; exact w2_lt big l 4
  have HV4 := Lib.hid hV4
  clear hV4
  have HP6 : Hid (∀ w0, Bs w0 ad n c l → Bs w0 (subAd ad c 4 1) (6 - 4) (c - 4) ((l.drop 4).take 2)) := Lib.hid (fun w0 h0 => Bs.part h0 4 6 (by omega) (by omega))
  have HP16 : Hid (∀ w0, Bs w0 ad n c l → Bs w0 (subAd ad c 16 1) (n - 16) (c - 16) (l.drop 16)) := Lib.hid (fun w0 h0 => Bs.drop8 h0 16 (by omega))
  have hv : V4 = 1 := by rw [HV4.out]; exact h1
  have hvi : (V4 : Int) = 1 := by omega
  have HO : Hid (openP 1 0 l big = some ({ noneB with kind := 1, big := big }, l.drop 16)) := Lib.hid (by have := HN.out; unfold openP; rw [if_pos rfl, if_neg (by omega), if_pos h1])
  clear HN hv h1
  go_enter Try.func62, Try.ntmps62
  go_wp2_with (first
    | ((with_reducible refine sl 3 ?_); go_must (refine wpL_boxG rfl 27 (.tmp 0) rfl #[.int .i64 1, .bool false, .int .u32 0, .int .i64 0, .int .u32 0, .int .i64 0, .int .u64 0, .int .u32 0, .slice none 0 0, .slice none 0 0, .slice none 0 0] rfl ?_); intro w1 g3 he__ le_g3 lt_g3 hg__ hb__; have HG3 := Lib.hid hg__; have hE__ := cU HB bup hb__; replace HB := ck HB hE__; clear hE__; clear hg__ hb__ he__; simp only [PT])
    | ((with_reducible refine sl 6 ?_); go_must (refine wpL_allocG rfl 27 rfl (.agg #[.int .i64 0, .bool false, .int .u32 0, .int .i64 0, .int .u32 0, .int .i64 0, .int .u64 0, .int .u32 0, .slice none 0 0, .slice none 0 0, .slice none 0 0]) #[.int .i64 0, .bool false, .int .u32 0, .int .i64 0, .int .u32 0, .int .i64 0, .int .u64 0, .int .u32 0, .slice none 0 0, .slice none 0 0, .slice none 0 0] 11 (by kernel_rfl) rfl ?_); intro w2 g6 he__ le_g6 lt_g6 hg__ hb__; have HG6 := Lib.hid hg__; have hE__ := cU HB bup hb__; replace HB := ck HB hE__; replace HG3 := ck HG3 hE__; clear hE__; clear hg__ hb__ he__; simp only [PT])
    | ((with_reducible refine sl 25 ?_); go_must (refine wpL_litN rfl 101 3 8 _ rfl .i64 [0, 16, 8, 20, 4, 0, 12, 0] Try.underlying101 (by kernel_rfl) (by kernel_rfl) rfl (by decide) (by decide) (by rfl) ?_); intro w3 gL le_gL hg__ hb__; have HGL := Lib.hid hg__; have hE__ := cU HB bup hb__; replace HB := ck HB hE__; replace HG3 := ck HG3 hE__; replace HG6 := ck HG6 hE__; clear hE__; clear hg__ hb__; simp only [PT])
    | ((with_reducible refine sl 27 ?_); go_must (refine wpL_loadF rfl 3 (.tmp 26) rfl g3 0 rfl (.int .i64 1) HG3.out rfl Try.underlying3 rfl ?_); simp only [PT])
    | ((with_reducible refine sl 29 ?_); go_must (refine wpL_loadF rfl 3 (.tmp 28) rfl gL 1 rfl (.int .i64 16) HGL.out rfl Try.underlying3 rfl ?_); simp only [PT])
    | ((with_reducible refine sl 36 ?_); go_must (refine wpL_loadF rfl 3 (.tmp 35) rfl g3 0 rfl (.int .i64 1) HG3.out rfl Try.underlying3 rfl ?_); simp only [PT])
    | ((with_reducible refine sl 83 ?_); go_must (refine wpL_loadF rfl 3 (.tmp 82) rfl g3 0 rfl (.int .i64 1) HG3.out rfl Try.underlying3 rfl ?_); simp only [PT])
    | ((with_reducible show wpList _ _ _ (⟨none, .store _ (.tmp 40) (.tmp 39), _, _, _, _⟩ :: _) _ _); go_must (refine wpL_storeF rfl 4 (.tmp 40) (.tmp 39) rfl g3 1 (.bool big) rfl rfl rfl HG3.out (by simp) (by kernel_rfl) #[.int .i64 1, .bool big, .int .u32 0, .int .i64 0, .int .u32 0, .int .i64 0, .int .u64 0, .int .u32 0, .slice none 0 0, .slice none 0 0, .slice none 0 0] rfl ?_); intro w4 hs__ hr__; replace HB := cg HB bup hr__ (by omega); replace HG6 := cg HG6 bup hr__ (by omega); clear HG3; have HG3 := Lib.hid hs__; clear hs__ hr__; simp only [PT]))
  refine wp_region_held_drew (S := fun u => True) (by kernel_rfl) ?_ (fun hHeld => ?_)
  focus (exact trivial)
  refine tk 1 (oi := ⟨some 42, _, _, _, _, _⟩) (v := ?_) rfl (by kernel_rfl) (.inl ⟨by rfl, ?_⟩) hHeld ?_; rotate_left; focus (intro w hSw; (try dsimp only at hSw); go_simp; try with_reducible rfl)
  simp only [PT]
  refine' tk 2 (oi := ⟨some 43, _, _, _, _, _⟩) (v := _) rfl (by kernel_rfl) (yields_slice elB rfl (.tmp 42) (some (.const (.int .i64 16))) none rfl rfl 16 n (.inr ⟨.i64, rfl⟩) (.inl ⟨rfl, rfl⟩) (by omega) (by omega)) hHeld ?_
  simp only [PT]
  refine tk 3 (oi := ⟨some 44, _, _, _, _, _⟩) (v := ?_) rfl (by kernel_rfl) (.inl ⟨by rfl, ?_⟩) hHeld ?_; rotate_left; focus (intro w hSw; (try dsimp only at hSw); go_simp; try with_reducible rfl)
  simp only [PT]
  refine' tk 4 (oi := ⟨some 45, _, _, _, _, _⟩) (v := _) rfl (by kernel_rfl) (yields_slice elB rfl (.tmp 44) (some (.const (.int .i64 4))) (some (.const (.int .i64 6))) rfl rfl 4 6 (.inr ⟨.i64, rfl⟩) (.inr ⟨.i64, rfl⟩) (by omega) (by omega)) hHeld ?_
  simp only [PT]
  refine tk 5 (oi := ⟨some 46, _, _, _, _, _⟩) (v := ?_) rfl (by kernel_rfl) (.inl ⟨by rfl, ?_⟩) hHeld ?_; rotate_left; focus (intro w hSw; (try dsimp only at hSw); go_simp; try with_reducible rfl)
  simp only [PT]
  refine wpAnyH_ready (rs := [0, 6]) (by kernel_rfl) (by simp) ?_
  refine (AllReadyH.cons (o := ⟨some 41, _, _, _, _, _⟩) rfl (fun K hK => ?_) (AllReadyH.cons (o := ⟨some 47, _, _, _, _, _⟩) rfl (fun K hK => ?_) AllReadyH.nil))
  (go_must (refine step_loadR rfl 27 (.tmp 3) rfl g3 0 rfl [.int .i64 1, .bool big, .int .u32 0, .int .i64 0, .int .u32 0, .int .i64 0, .int .u64 0, .int .u32 0, .slice none 0 0, .slice none 0 0, .slice none 0 0] _ (by exact range_block HG3.out) Try.underlying27 rfl HBI.out ?_))
  refine hK.out _ _ ?_ (fun hHeld => ?_)
  focus (exact trivial)
  clear hK K
  try simp only [PT]
  refine wpAnyH_ready (rs := [6]) (by kernel_rfl) (by simp) ?_
  refine (AllReadyH.cons (o := ⟨some 47, _, _, _, _, _⟩) rfl (fun K hK => ?_) AllReadyH.nil)
  focus (go_simp; go_must (refine (refGet_any _ (6 - 4) _ _ big _ (HP6.out _ (HS.out.below (HB.out.trans (Below.mono bup HB.out.size))))).mono ?_); intro e w5 hr; rw [← HV4.out] at hr; obtain ⟨rfl, hw__⟩ := hr; subst hw__; go_wp2_with fail)
  refine hK.out _ _ ?_ (fun hHeld => ?_)
  focus (exact trivial)
  clear hK K
  try simp only [PT]
  refine' tk 7 (oi := ⟨some 48, _, _, _, _, _⟩) (v := (.bool true)) rfl (by kernel_rfl) (.inl ⟨by rfl, ?_⟩) hHeld ?_; focus (intro w hSw; (try dsimp only at hSw); go_simp; first | done | rfl | (simp [*]; done) | (simp [*]; omega))
  simp only [PT]
  refine wpAnyH_ready (rs := [8]) (by kernel_rfl) (by simp) ?_
  refine (AllReadyH.cons (o := ⟨none, _, _, _, _, _⟩) rfl (fun K hK => ?_) AllReadyH.nil)
  (go_must (refine step_storeR rfl 27 (.tmp 6) (.tmp 41) rfl g6 #[.int .i64 1, .bool big, .int .u32 0, .int .i64 0, .int .u32 0, .int .i64 0, .int .u64 0, .int .u32 0, .slice none 0 0, .slice none 0 0, .slice none 0 0] rfl rfl HG6.out HBI.out rfl (all1 _ rfl) ?_); intro w9 hs__ hr__; replace HB := cg HB bup hr__ (by omega); replace HG3 := cg HG3 bup hr__ (by omega); clear HG6; have HG6 := Lib.hid hs__; clear hs__ hr__)
  refine hK.out _ _ ?_ (fun hHeld => ?_)
  focus (exact trivial)
  clear hK K
  try simp only [PT]
  refine tk 9 (oi := ⟨some 7, _, _, _, _, _⟩) (v := ?_) rfl (by kernel_rfl) (.inl ⟨by rfl, ?_⟩) hHeld ?_; rotate_left; focus (intro w hSw; (try dsimp only at hSw); go_simp; try with_reducible rfl)
  simp only [PT]
  refine tk 10 (oi := ⟨some 8, _, _, _, _, _⟩) (v := ?_) rfl (by kernel_rfl) (.inl ⟨by rfl, ?_⟩) hHeld ?_; rotate_left; focus (intro w hSw; (try dsimp only at hSw); go_simp; try with_reducible rfl)
  simp only [PT]
  refine wpAnyH_done (by kernel_rfl) ?_ _
  rotate_left
  focus (go_simp; go_must (refine (refGet_any _ (6 - 4) _ _ big _ (HP6.out _ (HS.out.below (HB.out.trans (Below.mono bup HB.out.size))))).mono ?_); intro e w5 hr; rw [← HV4.out] at hr; obtain ⟨rfl, hw__⟩ := hr; subst hw__; go_wp2_with fail)
  refine hK.out _ _ ?_ (fun hHeld => ?_)
  focus (exact trivial)
  clear hK K
  try simp only [PT]
  refine' tk 7 (oi := ⟨some 48, _, _, _, _, _⟩) (v := (.bool true)) rfl (by kernel_rfl) (.inl ⟨by rfl, ?_⟩) hHeld ?_; focus (intro w hSw; (try dsimp only at hSw); go_simp; first | done | rfl | (simp [*]; done) | (simp [*]; omega))
  simp only [PT]
  refine wpAnyH_ready (rs := [0]) (by kernel_rfl) (by simp) ?_
  refine (AllReadyH.cons (o := ⟨some 41, _, _, _, _, _⟩) rfl (fun K hK => ?_) AllReadyH.nil)
  (go_must (refine step_loadR rfl 27 (.tmp 3) rfl g3 0 rfl [.int .i64 1, .bool big, .int .u32 0, .int .i64 0, .int .u32 0, .int .i64 0, .int .u64 0, .int .u32 0, .slice none 0 0, .slice none 0 0, .slice none 0 0] _ (by exact range_block HG3.out) Try.underlying27 rfl HBI.out ?_))
  refine hK.out _ _ ?_ (fun hHeld => ?_)
  focus (exact trivial)
  clear hK K
  try simp only [PT]
  refine wpAnyH_ready (rs := [8]) (by kernel_rfl) (by simp) ?_
  refine (AllReadyH.cons (o := ⟨none, _, _, _, _, _⟩) rfl (fun K hK => ?_) AllReadyH.nil)
  (go_must (refine step_storeR rfl 27 (.tmp 6) (.tmp 41) rfl g6 #[.int .i64 1, .bool big, .int .u32 0, .int .i64 0, .int .u32 0, .int .i64 0, .int .u64 0, .int .u32 0, .slice none 0 0, .slice none 0 0, .slice none 0 0] rfl rfl HG6.out HBI.out rfl (all1 _ rfl) ?_); intro w9 hs__ hr__; replace HB := cg HB bup hr__ (by omega); replace HG3 := cg HG3 bup hr__ (by omega); clear HG6; have HG6 := Lib.hid hs__; clear hs__ hr__)
  refine hK.out _ _ ?_ (fun hHeld => ?_)
  focus (exact trivial)
  clear hK K
  try simp only [PT]
  refine tk 9 (oi := ⟨some 7, _, _, _, _, _⟩) (v := ?_) rfl (by kernel_rfl) (.inl ⟨by rfl, ?_⟩) hHeld ?_; rotate_left; focus (intro w hSw; (try dsimp only at hSw); go_simp; try with_reducible rfl)
  simp only [PT]
  refine tk 10 (oi := ⟨some 8, _, _, _, _, _⟩) (v := ?_) rfl (by kernel_rfl) (.inl ⟨by rfl, ?_⟩) hHeld ?_; rotate_left; focus (intro w hSw; (try dsimp only at hSw); go_simp; try with_reducible rfl)
  simp only [PT]
  refine wpAnyH_done (by kernel_rfl) ?_ _
  rotate_left
  all_goals
    go_wp2_with fail
    (try simp only [Exit.inBlock, Exit.then, Exit.noGoto_ret])
    refine bodyPost_cell1x (cs := [.int .i64 1, .bool big, .int .u32 0, .int .i64 0, .int .u32 0, .int .i64 0, .int .u64 0, .int .u32 0, .slice none 0 0, .slice none 0 0, .slice none 0 0]) rfl rfl (range_block HG6.out) Try.underlying27 rfl HBI.out rfl ?_
    refine ⟨⟨1, big, 0, 0, 0, 0, 0, 0, none, 0, 0, [], none, 0, 0, [], none, 0, 0, []⟩, _, _, _, true, rfl, by rw [HO.out]; rfl, fun x r h => ?_, HB.out⟩
    have hh := HO.out.symm.trans h
    simp only [Option.some.injEq, Prod.mk.injEq] at hh
    obtain ⟨rfl, rfl⟩ := hh
    refine ⟨rfl, HP16.out, own_nil _ _ _ _, OwnOps.nil _ _ _, OwnOps.nil _ _ _⟩

set_option maxRecDepth 100000 in
set_option maxHeartbeats 8000000 in
theorem refOpen1_not (ad : Option Addr) (n c : Nat) (l : List UInt8) (big : Bool) (w : World) (hs : Bs w ad n c l) (hn : n ≤ 1048576) (h : 16 ≤ n) (h1 : ¬ w2 big l 4 = 1) :
    Calls Try.prog 62 #[.agg #[.int .i64 1, .bool false, .int .u32 0, .int .i64 0, .int .u32 0, .int .i64 0, .int .u64 0, .int .u32 0, .slice none 0 0, .slice none 0 0, .slice none 0 0], .slice ad n c, .bool big] w (OpenR ad n c l (openP 1 0 l big) w) := by
  have HB := Lib.hid (Below.refl w.heap.size w)
  have HS := Lib.hid hs
  have HBI := Lib.hid blk_info
  have hc := hs.le
  have HN := Lib.hid hs.len
  clear hs
  have hi : ¬ (n : Int) < 16 := by omega
  obtain ⟨V4, hV4⟩ : ∃ x, x = getN ((l.drop 4).take 2) big := ⟨_, rfl⟩
  have bV4 : V4 < 65536 := by rw [hV4]; exact w2_lt big l 4
  have HV4 := Lib.hid hV4
  clear hV4
  have HP6 : Hid (∀ w0, Bs w0 ad n c l → Bs w0 (subAd ad c 4 1) (6 - 4) (c - 4) ((l.drop 4).take 2)) := Lib.hid (fun w0 h0 => Bs.part h0 4 6 (by omega) (by omega))
  have HP16 : Hid (∀ w0, Bs w0 ad n c l → Bs w0 (subAd ad c 16 1) (n - 16) (c - 16) (l.drop 16)) := Lib.hid (fun w0 h0 => Bs.drop8 h0 16 (by omega))
  have hv : ¬ V4 = 1 := by rw [HV4.out]; exact h1
  have hvi : ¬ (V4 : Int) = 1 := by omega
  have HO : Hid (openP 1 0 l big = none) := Lib.hid (by have := HN.out; unfold openP; rw [if_pos rfl, if_neg (by omega), if_neg h1])
  clear HN hv h1
  go_enter Try.func62, Try.ntmps62
  go_wp2_with (first
    | ((with_reducible refine sl 3 ?_); go_must (refine wpL_boxG rfl 27 (.tmp 0) rfl #[.int .i64 1, .bool false, .int .u32 0, .int .i64 0, .int .u32 0, .int .i64 0, .int .u64 0, .int .u32 0, .slice none 0 0, .slice none 0 0, .slice none 0 0] rfl ?_); intro w1 g3 he__ le_g3 lt_g3 hg__ hb__; have HG3 := Lib.hid hg__; have hE__ := cU HB bup hb__; replace HB := ck HB hE__; clear hE__; clear hg__ hb__ he__; simp only [PT])
    | ((with_reducible refine sl 6 ?_); go_must (refine wpL_allocG rfl 27 rfl (.agg #[.int .i64 0, .bool false, .int .u32 0, .int .i64 0, .int .u32 0, .int .i64 0, .int .u64 0, .int .u32 0, .slice none 0 0, .slice none 0 0, .slice none 0 0]) #[.int .i64 0, .bool false, .int .u32 0, .int .i64 0, .int .u32 0, .int .i64 0, .int .u64 0, .int .u32 0, .slice none 0 0, .slice none 0 0, .slice none 0 0] 11 (by kernel_rfl) rfl ?_); intro w2 g6 he__ le_g6 lt_g6 hg__ hb__; have HG6 := Lib.hid hg__; have hE__ := cU HB bup hb__; replace HB := ck HB hE__; replace HG3 := ck HG3 hE__; clear hE__; clear hg__ hb__ he__; simp only [PT])
    | ((with_reducible refine sl 25 ?_); go_must (refine wpL_litN rfl 101 3 8 _ rfl .i64 [0, 16, 8, 20, 4, 0, 12, 0] Try.underlying101 (by kernel_rfl) (by kernel_rfl) rfl (by decide) (by decide) (by rfl) ?_); intro w3 gL le_gL hg__ hb__; have HGL := Lib.hid hg__; have hE__ := cU HB bup hb__; replace HB := ck HB hE__; replace HG3 := ck HG3 hE__; replace HG6 := ck HG6 hE__; clear hE__; clear hg__ hb__; simp only [PT])
    | ((with_reducible refine sl 27 ?_); go_must (refine wpL_loadF rfl 3 (.tmp 26) rfl g3 0 rfl (.int .i64 1) HG3.out rfl Try.underlying3 rfl ?_); simp only [PT])
    | ((with_reducible refine sl 29 ?_); go_must (refine wpL_loadF rfl 3 (.tmp 28) rfl gL 1 rfl (.int .i64 16) HGL.out rfl Try.underlying3 rfl ?_); simp only [PT])
    | ((with_reducible refine sl 36 ?_); go_must (refine wpL_loadF rfl 3 (.tmp 35) rfl g3 0 rfl (.int .i64 1) HG3.out rfl Try.underlying3 rfl ?_); simp only [PT])
    | ((with_reducible refine sl 83 ?_); go_must (refine wpL_loadF rfl 3 (.tmp 82) rfl g3 0 rfl (.int .i64 1) HG3.out rfl Try.underlying3 rfl ?_); simp only [PT])
    | ((with_reducible show wpList _ _ _ (⟨none, .store _ (.tmp 40) (.tmp 39), _, _, _, _⟩ :: _) _ _); go_must (refine wpL_storeF rfl 4 (.tmp 40) (.tmp 39) rfl g3 1 (.bool big) rfl rfl rfl HG3.out (by simp) (by kernel_rfl) #[.int .i64 1, .bool big, .int .u32 0, .int .i64 0, .int .u32 0, .int .i64 0, .int .u64 0, .int .u32 0, .slice none 0 0, .slice none 0 0, .slice none 0 0] rfl ?_); intro w4 hs__ hr__; replace HB := cg HB bup hr__ (by omega); replace HG6 := cg HG6 bup hr__ (by omega); clear HG3; have HG3 := Lib.hid hs__; clear hs__ hr__; simp only [PT]))
  refine wp_region_held_drew (S := fun u => True) (by kernel_rfl) ?_ (fun hHeld => ?_)
  focus (exact trivial)
  refine tk 1 (oi := ⟨some 42, _, _, _, _, _⟩) (v := ?_) rfl (by kernel_rfl) (.inl ⟨by rfl, ?_⟩) hHeld ?_; rotate_left; focus (intro w hSw; (try dsimp only at hSw); go_simp; try with_reducible rfl)
  simp only [PT]
  refine' tk 2 (oi := ⟨some 43, _, _, _, _, _⟩) (v := _) rfl (by kernel_rfl) (yields_slice elB rfl (.tmp 42) (some (.const (.int .i64 16))) none rfl rfl 16 n (.inr ⟨.i64, rfl⟩) (.inl ⟨rfl, rfl⟩) (by omega) (by omega)) hHeld ?_
  simp only [PT]
  refine tk 3 (oi := ⟨some 44, _, _, _, _, _⟩) (v := ?_) rfl (by kernel_rfl) (.inl ⟨by rfl, ?_⟩) hHeld ?_; rotate_left; focus (intro w hSw; (try dsimp only at hSw); go_simp; try with_reducible rfl)
  simp only [PT]
  refine' tk 4 (oi := ⟨some 45, _, _, _, _, _⟩) (v := _) rfl (by kernel_rfl) (yields_slice elB rfl (.tmp 44) (some (.const (.int .i64 4))) (some (.const (.int .i64 6))) rfl rfl 4 6 (.inr ⟨.i64, rfl⟩) (.inr ⟨.i64, rfl⟩) (by omega) (by omega)) hHeld ?_
  simp only [PT]
  refine tk 5 (oi := ⟨some 46, _, _, _, _, _⟩) (v := ?_) rfl (by kernel_rfl) (.inl ⟨by rfl, ?_⟩) hHeld ?_; rotate_left; focus (intro w hSw; (try dsimp only at hSw); go_simp; try with_reducible rfl)
  simp only [PT]
  refine wpAnyH_ready (rs := [0, 6]) (by kernel_rfl) (by simp) ?_
  refine (AllReadyH.cons (o := ⟨some 41, _, _, _, _, _⟩) rfl (fun K hK => ?_) (AllReadyH.cons (o := ⟨some 47, _, _, _, _, _⟩) rfl (fun K hK => ?_) AllReadyH.nil))
  (go_must (refine step_loadR rfl 27 (.tmp 3) rfl g3 0 rfl [.int .i64 1, .bool big, .int .u32 0, .int .i64 0, .int .u32 0, .int .i64 0, .int .u64 0, .int .u32 0, .slice none 0 0, .slice none 0 0, .slice none 0 0] _ (by exact range_block HG3.out) Try.underlying27 rfl HBI.out ?_))
  refine hK.out _ _ ?_ (fun hHeld => ?_)
  focus (exact trivial)
  clear hK K
  try simp only [PT]
  refine wpAnyH_ready (rs := [6]) (by kernel_rfl) (by simp) ?_
  refine (AllReadyH.cons (o := ⟨some 47, _, _, _, _, _⟩) rfl (fun K hK => ?_) AllReadyH.nil)
  focus (go_simp; go_must (refine (refGet_any _ (6 - 4) _ _ big _ (HP6.out _ (HS.out.below (HB.out.trans (Below.mono bup HB.out.size))))).mono ?_); intro e w5 hr; rw [← HV4.out] at hr; obtain ⟨rfl, hw__⟩ := hr; subst hw__; go_wp2_with fail)
  refine hK.out _ _ ?_ (fun hHeld => ?_)
  focus (exact trivial)
  clear hK K
  try simp only [PT]
  refine' tk 7 (oi := ⟨some 48, _, _, _, _, _⟩) (v := (.bool false)) rfl (by kernel_rfl) (.inl ⟨by rfl, ?_⟩) hHeld ?_; focus (intro w hSw; (try dsimp only at hSw); go_simp; first | done | rfl | (simp [*]; done) | (simp [*]; omega))
  simp only [PT]
  refine wpAnyH_ready (rs := [8]) (by kernel_rfl) (by simp) ?_
  refine (AllReadyH.cons (o := ⟨none, _, _, _, _, _⟩) rfl (fun K hK => ?_) AllReadyH.nil)
  (go_must (refine step_storeR rfl 27 (.tmp 6) (.tmp 41) rfl g6 #[.int .i64 1, .bool big, .int .u32 0, .int .i64 0, .int .u32 0, .int .i64 0, .int .u64 0, .int .u32 0, .slice none 0 0, .slice none 0 0, .slice none 0 0] rfl rfl HG6.out HBI.out rfl (all1 _ rfl) ?_); intro w9 hs__ hr__; replace HB := cg HB bup hr__ (by omega); replace HG3 := cg HG3 bup hr__ (by omega); clear HG6; have HG6 := Lib.hid hs__; clear hs__ hr__)
  refine hK.out _ _ ?_ (fun hHeld => ?_)
  focus (exact trivial)
  clear hK K
  try simp only [PT]
  refine tk 9 (oi := ⟨some 7, _, _, _, _, _⟩) (v := ?_) rfl (by kernel_rfl) (.inl ⟨by rfl, ?_⟩) hHeld ?_; rotate_left; focus (intro w hSw; (try dsimp only at hSw); go_simp; try with_reducible rfl)
  simp only [PT]
  refine tk 10 (oi := ⟨some 8, _, _, _, _, _⟩) (v := ?_) rfl (by kernel_rfl) (.inl ⟨by rfl, ?_⟩) hHeld ?_; rotate_left; focus (intro w hSw; (try dsimp only at hSw); go_simp; try with_reducible rfl)
  simp only [PT]
  refine wpAnyH_done (by kernel_rfl) ?_ _
  rotate_left
  focus (go_simp; go_must (refine (refGet_any _ (6 - 4) _ _ big _ (HP6.out _ (HS.out.below (HB.out.trans (Below.mono bup HB.out.size))))).mono ?_); intro e w5 hr; rw [← HV4.out] at hr; obtain ⟨rfl, hw__⟩ := hr; subst hw__; go_wp2_with fail)
  refine hK.out _ _ ?_ (fun hHeld => ?_)
  focus (exact trivial)
  clear hK K
  try simp only [PT]
  refine' tk 7 (oi := ⟨some 48, _, _, _, _, _⟩) (v := (.bool false)) rfl (by kernel_rfl) (.inl ⟨by rfl, ?_⟩) hHeld ?_; focus (intro w hSw; (try dsimp only at hSw); go_simp; first | done | rfl | (simp [*]; done) | (simp [*]; omega))
  simp only [PT]
  refine wpAnyH_ready (rs := [0]) (by kernel_rfl) (by simp) ?_
  refine (AllReadyH.cons (o := ⟨some 41, _, _, _, _, _⟩) rfl (fun K hK => ?_) AllReadyH.nil)
  (go_must (refine step_loadR rfl 27 (.tmp 3) rfl g3 0 rfl [.int .i64 1, .bool big, .int .u32 0, .int .i64 0, .int .u32 0, .int .i64 0, .int .u64 0, .int .u32 0, .slice none 0 0, .slice none 0 0, .slice none 0 0] _ (by exact range_block HG3.out) Try.underlying27 rfl HBI.out ?_))
  refine hK.out _ _ ?_ (fun hHeld => ?_)
  focus (exact trivial)
  clear hK K
  try simp only [PT]
  refine wpAnyH_ready (rs := [8]) (by kernel_rfl) (by simp) ?_
  refine (AllReadyH.cons (o := ⟨none, _, _, _, _, _⟩) rfl (fun K hK => ?_) AllReadyH.nil)
  (go_must (refine step_storeR rfl 27 (.tmp 6) (.tmp 41) rfl g6 #[.int .i64 1, .bool big, .int .u32 0, .int .i64 0, .int .u32 0, .int .i64 0, .int .u64 0, .int .u32 0, .slice none 0 0, .slice none 0 0, .slice none 0 0] rfl rfl HG6.out HBI.out rfl (all1 _ rfl) ?_); intro w9 hs__ hr__; replace HB := cg HB bup hr__ (by omega); replace HG3 := cg HG3 bup hr__ (by omega); clear HG6; have HG6 := Lib.hid hs__; clear hs__ hr__)
  refine hK.out _ _ ?_ (fun hHeld => ?_)
  focus (exact trivial)
  clear hK K
  try simp only [PT]
  refine tk 9 (oi := ⟨some 7, _, _, _, _, _⟩) (v := ?_) rfl (by kernel_rfl) (.inl ⟨by rfl, ?_⟩) hHeld ?_; rotate_left; focus (intro w hSw; (try dsimp only at hSw); go_simp; try with_reducible rfl)
  simp only [PT]
  refine tk 10 (oi := ⟨some 8, _, _, _, _, _⟩) (v := ?_) rfl (by kernel_rfl) (.inl ⟨by rfl, ?_⟩) hHeld ?_; rotate_left; focus (intro w hSw; (try dsimp only at hSw); go_simp; try with_reducible rfl)
  simp only [PT]
  refine wpAnyH_done (by kernel_rfl) ?_ _
  rotate_left
  all_goals
    go_wp2_with fail
    (try simp only [Exit.inBlock, Exit.then, Exit.noGoto_ret])
    refine bodyPost_cell1x (cs := [.int .i64 1, .bool big, .int .u32 0, .int .i64 0, .int .u32 0, .int .i64 0, .int .u64 0, .int .u32 0, .slice none 0 0, .slice none 0 0, .slice none 0 0]) rfl rfl (range_block HG6.out) Try.underlying27 rfl HBI.out rfl ?_
    exact ⟨⟨1, big, 0, 0, 0, 0, 0, 0, none, 0, 0, [], none, 0, 0, [], none, 0, 0, []⟩, _, _, _, false, rfl, by rw [HO.out]; rfl, fun x r h => absurd (HO.out.symm.trans h) (by simp), HB.out⟩
end Go.Proofs.Ytmfplinbbcoahaa
/-
  Chapter 26: a block's body read by the document, kind by kind, walked (by genrefopen.py).
-/
namespace Go.Proofs.Ytmfplinbbcoahaa
open Go.RowKit Go.Sort
set_option linter.unusedVariables false
set_option linter.unusedSimpArgs false

set_option maxRecDepth 100000 in
set_option maxHeartbeats 8000000 in
theorem refOpen2_short (ad : Option Addr) (n c : Nat) (l : List UInt8) (big : Bool) (w : World) (hs : Bs w ad n c l) (hn : n ≤ 1048576) (h : n < 8) :
    Calls Try.prog 62 #[.agg #[.int .i64 2, .bool false, .int .u32 0, .int .i64 0, .int .u32 0, .int .i64 0, .int .u64 0, .int .u32 0, .slice none 0 0, .slice none 0 0, .slice none 0 0], .slice ad n c, .bool big] w (OpenR ad n c l (openP 2 0 l big) w) := by
  have HB := Lib.hid (Below.refl w.heap.size w)
  have HS := Lib.hid hs
  have HBI := Lib.hid blk_info
  have hc := hs.le
  have HN := Lib.hid hs.len
  clear hs
  have hi : (n : Int) < 8 := by omega
  have HO := Lib.hid (show openP 2 0 l big = none from by have := HN.out; unfold openP; simp [show l.length < 8 by omega])
  clear h
  go_enter Try.func62, Try.ntmps62
  go_wp2_with (first
    | ((with_reducible refine sl 3 ?_); go_must (refine wpL_boxG rfl 27 (.tmp 0) rfl #[.int .i64 2, .bool false, .int .u32 0, .int .i64 0, .int .u32 0, .int .i64 0, .int .u64 0, .int .u32 0, .slice none 0 0, .slice none 0 0, .slice none 0 0] rfl ?_); intro w1 g3 he__ le_g3 lt_g3 hg__ hb__; have HG3 := Lib.hid hg__; have hE__ := cU HB bup hb__; replace HB := ck HB hE__; clear hE__; clear hg__ hb__ he__; simp only [PT])
    | ((with_reducible refine sl 6 ?_); go_must (refine wpL_allocG rfl 27 rfl (.agg #[.int .i64 0, .bool false, .int .u32 0, .int .i64 0, .int .u32 0, .int .i64 0, .int .u64 0, .int .u32 0, .slice none 0 0, .slice none 0 0, .slice none 0 0]) #[.int .i64 0, .bool false, .int .u32 0, .int .i64 0, .int .u32 0, .int .i64 0, .int .u64 0, .int .u32 0, .slice none 0 0, .slice none 0 0, .slice none 0 0] 11 (by kernel_rfl) rfl ?_); intro w2 g6 he__ le_g6 lt_g6 hg__ hb__; have HG6 := Lib.hid hg__; have hE__ := cU HB bup hb__; replace HB := ck HB hE__; replace HG3 := ck HG3 hE__; clear hE__; clear hg__ hb__ he__; simp only [PT])
    | ((with_reducible refine sl 25 ?_); go_must (refine wpL_litN rfl 101 3 8 _ rfl .i64 [0, 16, 8, 20, 4, 0, 12, 0] Try.underlying101 (by kernel_rfl) (by kernel_rfl) rfl (by decide) (by decide) (by rfl) ?_); intro w3 gL le_gL hg__ hb__; have HGL := Lib.hid hg__; have hE__ := cU HB bup hb__; replace HB := ck HB hE__; replace HG3 := ck HG3 hE__; replace HG6 := ck HG6 hE__; clear hE__; clear hg__ hb__; simp only [PT])
    | ((with_reducible refine sl 27 ?_); go_must (refine wpL_loadF rfl 3 (.tmp 26) rfl g3 0 rfl (.int .i64 2) HG3.out rfl Try.underlying3 rfl ?_); simp only [PT])
    | ((with_reducible refine sl 29 ?_); go_must (refine wpL_loadF rfl 3 (.tmp 28) rfl gL 2 rfl (.int .i64 8) HGL.out rfl Try.underlying3 rfl ?_); simp only [PT])
    | ((with_reducible refine sl 36 ?_); go_must (refine wpL_loadF rfl 3 (.tmp 35) rfl g3 0 rfl (.int .i64 2) HG3.out rfl Try.underlying3 rfl ?_); simp only [PT])
    | ((with_reducible refine sl 83 ?_); go_must (refine wpL_loadF rfl 3 (.tmp 82) rfl g3 0 rfl (.int .i64 2) HG3.out rfl Try.underlying3 rfl ?_); simp only [PT])
    | ((with_reducible refine sl 34 ?_); go_must (refine wpL_load rfl 27 (.tmp 3) rfl g3 0 rfl [.int .i64 2, .bool false, .int .u32 0, .int .i64 0, .int .u32 0, .int .i64 0, .int .u64 0, .int .u32 0, .slice none 0 0, .slice none 0 0, .slice none 0 0] _ (range_block HG3.out) Try.underlying27 rfl HBI.out ?_); simp only [PT])
    | ((with_reducible show wpList _ _ _ (⟨none, .store _ (.tmp 6) (.tmp 34), _, _, _, _⟩ :: _) _ _); go_must (refine wpL_storeRow rfl 27 (.tmp 6) (.tmp 34) rfl g6 #[.int .i64 2, .bool false, .int .u32 0, .int .i64 0, .int .u32 0, .int .i64 0, .int .u64 0, .int .u32 0, .slice none 0 0, .slice none 0 0, .slice none 0 0] rfl rfl HG6.out HBI.out rfl (all1 _ rfl) ?_); intro w9 hs__ hr__; replace HB := cg HB bup hr__ (by omega); replace HG3 := cg HG3 bup hr__ (by omega); clear HG6; have HG6 := Lib.hid hs__; clear hs__ hr__; simp only [PT]))
  all_goals
    (try simp only [Exit.inBlock, Exit.then, Exit.noGoto_ret])
    refine bodyPost_cell1x (cs := [.int .i64 2, .bool false, .int .u32 0, .int .i64 0, .int .u32 0, .int .i64 0, .int .u64 0, .int .u32 0, .slice none 0 0, .slice none 0 0, .slice none 0 0]) rfl rfl (range_block HG6.out) Try.underlying27 rfl HBI.out rfl ?_
    exact ⟨⟨2, false, 0, 0, 0, 0, 0, 0, none, 0, 0, [], none, 0, 0, [], none, 0, 0, []⟩, none, 0, 0, false, rfl, by rw [HO.out]; rfl, fun x r h => absurd (HO.out.symm.trans h) (by simp), HB.out⟩

set_option maxRecDepth 100000 in
set_option maxHeartbeats 8000000 in
theorem refOpen2_ok (ad : Option Addr) (n c : Nat) (l : List UInt8) (big : Bool) (w : World) (hs : Bs w ad n c l) (hn : n ≤ 1048576) (h : 8 ≤ n) :
    Calls Try.prog 62 #[.agg #[.int .i64 2, .bool false, .int .u32 0, .int .i64 0, .int .u32 0, .int .i64 0, .int .u64 0, .int .u32 0, .slice none 0 0, .slice none 0 0, .slice none 0 0], .slice ad n c, .bool big] w (OpenR ad n c l (openP 2 0 l big) w) := by
  have HB := Lib.hid (Below.refl w.heap.size w)
  have HS := Lib.hid hs
  have HBI := Lib.hid blk_info
  have hc := hs.le
  have HN := Lib.hid hs.len
  clear hs
  have hi : ¬ (n : Int) < 8 := by omega
  obtain ⟨L0, hL0⟩ : ∃ x, x = getN ((l.drop 0).take 2) big := ⟨_, rfl⟩
  have bL0 : L0 < 65536 := by rw [hL0]; exact w2_lt big l 0
  have HL0 := Lib.hid hL0
  clear hL0
  obtain ⟨S4, hS4⟩ : ∃ x, x = getN ((l.drop 4).take 4) big := ⟨_, rfl⟩
  have bS4 : S4 < 4294967296 := by rw [hS4]; exact w4_lt big l 4
  have HS4 := Lib.hid hS4
  clear hS4
  have e1 : IntKind.i64.wrap (L0 : Int) = (L0 : Int) := by rw [IntKind.wrap_i64]; omega
  have e2 : IntKind.u32.wrap (S4 : Int) = (S4 : Int) := by rw [IntKind.wrap_u32]; omega
  have HO : Hid (openP 2 0 l big = some ({ noneB with kind := 2, link := (L0 : Int), snap := S4 }, l.drop 8)) := Lib.hid (by rw [HL0.out, HS4.out]; have := HN.out; unfold openP; rw [if_neg (by decide), if_pos rfl, if_neg (by omega)]; rfl)
  have HP8 : Hid (∀ w0, Bs w0 ad n c l → Bs w0 (subAd ad c 8 1) (n - 8) (c - 8) (l.drop 8)) := Lib.hid (fun w0 h0 => Bs.drop8 h0 8 (by omega))
  clear HN
  go_enter Try.func62, Try.ntmps62
  go_wp2_with (first
    | ((with_reducible refine sl 3 ?_); go_must (refine wpL_boxG rfl 27 (.tmp 0) rfl #[.int .i64 2, .bool false, .int .u32 0, .int .i64 0, .int .u32 0, .int .i64 0, .int .u64 0, .int .u32 0, .slice none 0 0, .slice none 0 0, .slice none 0 0] rfl ?_); intro w1 g3 he__ le_g3 lt_g3 hg__ hb__; have HG3 := Lib.hid hg__; have hE__ := cU HB bup hb__; replace HB := ck HB hE__; clear hE__; clear hg__ hb__ he__; simp only [PT])
    | ((with_reducible refine sl 6 ?_); go_must (refine wpL_allocG rfl 27 rfl (.agg #[.int .i64 0, .bool false, .int .u32 0, .int .i64 0, .int .u32 0, .int .i64 0, .int .u64 0, .int .u32 0, .slice none 0 0, .slice none 0 0, .slice none 0 0]) #[.int .i64 0, .bool false, .int .u32 0, .int .i64 0, .int .u32 0, .int .i64 0, .int .u64 0, .int .u32 0, .slice none 0 0, .slice none 0 0, .slice none 0 0] 11 (by kernel_rfl) rfl ?_); intro w2 g6 he__ le_g6 lt_g6 hg__ hb__; have HG6 := Lib.hid hg__; have hE__ := cU HB bup hb__; replace HB := ck HB hE__; replace HG3 := ck HG3 hE__; clear hE__; clear hg__ hb__ he__; simp only [PT])
    | ((with_reducible refine sl 25 ?_); go_must (refine wpL_litN rfl 101 3 8 _ rfl .i64 [0, 16, 8, 20, 4, 0, 12, 0] Try.underlying101 (by kernel_rfl) (by kernel_rfl) rfl (by decide) (by decide) (by rfl) ?_); intro w3 gL le_gL hg__ hb__; have HGL := Lib.hid hg__; have hE__ := cU HB bup hb__; replace HB := ck HB hE__; replace HG3 := ck HG3 hE__; replace HG6 := ck HG6 hE__; clear hE__; clear hg__ hb__; simp only [PT])
    | ((with_reducible refine sl 27 ?_); go_must (refine wpL_loadF rfl 3 (.tmp 26) rfl g3 0 rfl (.int .i64 2) HG3.out rfl Try.underlying3 rfl ?_); simp only [PT])
    | ((with_reducible refine sl 29 ?_); go_must (refine wpL_loadF rfl 3 (.tmp 28) rfl gL 2 rfl (.int .i64 8) HGL.out rfl Try.underlying3 rfl ?_); simp only [PT])
    | ((with_reducible refine sl 36 ?_); go_must (refine wpL_loadF rfl 3 (.tmp 35) rfl g3 0 rfl (.int .i64 2) HG3.out rfl Try.underlying3 rfl ?_); simp only [PT])
    | ((with_reducible refine sl 83 ?_); go_must (refine wpL_loadF rfl 3 (.tmp 82) rfl g3 0 rfl (.int .i64 2) HG3.out rfl Try.underlying3 rfl ?_); simp only [PT])
    | ((with_reducible refine sl 52 ?_); go_must (refine wpL_sliceG elB rfl (.tmp 51) (some (.const (.int .i64 0))) (some (.const (.int .i64 2))) rfl rfl 0 2 (.inr ⟨.i64, rfl⟩) (.inr ⟨.i64, rfl⟩) (by omega) (by omega) 2 c rfl rfl ?_); intro ad52 had; have HA52 := Lib.hid (show ∀ w0, Bs w0 ad n c l → Bs w0 ad52 2 c ((l.drop 0).take 2) from fun w0 h0 => Bs.partG h0 0 2 2 c (by omega) (by omega) rfl rfl ad52 had ((l.drop 0).take 2) rfl); clear had; simp only [PT])
    | (go_at_call 61; go_must (refine (refGet_any ad52 2 c _ big _ (HA52.out _ (HS.out.below (HB.out.trans (Below.mono bup HB.out.size))))).mono ?_); intro e w4 hr; rw [← HL0.out] at hr; obtain ⟨rfl, hw__⟩ := hr; subst hw__)
    | ((with_reducible show wpList _ _ _ (⟨none, .store _ (.tmp 56) (.tmp 55), _, _, _, _⟩ :: _) _ _); go_must (refine wpL_storeF rfl 3 (.tmp 56) (.tmp 55) rfl g3 3 (.int .i64 (L0 : Int)) rfl rfl rfl HG3.out (by simp) (by kernel_rfl) #[.int .i64 2, .bool false, .int .u32 0, .int .i64 (L0 : Int), .int .u32 0, .int .i64 0, .int .u64 0, .int .u32 0, .slice none 0 0, .slice none 0 0, .slice none 0 0] rfl ?_); intro w5 hs__ hr__; replace HB := cg HB bup hr__ (by omega); replace HG6 := cg HG6 bup hr__ (by omega); clear HG3; have HG3 := Lib.hid hs__; clear hs__ hr__; simp only [PT])
    | (go_at_call 85; (with_reducible show Calls _ _ #[_, Value.int .i64 4, _] _ _); go_must (refine (word_any ad n c l 4 big _ (HS.out.below (HB.out.trans (Below.mono bup HB.out.size))) (by omega) (by omega)).mono ?_); intro e w6 hr; rw [← HS4.out] at hr; obtain ⟨rfl, hw__⟩ := hr; subst hw__)
    | ((with_reducible show wpList _ _ _ (⟨none, .store _ (.tmp 61) (.tmp 60), _, _, _, _⟩ :: _) _ _); go_must (refine wpL_storeF rfl 22 (.tmp 61) (.tmp 60) rfl g3 4 (.int .u32 (S4 : Int)) rfl rfl rfl HG3.out (by simp) (by kernel_rfl) #[.int .i64 2, .bool false, .int .u32 0, .int .i64 (L0 : Int), .int .u32 (S4 : Int), .int .i64 0, .int .u64 0, .int .u32 0, .slice none 0 0, .slice none 0 0, .slice none 0 0] rfl ?_); intro w7 hs__ hr__; replace HB := cg HB bup hr__ (by omega); replace HG6 := cg HG6 bup hr__ (by omega); clear HG3; have HG3 := Lib.hid hs__; clear hs__ hr__; simp only [PT]))
  refine wp_region_held_drew (S := fun u => True) (by kernel_rfl) ?_ (fun hHeld => ?_)
  focus (exact trivial)
  refine tk 1 (oi := ⟨some 63, _, _, _, _, _⟩) (v := ?_) rfl (by kernel_rfl) (.inl ⟨by rfl, ?_⟩) hHeld ?_; rotate_left; focus (intro w hSw; (try dsimp only at hSw); go_simp; try with_reducible rfl)
  simp only [PT]
  refine' tk 2 (oi := ⟨some 64, _, _, _, _, _⟩) (v := _) rfl (by kernel_rfl) (yields_slice elB rfl (.tmp 63) (some (.const (.int .i64 8))) none rfl rfl 8 n (.inr ⟨.i64, rfl⟩) (.inl ⟨rfl, rfl⟩) (by omega) (by omega)) hHeld ?_
  simp only [PT]
  refine wpAnyH_ready (rs := [0]) (by kernel_rfl) (by simp) ?_
  refine (AllReadyH.cons (o := ⟨some 62, _, _, _, _, _⟩) rfl (fun K hK => ?_) AllReadyH.nil)
  (go_must (refine step_loadR rfl 27 (.tmp 3) rfl g3 0 rfl [.int .i64 2, .bool false, .int .u32 0, .int .i64 (L0 : Int), .int .u32 (S4 : Int), .int .i64 0, .int .u64 0, .int .u32 0, .slice none 0 0, .slice none 0 0, .slice none 0 0] _ (by exact range_block HG3.out) Try.underlying27 rfl HBI.out ?_))
  refine hK.out _ _ ?_ (fun hHeld => ?_)
  focus (exact trivial)
  clear hK K
  try simp only [PT]
  refine wpAnyH_ready (rs := [3]) (by kernel_rfl) (by simp) ?_
  refine (AllReadyH.cons (o := ⟨none, _, _, _, _, _⟩) rfl (fun K hK => ?_) AllReadyH.nil)
  (go_must (refine step_storeR rfl 27 (.tmp 6) (.tmp 62) rfl g6 #[.int .i64 2, .bool false, .int .u32 0, .int .i64 (L0 : Int), .int .u32 (S4 : Int), .int .i64 0, .int .u64 0, .int .u32 0, .slice none 0 0, .slice none 0 0, .slice none 0 0] rfl rfl HG6.out HBI.out rfl (all1 _ rfl) ?_); intro w9 hs__ hr__; replace HB := cg HB bup hr__ (by omega); replace HG3 := cg HG3 bup hr__ (by omega); clear HG6; have HG6 := Lib.hid hs__; clear hs__ hr__)
  refine hK.out _ _ ?_ (fun hHeld => ?_)
  focus (exact trivial)
  clear hK K
  try simp only [PT]
  refine tk 4 (oi := ⟨some 7, _, _, _, _, _⟩) (v := ?_) rfl (by kernel_rfl) (.inl ⟨by rfl, ?_⟩) hHeld ?_; rotate_left; focus (intro w hSw; (try dsimp only at hSw); go_simp; try with_reducible rfl)
  simp only [PT]
  refine tk 5 (oi := ⟨some 8, _, _, _, _, _⟩) (v := ?_) rfl (by kernel_rfl) (.inl ⟨by rfl, ?_⟩) hHeld ?_; rotate_left; focus (intro w hSw; (try dsimp only at hSw); go_simp; try with_reducible rfl)
  simp only [PT]
  refine wpAnyH_done (by kernel_rfl) ?_ _
  all_goals
    go_wp2_with fail
    (try simp only [Exit.inBlock, Exit.then, Exit.noGoto_ret])
    refine bodyPost_cell1x (cs := [.int .i64 2, .bool false, .int .u32 0, .int .i64 (L0 : Int), .int .u32 (S4 : Int), .int .i64 0, .int .u64 0, .int .u32 0, .slice none 0 0, .slice none 0 0, .slice none 0 0]) rfl rfl (range_block HG6.out) Try.underlying27 rfl HBI.out rfl ?_
    refine ⟨⟨2, false, 0, (L0 : Int), S4, 0, 0, 0, none, 0, 0, [], none, 0, 0, [], none, 0, 0, []⟩, _, _, _, true, rfl, by rw [HO.out]; rfl, fun x r h => ?_, HB.out⟩
    have hh := HO.out.symm.trans h
    simp only [Option.some.injEq, Prod.mk.injEq] at hh
    obtain ⟨rfl, rfl⟩ := hh
    refine ⟨rfl, HP8.out, own_nil _ _ _ _, OwnOps.nil _ _ _, OwnOps.nil _ _ _⟩
end Go.Proofs.Ytmfplinbbcoahaa
/-
  Chapter 26: a block's body read by the document, kind by kind, walked (by genrefopen.py).
-/
namespace Go.Proofs.Ytmfplinbbcoahaa
open Go.RowKit Go.Sort
set_option linter.unusedVariables false
set_option linter.unusedSimpArgs false

set_option maxRecDepth 100000 in
set_option maxHeartbeats 4000000 in
theorem cut_short (ad : Option Addr) (n c : Nat) (k : Nat) (hk : n < k) (w : World) :
    Calls Try.prog 86 #[.slice ad n c, .int .i64 (k : Int)] w fun e w' => e = .returned (.tuple #[.slice none 0 0, .slice none 0 0, .bool false]) ∧ w = w' := by
  have h1 : ¬ (k : Int) < 0 := by omega
  have h2 : (n : Int) < (k : Int) := by omega
  have hb : (decide ((k : Int) < 0) || decide ((n : Int) < (k : Int))) = true := by simp [h2]
  go_enter Try.func86, Try.ntmps86
  go_wp2_with fail
  go_ret3
  exact ⟨rfl, rfl⟩
set_option maxRecDepth 100000 in
set_option maxHeartbeats 4000000 in
theorem cut_ok (ad : Option Addr) (n c : Nat) (l : List UInt8) (k : Nat) (hk : k ≤ n) (hn : n ≤ 1000000000) (D : List UInt8) (hD : l.take k = D) (w : World) (hs : Bs w ad n c l) :
    Calls Try.prog 86 #[.slice ad n c, .int .i64 (k : Int)] w fun e w' => ∃ adD cD, e = .returned (.tuple #[.slice adD D.length cD, .slice (subAd ad c k 1) (n - k) (c - k), .bool true]) ∧ w'.ownsRow w.heap.size 5 1 (.slice adD D.length cD) D.length (BV D) ∧ Below w.heap.size w w' := by
  have HS := Lib.hid hs
  have hc := hs.le
  have hl := hs.len
  have hDl : D.length ≤ 1000000000 := by rw [← hD, List.length_take]; omega
  have HP := Lib.hid (show ∀ w0, Bs w0 ad n c l → Bs w0 (subAd ad c 0 1) (k - 0) (c - 0) D from fun w0 h0 => by have := Bs.part h0 0 k (Nat.zero_le _) hk; rwa [List.drop_zero, Nat.sub_zero k, hD] at this)
  have h1 : ¬ (k : Int) < 0 := by omega
  have h2 : ¬ (n : Int) < (k : Int) := by omega
  have hb : (decide ((k : Int) < 0) || decide ((n : Int) < (k : Int))) = false := by simp [h1, h2]
  have HE := Lib.hid (Below.refl w.heap.size w)
  clear hs hl hD
  go_enter Try.func86, Try.ntmps86
  go_wp2_with fail
  refine wp_region_held_drew (S := fun u => True) (by kernel_rfl) ?_ (fun hHeld => ?_)
  focus (exact trivial)
  refine tk 1 (oi := ⟨some 16, _, _, _, _, _⟩) (v := ?_) rfl (by kernel_rfl) (.inl ⟨by rfl, ?_⟩) hHeld ?_; rotate_left; focus (intro w hSw; (try dsimp only at hSw); go_simp; try with_reducible rfl)
  simp only [PT]
  refine tk 2 (oi := ⟨some 17, _, _, _, _, _⟩) (v := ?_) rfl (by kernel_rfl) (.inl ⟨by rfl, ?_⟩) hHeld ?_; rotate_left; focus (intro w hSw; (try dsimp only at hSw); go_simp; try with_reducible rfl)
  simp only [PT]
  refine' tk 3 (oi := ⟨some 18, _, _, _, _, _⟩) (v := _) rfl (by kernel_rfl) (yields_slice elB rfl (.tmp 16) none (some (.tmp 17)) rfl rfl 0 k (.inl ⟨rfl, rfl⟩) (.inr ⟨.i64, rfl⟩) (by omega) (by omega)) hHeld ?_
  simp only [PT]
  refine tk 5 (oi := ⟨some 20, _, _, _, _, _⟩) (v := ?_) rfl (by kernel_rfl) (.inl ⟨by rfl, ?_⟩) hHeld ?_; rotate_left; focus (intro w hSw; (try dsimp only at hSw); go_simp; try with_reducible rfl)
  simp only [PT]
  refine tk 6 (oi := ⟨some 21, _, _, _, _, _⟩) (v := ?_) rfl (by kernel_rfl) (.inl ⟨by rfl, ?_⟩) hHeld ?_; rotate_left; focus (intro w hSw; (try dsimp only at hSw); go_simp; try with_reducible rfl)
  simp only [PT]
  refine' tk 7 (oi := ⟨some 22, _, _, _, _, _⟩) (v := _) rfl (by kernel_rfl) (yields_slice elB rfl (.tmp 20) (some (.tmp 21)) none rfl rfl k n (.inr ⟨.i64, rfl⟩) (.inl ⟨rfl, rfl⟩) (by omega) (by omega)) hHeld ?_
  simp only [PT]
  refine wpAnyH_ready (rs := [0]) (by kernel_rfl) (by simp) ?_
  refine (AllReadyH.cons (o := ⟨some 15, _, _, _, _, _⟩) rfl (fun K hK => ?_) AllReadyH.nil)
  (go_must (refine step_lit0 rfl rfl ?_); intro w2 g2 ho__ hb__; replace HE := cE0 HE bup hb__; have HO := Lib.hid (own_base (base' := w.heap.size) ho__ (bsz bup)); clear ho__ hb__)
  refine hK.out _ _ ?_ (fun hHeld => ?_)
  focus (exact trivial)
  clear hK K
  try simp only [PT]
  refine wpAnyH_ready (rs := [4]) (by kernel_rfl) (by simp) ?_
  refine (AllReadyH.cons (o := ⟨some 19, _, _, _, _, _⟩) rfl (fun K hK => ?_) AllReadyH.nil)
  (go_must (refine step_appL elB rfl (.tmp 15) (.tmp 18) rfl w.heap.size rfl (own_keep HO.out bup) rfl (HP.out _ (HS.out.below (HE.out.trans (Below.mono bup HE.out.size)))) D (List.nil_append D) (by omega) (Nat.le_trans HE.out.size (bsz bup)) ?_); intro adD cD w7 ho__ hb__; replace HE := cEb HE bup hb__; clear HO; have HO := Lib.hid ho__; clear ho__ hb__)
  refine hK.out _ _ ?_ (fun hHeld => ?_)
  focus (exact trivial)
  clear hK K
  try simp only [PT]
  refine tk 8 (oi := ⟨some 4, _, _, _, _, _⟩) (v := ?_) rfl (by kernel_rfl) (.inl ⟨by rfl, ?_⟩) hHeld ?_; rotate_left; focus (intro w hSw; (try dsimp only at hSw); go_simp; try with_reducible rfl)
  simp only [PT]
  refine tk 9 (oi := ⟨some 5, _, _, _, _, _⟩) (v := ?_) rfl (by kernel_rfl) (.inl ⟨by rfl, ?_⟩) hHeld ?_; rotate_left; focus (intro w hSw; (try dsimp only at hSw); go_simp; try with_reducible rfl)
  simp only [PT]
  refine tk 10 (oi := ⟨some 6, _, _, _, _, _⟩) (v := ?_) rfl (by kernel_rfl) (.inl ⟨by rfl, ?_⟩) hHeld ?_; rotate_left; focus (intro w hSw; (try dsimp only at hSw); go_simp; try with_reducible rfl)
  simp only [PT]
  refine wpAnyH_done (by kernel_rfl) ?_ _
  all_goals
    go_wp2_with fail
    go_ret3
    exact ⟨adD, cD, rfl, HO.out, HE.out⟩
end Go.Proofs.Ytmfplinbbcoahaa
