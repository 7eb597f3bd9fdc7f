/-
  Joined by program (merge.py): Opn3, OrWord, Opn4, Opn5.
-/
import Derived.Test.YtmfplinbbcoahaaM1
import Derived.Test.YtmfplinbbcoahaaM13
/-
  Chapter 26: a block's body read, kind by kind, walked (by genopen.py).
-/
namespace Go.Proofs.Ytmfplinbbcoahaa
open Go.RowKit Go.Sort
set_option linter.unusedVariables false
set_option linter.unusedSimpArgs false

set_option maxRecDepth 100000 in
set_option maxHeartbeats 8000000 in
theorem open1_short (ad : Option Addr) (n c : Nat) (l : List UInt8) (big : Bool) (w : World) (hs : Bs w ad n c l) (hn : n ≤ 1048576) (h : n < 16) :
    Calls Try.prog 59 #[.agg #[.int .i64 1, .bool false, .int .u32 0, .int .i64 0, .int .u32 0, .int .i64 0, .int .u64 0, .int .u32 0, .slice none 0 0, .slice none 0 0, .slice none 0 0], .slice ad n c, .bool big] w (OpenR ad n c l (openP 1 0 l big) w) := by
  have HB := Lib.hid (Below.refl w.heap.size w)
  have HS := Lib.hid hs
  have HBI := Lib.hid blk_info
  have hc := hs.le
  have HN := Lib.hid hs.len
  clear hs
  have hi : (n : Int) < 16 := by omega
  have HO := Lib.hid (show openP 1 0 l big = none from by have := HN.out; unfold openP; simp [show l.length < 16 by omega])
  clear h
  go_enter Try.func59, Try.ntmps59
  go_wp2_with (first
    | ((with_reducible refine sl 3 ?_); go_must (refine wpL_boxG rfl 27 (.tmp 0) rfl #[.int .i64 1, .bool false, .int .u32 0, .int .i64 0, .int .u32 0, .int .i64 0, .int .u64 0, .int .u32 0, .slice none 0 0, .slice none 0 0, .slice none 0 0] rfl ?_); intro w1 g3 he__ le_g3 lt_g3 hg__ hb__; have HG3 := Lib.hid hg__; have hE__ := cU HB bup hb__; replace HB := ck HB hE__; clear hE__; clear hg__ hb__ he__; simp only [PT])
    | ((with_reducible refine sl 4 ?_); go_must (refine wpL_boxG rfl 24 (.tmp 1) rfl #[.slice ad n c] rfl ?_); intro w2 g4 he__ le_g4 lt_g4 hg__ hb__; have HG4 := Lib.hid hg__; have hE__ := cU HB bup hb__; replace HB := ck HB hE__; replace HG3 := ck HG3 hE__; clear hE__; clear hg__ hb__ he__; simp only [PT])
    | ((with_reducible refine sl 5 ?_); go_must (refine wpL_boxG rfl 4 (.tmp 2) rfl #[.bool big] rfl ?_); intro w3 g5 he__ le_g5 lt_g5 hg__ hb__; have HG5 := Lib.hid hg__; have hE__ := cU HB bup hb__; replace HB := ck HB hE__; replace HG3 := ck HG3 hE__; replace HG4 := ck HG4 hE__; clear hE__; clear hg__ hb__ he__; simp only [PT])
    | ((with_reducible refine sl 6 ?_); go_must (refine wpL_allocG rfl 27 rfl (.agg #[.int .i64 0, .bool false, .int .u32 0, .int .i64 0, .int .u32 0, .int .i64 0, .int .u64 0, .int .u32 0, .slice none 0 0, .slice none 0 0, .slice none 0 0]) #[.int .i64 0, .bool false, .int .u32 0, .int .i64 0, .int .u32 0, .int .i64 0, .int .u64 0, .int .u32 0, .slice none 0 0, .slice none 0 0, .slice none 0 0] 11 (by kernel_rfl) rfl ?_); intro w4 g6 he__ le_g6 lt_g6 hg__ hb__; have HG6 := Lib.hid hg__; have hE__ := cU HB bup hb__; replace HB := ck HB hE__; replace HG3 := ck HG3 hE__; replace HG4 := ck HG4 hE__; replace HG5 := ck HG5 hE__; clear hE__; clear hg__ hb__ he__; simp only [PT])
    | ((with_reducible refine sl 19 ?_); go_must (refine wpL_index rfl (.tmp 16) (.tmp 18) rfl _ _ rfl rfl (.int .i64 16) need_at1 ?_); simp only [PT])
    | ((with_reducible refine sl 18 ?_); go_must (refine wpL_loadF rfl 3 (.tmp 17) rfl g3 0 rfl (.int .i64 1) HG3.out rfl Try.underlying3 rfl ?_); simp only [PT])
    | ((with_reducible refine sl 20 ?_); go_must (refine wpL_loadF rfl 24 (.tmp 4) rfl g4 0 rfl (.slice ad n c) HG4.out rfl Try.underlying24 rfl ?_); simp only [PT])
    | ((with_reducible refine sl 30 ?_); go_must (refine wpL_loadF rfl 3 (.tmp 29) rfl g3 0 rfl (.int .i64 1) HG3.out rfl Try.underlying3 rfl ?_); simp only [PT])
    | ((with_reducible refine sl 26 ?_); go_must (refine wpL_loadF rfl 24 (.tmp 4) rfl g4 0 rfl (.slice ad n c) HG4.out rfl Try.underlying24 rfl ?_); simp only [PT])
    | ((with_reducible refine sl 24 ?_); go_must (refine wpL_load rfl 27 (.tmp 3) rfl g3 0 rfl [.int .i64 1, .bool false, .int .u32 0, .int .i64 0, .int .u32 0, .int .i64 0, .int .u64 0, .int .u32 0, .slice none 0 0, .slice none 0 0, .slice none 0 0] _ (range_block HG3.out) Try.underlying27 rfl HBI.out ?_); simp only [PT])
    | ((with_reducible show wpList _ _ _ (⟨none, .store _ (.tmp 6) (.tmp 24), _, _, _, _⟩ :: _) _ _); go_must (refine wpL_storeRow rfl 27 (.tmp 6) (.tmp 24) rfl g6 #[.int .i64 1, .bool false, .int .u32 0, .int .i64 0, .int .u32 0, .int .i64 0, .int .u64 0, .int .u32 0, .slice none 0 0, .slice none 0 0, .slice none 0 0] rfl rfl HG6.out HBI.out rfl (all1 _ rfl) ?_); intro w9 hs__ hr__; replace HB := cg HB bup hr__ (by omega); replace HG3 := cg HG3 bup hr__ (by omega); clear HG6; have HG6 := Lib.hid hs__; clear hs__ hr__; simp only [PT]))
  all_goals
    (try simp only [Exit.inBlock, Exit.then, Exit.noGoto_ret])
    refine bodyPost_cell1x (cs := [.int .i64 1, .bool false, .int .u32 0, .int .i64 0, .int .u32 0, .int .i64 0, .int .u64 0, .int .u32 0, .slice none 0 0, .slice none 0 0, .slice none 0 0]) rfl rfl (range_block HG6.out) Try.underlying27 rfl HBI.out rfl ?_
    exact ⟨⟨1, false, 0, 0, 0, 0, 0, 0, none, 0, 0, [], none, 0, 0, [], none, 0, 0, []⟩, none, 0, 0, false, rfl, by rw [HO.out]; rfl, fun x r h => absurd (HO.out.symm.trans h) (by simp), HB.out⟩

set_option maxRecDepth 100000 in
set_option maxHeartbeats 8000000 in
theorem open1_ok (ad : Option Addr) (n c : Nat) (l : List UInt8) (big : Bool) (w : World) (hs : Bs w ad n c l) (hn : n ≤ 1048576) (h : 16 ≤ n) (h1 : w2 big l 4 = 1) :
    Calls Try.prog 59 #[.agg #[.int .i64 1, .bool false, .int .u32 0, .int .i64 0, .int .u32 0, .int .i64 0, .int .u64 0, .int .u32 0, .slice none 0 0, .slice none 0 0, .slice none 0 0], .slice ad n c, .bool big] w (OpenR ad n c l (openP 1 0 l big) w) := by
  have HB := Lib.hid (Below.refl w.heap.size w)
  have HS := Lib.hid hs
  have HBI := Lib.hid blk_info
  have hc := hs.le
  have HN := Lib.hid hs.len
  clear hs
  have hi : ¬ (n : Int) < 16 := by omega
  obtain ⟨V4, hV4⟩ : ∃ x, x = getN ((l.drop 4).take 2) big := ⟨_, rfl⟩
  have bV4 : V4 < 65536 := by rw [hV4]; exact w2_lt big l 4
  have HV4 := Lib.hid hV4
  clear hV4
  have hv : V4 = 1 := by rw [HV4.out]; exact h1
  have HVV := Lib.hid hv
  have hvi : (V4 : Int) = 1 := by omega
  have HO : Hid (openP 1 0 l big = some ({ noneB with kind := 1, big := big }, l.drop 16)) := Lib.hid (by have := HN.out; unfold openP; rw [if_pos rfl, if_neg (by omega), if_pos h1])
  clear HN hv h1
  go_enter Try.func59, Try.ntmps59
  go_wp2_with (first
    | ((with_reducible refine sl 3 ?_); go_must (refine wpL_boxG rfl 27 (.tmp 0) rfl #[.int .i64 1, .bool false, .int .u32 0, .int .i64 0, .int .u32 0, .int .i64 0, .int .u64 0, .int .u32 0, .slice none 0 0, .slice none 0 0, .slice none 0 0] rfl ?_); intro w1 g3 he__ le_g3 lt_g3 hg__ hb__; have HG3 := Lib.hid hg__; have hE__ := cU HB bup hb__; replace HB := ck HB hE__; clear hE__; clear hg__ hb__ he__; simp only [PT])
    | ((with_reducible refine sl 4 ?_); go_must (refine wpL_boxG rfl 24 (.tmp 1) rfl #[.slice ad n c] rfl ?_); intro w2 g4 he__ le_g4 lt_g4 hg__ hb__; have HG4 := Lib.hid hg__; have hE__ := cU HB bup hb__; replace HB := ck HB hE__; replace HG3 := ck HG3 hE__; clear hE__; clear hg__ hb__ he__; simp only [PT])
    | ((with_reducible refine sl 5 ?_); go_must (refine wpL_boxG rfl 4 (.tmp 2) rfl #[.bool big] rfl ?_); intro w3 g5 he__ le_g5 lt_g5 hg__ hb__; have HG5 := Lib.hid hg__; have hE__ := cU HB bup hb__; replace HB := ck HB hE__; replace HG3 := ck HG3 hE__; replace HG4 := ck HG4 hE__; clear hE__; clear hg__ hb__ he__; simp only [PT])
    | ((with_reducible refine sl 6 ?_); go_must (refine wpL_allocG rfl 27 rfl (.agg #[.int .i64 0, .bool false, .int .u32 0, .int .i64 0, .int .u32 0, .int .i64 0, .int .u64 0, .int .u32 0, .slice none 0 0, .slice none 0 0, .slice none 0 0]) #[.int .i64 0, .bool false, .int .u32 0, .int .i64 0, .int .u32 0, .int .i64 0, .int .u64 0, .int .u32 0, .slice none 0 0, .slice none 0 0, .slice none 0 0] 11 (by kernel_rfl) rfl ?_); intro w4 g6 he__ le_g6 lt_g6 hg__ hb__; have HG6 := Lib.hid hg__; have hE__ := cU HB bup hb__; replace HB := ck HB hE__; replace HG3 := ck HG3 hE__; replace HG4 := ck HG4 hE__; replace HG5 := ck HG5 hE__; clear hE__; clear hg__ hb__ he__; simp only [PT])
    | ((with_reducible refine sl 19 ?_); go_must (refine wpL_index rfl (.tmp 16) (.tmp 18) rfl _ _ rfl rfl (.int .i64 16) need_at1 ?_); simp only [PT])
    | ((with_reducible refine sl 18 ?_); go_must (refine wpL_loadF rfl 3 (.tmp 17) rfl g3 0 rfl (.int .i64 1) HG3.out rfl Try.underlying3 rfl ?_); simp only [PT])
    | ((with_reducible refine sl 20 ?_); go_must (refine wpL_loadF rfl 24 (.tmp 4) rfl g4 0 rfl (.slice ad n c) HG4.out rfl Try.underlying24 rfl ?_); simp only [PT])
    | ((with_reducible refine sl 30 ?_); go_must (refine wpL_loadF rfl 3 (.tmp 29) rfl g3 0 rfl (.int .i64 1) HG3.out rfl Try.underlying3 rfl ?_); simp only [PT])
    | ((with_reducible refine sl 26 ?_); go_must (refine wpL_loadF rfl 24 (.tmp 4) rfl g4 0 rfl (.slice ad n c) HG4.out rfl Try.underlying24 rfl ?_); simp only [PT])
    | ((with_reducible refine sl 28 ?_); go_must (refine wpL_slice elB rfl (.tmp 26) (some (.tmp 27)) none rfl rfl 16 n (.inr ⟨.i64, rfl⟩) (.inl ⟨rfl, rfl⟩) (by omega) (by omega) ?_); intro ad28 had28; have HRG := Lib.hid (show ∀ w0, Bs w0 ad n c l → Bs w0 ad28 (n - 16) (c - 16) (l.drop 16) from fun w0 h0 => by rw [had28.out]; exact Bs.drop8 h0 16 (by omega)); clear had28; simp only [PT])
    | ((with_reducible refine sl 36 ?_); go_must (refine wpL_loadF rfl 4 (.tmp 5) rfl g5 0 rfl (.bool big) HG5.out rfl Try.underlying4 rfl ?_); simp only [PT])
    | ((with_reducible show wpList _ _ _ (⟨none, .store _ (.tmp 37) (.tmp 36), _, _, _, _⟩ :: _) _ _); go_must (refine wpL_storeF rfl 4 (.tmp 37) (.tmp 36) rfl g3 1 (.bool big) rfl rfl rfl HG3.out (by simp) (by kernel_rfl) #[.int .i64 1, .bool big, .int .u32 0, .int .i64 0, .int .u32 0, .int .i64 0, .int .u64 0, .int .u32 0, .slice none 0 0, .slice none 0 0, .slice none 0 0] rfl ?_); intro w7 hs__ hr__; replace HB := cg HB bup hr__ (by omega); replace HG4 := cg HG4 bup hr__ (by omega); replace HG5 := cg HG5 bup hr__ (by omega); replace HG6 := cg HG6 bup hr__ (by omega); clear HG3; have HG3 := Lib.hid hs__; clear hs__ hr__; simp only [PT]))
  refine wp_region_held_drew (S := fun u => u.heap[g3]? = some (.cells #[.int .i64 1, .bool big, .int .u32 0, .int .i64 0, .int .u32 0, .int .i64 0, .int .u64 0, .int .u32 0, .slice none 0 0, .slice none 0 0, .slice none 0 0] 27 (0, 0))) (by kernel_rfl) ?_ (fun hHeld => ?_)
  focus (exact HG3.out)
  refine' tk 0 (oi := ⟨some 38, _, _, _, _, _⟩) (v := _) rfl (by kernel_rfl) (yieldsIf_load_mid (by rfl) _ _ rfl _ _ rfl ([.int .i64 1, .bool big, .int .u32 0, .int .i64 0, .int .u32 0, .int .i64 0, .int .u64 0, .int .u32 0, .slice none 0 0, .slice none 0 0, .slice none 0 0]) _ (fun u hu => range_block hu) (Try.underlying27) rfl (HBI.out)) hHeld ?_
  simp only [PT]
  refine tk 1 (oi := ⟨some 39, _, _, _, _, _⟩) (v := ?_) rfl (by kernel_rfl) (.inl ⟨by rfl, ?_⟩) hHeld ?_; rotate_left; focus (intro w hSw; (try dsimp only at hSw); go_simp; try with_reducible rfl)
  simp only [PT]
  refine tk 2 (oi := ⟨some 40, _, _, _, _, _⟩) (v := ?_) rfl (by kernel_rfl) (.inl ⟨by rfl, ?_⟩) hHeld ?_; rotate_left; focus (intro w hSw; (try dsimp only at hSw); go_simp; try with_reducible rfl)
  simp only [PT]
  refine wpAnyH_ready (rs := [3]) (by kernel_rfl) (by simp) ?_
  refine (AllReadyH.cons (o := ⟨some 41, _, _, _, _, _⟩) rfl (fun K hK => ?_) AllReadyH.nil)
  focus (go_simp; go_must (refine (num1_any g4 g5 ad n c l big 4 2 (by omega) (by omega) _ (by exact HG4.out) (by exact HG5.out) (HS.out.below (HB.out.trans (Below.mono bup HB.out.size)))).mono ?_); intro e w8 hr; rw [← HV4.out] at hr; obtain ⟨rfl, hb__⟩ := hr; have hE__ := cU HB bup hb__; replace HB := ck HB hE__; replace HG3 := ck HG3 hE__; replace HG4 := ck HG4 hE__; replace HG5 := ck HG5 hE__; replace HG6 := ck HG6 hE__; clear hE__; clear hb__; go_wp2_with fail)
  refine hK.out _ _ ?_ (fun hHeld => ?_)
  focus (exact HG3.out)
  clear hK K
  try simp only [PT]
  refine' tk 4 (oi := ⟨some 42, _, _, _, _, _⟩) (v := (.bool true)) rfl (by kernel_rfl) (.inl ⟨by rfl, ?_⟩) hHeld ?_; focus (intro w hSw; (try dsimp only at hSw); go_simp; first | done | rfl | (simp [*]; done) | (simp [*]; omega))
  simp only [PT]
  refine wpAnyH_ready (rs := [5]) (by kernel_rfl) (by simp) ?_
  refine (AllReadyH.cons (o := ⟨none, _, _, _, _, _⟩) rfl (fun K hK => ?_) AllReadyH.nil)
  (go_must (refine step_storeR rfl 27 (.tmp 6) (.tmp 38) rfl g6 #[.int .i64 1, .bool big, .int .u32 0, .int .i64 0, .int .u32 0, .int .i64 0, .int .u64 0, .int .u32 0, .slice none 0 0, .slice none 0 0, .slice none 0 0] rfl rfl HG6.out HBI.out rfl (all1 _ rfl) ?_); intro w9 hs__ hr__; replace HB := cg HB bup hr__ (by omega); replace HG3 := cg HG3 bup hr__ (by omega); replace HG4 := cg HG4 bup hr__ (by omega); replace HG5 := cg HG5 bup hr__ (by omega); clear HG6; have HG6 := Lib.hid hs__; clear hs__ hr__)
  refine hK.out _ _ ?_ (fun hHeld => ?_)
  focus (exact HG3.out)
  clear hK K
  try simp only [PT]
  refine tk 6 (oi := ⟨some 7, _, _, _, _, _⟩) (v := ?_) rfl (by kernel_rfl) (.inl ⟨by rfl, ?_⟩) hHeld ?_; rotate_left; focus (intro w hSw; (try dsimp only at hSw); go_simp; try with_reducible rfl)
  simp only [PT]
  refine tk 7 (oi := ⟨some 8, _, _, _, _, _⟩) (v := ?_) rfl (by kernel_rfl) (.inl ⟨by rfl, ?_⟩) hHeld ?_; rotate_left; focus (intro w hSw; (try dsimp only at hSw); go_simp; try with_reducible rfl)
  simp only [PT]
  refine wpAnyH_done (by kernel_rfl) ?_ _
  all_goals
    go_wp2_with fail
    (try simp only [Exit.inBlock, Exit.then, Exit.noGoto_ret])
    refine bodyPost_cell1x (cs := [.int .i64 1, .bool big, .int .u32 0, .int .i64 0, .int .u32 0, .int .i64 0, .int .u64 0, .int .u32 0, .slice none 0 0, .slice none 0 0, .slice none 0 0]) rfl rfl (range_block HG6.out) Try.underlying27 rfl HBI.out rfl ?_
    refine ⟨⟨1, big, 0, 0, 0, 0, 0, 0, none, 0, 0, [], none, 0, 0, [], none, 0, 0, []⟩, ad28, (n - 16), (c - 16), true, rfl, by rw [HO.out]; rfl, fun x r h => ?_, HB.out⟩
    have hh := HO.out.symm.trans h
    simp only [Option.some.injEq, Prod.mk.injEq] at hh
    obtain ⟨rfl, rfl⟩ := hh
    refine ⟨rfl, HRG.out, own_nil _ _ _ _, OwnOps.nil _ _ _, OwnOps.nil _ _ _⟩

set_option maxRecDepth 100000 in
set_option maxHeartbeats 8000000 in
theorem open1_not (ad : Option Addr) (n c : Nat) (l : List UInt8) (big : Bool) (w : World) (hs : Bs w ad n c l) (hn : n ≤ 1048576) (h : 16 ≤ n) (h1 : ¬ w2 big l 4 = 1) :
    Calls Try.prog 59 #[.agg #[.int .i64 1, .bool false, .int .u32 0, .int .i64 0, .int .u32 0, .int .i64 0, .int .u64 0, .int .u32 0, .slice none 0 0, .slice none 0 0, .slice none 0 0], .slice ad n c, .bool big] w (OpenR ad n c l (openP 1 0 l big) w) := by
  have HB := Lib.hid (Below.refl w.heap.size w)
  have HS := Lib.hid hs
  have HBI := Lib.hid blk_info
  have hc := hs.le
  have HN := Lib.hid hs.len
  clear hs
  have hi : ¬ (n : Int) < 16 := by omega
  obtain ⟨V4, hV4⟩ : ∃ x, x = getN ((l.drop 4).take 2) big := ⟨_, rfl⟩
  have bV4 : V4 < 65536 := by rw [hV4]; exact w2_lt big l 4
  have HV4 := Lib.hid hV4
  clear hV4
  have hv : ¬ V4 = 1 := by rw [HV4.out]; exact h1
  have hvi : ¬ (V4 : Int) = 1 := by omega
  have HO : Hid (openP 1 0 l big = none) := Lib.hid (by have := HN.out; unfold openP; rw [if_pos rfl, if_neg (by omega), if_neg h1])
  clear HN hv h1
  go_enter Try.func59, Try.ntmps59
  go_wp2_with (first
    | ((with_reducible refine sl 3 ?_); go_must (refine wpL_boxG rfl 27 (.tmp 0) rfl #[.int .i64 1, .bool false, .int .u32 0, .int .i64 0, .int .u32 0, .int .i64 0, .int .u64 0, .int .u32 0, .slice none 0 0, .slice none 0 0, .slice none 0 0] rfl ?_); intro w1 g3 he__ le_g3 lt_g3 hg__ hb__; have HG3 := Lib.hid hg__; have hE__ := cU HB bup hb__; replace HB := ck HB hE__; clear hE__; clear hg__ hb__ he__; simp only [PT])
    | ((with_reducible refine sl 4 ?_); go_must (refine wpL_boxG rfl 24 (.tmp 1) rfl #[.slice ad n c] rfl ?_); intro w2 g4 he__ le_g4 lt_g4 hg__ hb__; have HG4 := Lib.hid hg__; have hE__ := cU HB bup hb__; replace HB := ck HB hE__; replace HG3 := ck HG3 hE__; clear hE__; clear hg__ hb__ he__; simp only [PT])
    | ((with_reducible refine sl 5 ?_); go_must (refine wpL_boxG rfl 4 (.tmp 2) rfl #[.bool big] rfl ?_); intro w3 g5 he__ le_g5 lt_g5 hg__ hb__; have HG5 := Lib.hid hg__; have hE__ := cU HB bup hb__; replace HB := ck HB hE__; replace HG3 := ck HG3 hE__; replace HG4 := ck HG4 hE__; clear hE__; clear hg__ hb__ he__; simp only [PT])
    | ((with_reducible refine sl 6 ?_); go_must (refine wpL_allocG rfl 27 rfl (.agg #[.int .i64 0, .bool false, .int .u32 0, .int .i64 0, .int .u32 0, .int .i64 0, .int .u64 0, .int .u32 0, .slice none 0 0, .slice none 0 0, .slice none 0 0]) #[.int .i64 0, .bool false, .int .u32 0, .int .i64 0, .int .u32 0, .int .i64 0, .int .u64 0, .int .u32 0, .slice none 0 0, .slice none 0 0, .slice none 0 0] 11 (by kernel_rfl) rfl ?_); intro w4 g6 he__ le_g6 lt_g6 hg__ hb__; have HG6 := Lib.hid hg__; have hE__ := cU HB bup hb__; replace HB := ck HB hE__; replace HG3 := ck HG3 hE__; replace HG4 := ck HG4 hE__; replace HG5 := ck HG5 hE__; clear hE__; clear hg__ hb__ he__; simp only [PT])
    | ((with_reducible refine sl 19 ?_); go_must (refine wpL_index rfl (.tmp 16) (.tmp 18) rfl _ _ rfl rfl (.int .i64 16) need_at1 ?_); simp only [PT])
    | ((with_reducible refine sl 18 ?_); go_must (refine wpL_loadF rfl 3 (.tmp 17) rfl g3 0 rfl (.int .i64 1) HG3.out rfl Try.underlying3 rfl ?_); simp only [PT])
    | ((with_reducible refine sl 20 ?_); go_must (refine wpL_loadF rfl 24 (.tmp 4) rfl g4 0 rfl (.slice ad n c) HG4.out rfl Try.underlying24 rfl ?_); simp only [PT])
    | ((with_reducible refine sl 30 ?_); go_must (refine wpL_loadF rfl 3 (.tmp 29) rfl g3 0 rfl (.int .i64 1) HG3.out rfl Try.underlying3 rfl ?_); simp only [PT])
    | ((with_reducible refine sl 26 ?_); go_must (refine wpL_loadF rfl 24 (.tmp 4) rfl g4 0 rfl (.slice ad n c) HG4.out rfl Try.underlying24 rfl ?_); simp only [PT])
    | ((with_reducible refine sl 28 ?_); go_must (refine wpL_slice elB rfl (.tmp 26) (some (.tmp 27)) none rfl rfl 16 n (.inr ⟨.i64, rfl⟩) (.inl ⟨rfl, rfl⟩) (by omega) (by omega) ?_); intro ad28 had28; have HRG := Lib.hid (show ∀ w0, Bs w0 ad n c l → Bs w0 ad28 (n - 16) (c - 16) (l.drop 16) from fun w0 h0 => by rw [had28.out]; exact Bs.drop8 h0 16 (by omega)); clear had28; simp only [PT])
    | ((with_reducible refine sl 36 ?_); go_must (refine wpL_loadF rfl 4 (.tmp 5) rfl g5 0 rfl (.bool big) HG5.out rfl Try.underlying4 rfl ?_); simp only [PT])
    | ((with_reducible show wpList _ _ _ (⟨none, .store _ (.tmp 37) (.tmp 36), _, _, _, _⟩ :: _) _ _); go_must (refine wpL_storeF rfl 4 (.tmp 37) (.tmp 36) rfl g3 1 (.bool big) rfl rfl rfl HG3.out (by simp) (by kernel_rfl) #[.int .i64 1, .bool big, .int .u32 0, .int .i64 0, .int .u32 0, .int .i64 0, .int .u64 0, .int .u32 0, .slice none 0 0, .slice none 0 0, .slice none 0 0] rfl ?_); intro w7 hs__ hr__; replace HB := cg HB bup hr__ (by omega); replace HG4 := cg HG4 bup hr__ (by omega); replace HG5 := cg HG5 bup hr__ (by omega); replace HG6 := cg HG6 bup hr__ (by omega); clear HG3; have HG3 := Lib.hid hs__; clear hs__ hr__; simp only [PT]))
  refine wp_region_held_drew (S := fun u => u.heap[g3]? = some (.cells #[.int .i64 1, .bool big, .int .u32 0, .int .i64 0, .int .u32 0, .int .i64 0, .int .u64 0, .int .u32 0, .slice none 0 0, .slice none 0 0, .slice none 0 0] 27 (0, 0))) (by kernel_rfl) ?_ (fun hHeld => ?_)
  focus (exact HG3.out)
  refine' tk 0 (oi := ⟨some 38, _, _, _, _, _⟩) (v := _) rfl (by kernel_rfl) (yieldsIf_load_mid (by rfl) _ _ rfl _ _ rfl ([.int .i64 1, .bool big, .int .u32 0, .int .i64 0, .int .u32 0, .int .i64 0, .int .u64 0, .int .u32 0, .slice none 0 0, .slice none 0 0, .slice none 0 0]) _ (fun u hu => range_block hu) (Try.underlying27) rfl (HBI.out)) hHeld ?_
  simp only [PT]
  refine tk 1 (oi := ⟨some 39, _, _, _, _, _⟩) (v := ?_) rfl (by kernel_rfl) (.inl ⟨by rfl, ?_⟩) hHeld ?_; rotate_left; focus (intro w hSw; (try dsimp only at hSw); go_simp; try with_reducible rfl)
  simp only [PT]
  refine tk 2 (oi := ⟨some 40, _, _, _, _, _⟩) (v := ?_) rfl (by kernel_rfl) (.inl ⟨by rfl, ?_⟩) hHeld ?_; rotate_left; focus (intro w hSw; (try dsimp only at hSw); go_simp; try with_reducible rfl)
  simp only [PT]
  refine wpAnyH_ready (rs := [3]) (by kernel_rfl) (by simp) ?_
  refine (AllReadyH.cons (o := ⟨some 41, _, _, _, _, _⟩) rfl (fun K hK => ?_) AllReadyH.nil)
  focus (go_simp; go_must (refine (num1_any g4 g5 ad n c l big 4 2 (by omega) (by omega) _ (by exact HG4.out) (by exact HG5.out) (HS.out.below (HB.out.trans (Below.mono bup HB.out.size)))).mono ?_); intro e w8 hr; rw [← HV4.out] at hr; obtain ⟨rfl, hb__⟩ := hr; have hE__ := cU HB bup hb__; replace HB := ck HB hE__; replace HG3 := ck HG3 hE__; replace HG4 := ck HG4 hE__; replace HG5 := ck HG5 hE__; replace HG6 := ck HG6 hE__; clear hE__; clear hb__; go_wp2_with fail)
  refine hK.out _ _ ?_ (fun hHeld => ?_)
  focus (exact HG3.out)
  clear hK K
  try simp only [PT]
  refine' tk 4 (oi := ⟨some 42, _, _, _, _, _⟩) (v := (.bool false)) rfl (by kernel_rfl) (.inl ⟨by rfl, ?_⟩) hHeld ?_; focus (intro w hSw; (try dsimp only at hSw); go_simp; first | done | rfl | (simp [*]; done) | (simp [*]; omega))
  simp only [PT]
  refine wpAnyH_ready (rs := [5]) (by kernel_rfl) (by simp) ?_
  refine (AllReadyH.cons (o := ⟨none, _, _, _, _, _⟩) rfl (fun K hK => ?_) AllReadyH.nil)
  (go_must (refine step_storeR rfl 27 (.tmp 6) (.tmp 38) rfl g6 #[.int .i64 1, .bool big, .int .u32 0, .int .i64 0, .int .u32 0, .int .i64 0, .int .u64 0, .int .u32 0, .slice none 0 0, .slice none 0 0, .slice none 0 0] rfl rfl HG6.out HBI.out rfl (all1 _ rfl) ?_); intro w9 hs__ hr__; replace HB := cg HB bup hr__ (by omega); replace HG3 := cg HG3 bup hr__ (by omega); replace HG4 := cg HG4 bup hr__ (by omega); replace HG5 := cg HG5 bup hr__ (by omega); clear HG6; have HG6 := Lib.hid hs__; clear hs__ hr__)
  refine hK.out _ _ ?_ (fun hHeld => ?_)
  focus (exact HG3.out)
  clear hK K
  try simp only [PT]
  refine tk 6 (oi := ⟨some 7, _, _, _, _, _⟩) (v := ?_) rfl (by kernel_rfl) (.inl ⟨by rfl, ?_⟩) hHeld ?_; rotate_left; focus (intro w hSw; (try dsimp only at hSw); go_simp; try with_reducible rfl)
  simp only [PT]
  refine tk 7 (oi := ⟨some 8, _, _, _, _, _⟩) (v := ?_) rfl (by kernel_rfl) (.inl ⟨by rfl, ?_⟩) hHeld ?_; rotate_left; focus (intro w hSw; (try dsimp only at hSw); go_simp; try with_reducible rfl)
  simp only [PT]
  refine wpAnyH_done (by kernel_rfl) ?_ _
  all_goals
    go_wp2_with fail
    (try simp only [Exit.inBlock, Exit.then, Exit.noGoto_ret])
    refine bodyPost_cell1x (cs := [.int .i64 1, .bool big, .int .u32 0, .int .i64 0, .int .u32 0, .int .i64 0, .int .u64 0, .int .u32 0, .slice none 0 0, .slice none 0 0, .slice none 0 0]) rfl rfl (range_block HG6.out) Try.underlying27 rfl HBI.out rfl ?_
    exact ⟨⟨1, big, 0, 0, 0, 0, 0, 0, none, 0, 0, [], none, 0, 0, [], none, 0, 0, []⟩, ad28, _, _, false, rfl, by rw [HO.out]; rfl, fun x r h => absurd (HO.out.symm.trans h) (by simp), HB.out⟩
end Go.Proofs.Ytmfplinbbcoahaa
/-
  Two numbers of four bytes are one of eight.
-/
namespace Go.Proofs.Ytmfplinbbcoahaa
open Go.RowKit Go.Sort

theorem or_wordI (a b : Int) (ha : 0 ≤ a) (ha2 : a ≤ 4294967295) (hb : 0 ≤ b) (hb2 : b ≤ 4294967295) : bits BinOp.or .u64 (a * 4294967296) b = a * 4294967296 + b := by
  obtain ⟨x, rfl⟩ : ∃ x : Nat, a = x := ⟨a.toNat, by omega⟩
  obtain ⟨y, rfl⟩ : ∃ y : Nat, b = y := ⟨b.toNat, by omega⟩
  show IntKind.u64.wrap ((BitVec.ofInt 64 ((x : Int) * 4294967296) ||| BitVec.ofInt 64 (y : Int)).toNat : Int) = _
  rw [BitVec.toNat_or]
  have e1 : (BitVec.ofInt 64 ((x : Int) * 4294967296)).toNat = x * 4294967296 := by rw [BitVec.toNat_ofInt]; show (((x : Int) * 4294967296) % 18446744073709551616).toNat = _; omega
  have e2 : (BitVec.ofInt 64 (y : Int)).toNat = y := by rw [BitVec.toNat_ofInt]; show ((y : Int) % 18446744073709551616).toNat = _; omega
  rw [e1, e2]
  have : x * 4294967296 ||| y = x * 4294967296 + y := by
    have := Nat.two_pow_add_eq_or_of_lt (i := 32) (b := y) (by omega) x
    rw [Nat.mul_comm x 4294967296]
    exact this.symm
  rw [this, IntKind.wrap_u64]
  omega

theorem or_word2 (a b : Nat) (ha : a < 4294967296) (hb : b < 4294967296) : bits BinOp.or .u64 ((a : Int) * 4294967296) (b : Int) = ((a * 4294967296 + b : Nat) : Int) := by
  rw [or_wordI _ _ (by omega) (by omega) (by omega) (by omega)]
  omega
end Go.Proofs.Ytmfplinbbcoahaa
/-
  Chapter 26: a block's body read, kind by kind, walked (by genopen.py).
-/
namespace Go.Proofs.Ytmfplinbbcoahaa
open Go.RowKit Go.Sort
set_option linter.unusedVariables false
set_option linter.unusedSimpArgs false

set_option maxRecDepth 100000 in
set_option maxHeartbeats 8000000 in
theorem open6_short (ad : Option Addr) (n c : Nat) (l : List UInt8) (big : Bool) (w : World) (hs : Bs w ad n c l) (hn : n ≤ 1048576) (h : n < 12) :
    Calls Try.prog 59 #[.agg #[.int .i64 6, .bool false, .int .u32 0, .int .i64 0, .int .u32 0, .int .i64 0, .int .u64 0, .int .u32 0, .slice none 0 0, .slice none 0 0, .slice none 0 0], .slice ad n c, .bool big] w (OpenR ad n c l (openP 6 0 l big) w) := by
  have HB := Lib.hid (Below.refl w.heap.size w)
  have HS := Lib.hid hs
  have HBI := Lib.hid blk_info
  have hc := hs.le
  have HN := Lib.hid hs.len
  clear hs
  have hi : (n : Int) < 12 := by omega
  have HO := Lib.hid (show openP 6 0 l big = none from by have := HN.out; unfold openP; simp [show l.length < 12 by omega])
  clear h
  go_enter Try.func59, Try.ntmps59
  go_wp2_with (first
    | ((with_reducible refine sl 3 ?_); go_must (refine wpL_boxG rfl 27 (.tmp 0) rfl #[.int .i64 6, .bool false, .int .u32 0, .int .i64 0, .int .u32 0, .int .i64 0, .int .u64 0, .int .u32 0, .slice none 0 0, .slice none 0 0, .slice none 0 0] rfl ?_); intro w1 g3 he__ le_g3 lt_g3 hg__ hb__; have HG3 := Lib.hid hg__; have hE__ := cU HB bup hb__; replace HB := ck HB hE__; clear hE__; clear hg__ hb__ he__; simp only [PT])
    | ((with_reducible refine sl 4 ?_); go_must (refine wpL_boxG rfl 24 (.tmp 1) rfl #[.slice ad n c] rfl ?_); intro w2 g4 he__ le_g4 lt_g4 hg__ hb__; have HG4 := Lib.hid hg__; have hE__ := cU HB bup hb__; replace HB := ck HB hE__; replace HG3 := ck HG3 hE__; clear hE__; clear hg__ hb__ he__; simp only [PT])
    | ((with_reducible refine sl 5 ?_); go_must (refine wpL_boxG rfl 4 (.tmp 2) rfl #[.bool big] rfl ?_); intro w3 g5 he__ le_g5 lt_g5 hg__ hb__; have HG5 := Lib.hid hg__; have hE__ := cU HB bup hb__; replace HB := ck HB hE__; replace HG3 := ck HG3 hE__; replace HG4 := ck HG4 hE__; clear hE__; clear hg__ hb__ he__; simp only [PT])
    | ((with_reducible refine sl 6 ?_); go_must (refine wpL_allocG rfl 27 rfl (.agg #[.int .i64 0, .bool false, .int .u32 0, .int .i64 0, .int .u32 0, .int .i64 0, .int .u64 0, .int .u32 0, .slice none 0 0, .slice none 0 0, .slice none 0 0]) #[.int .i64 0, .bool false, .int .u32 0, .int .i64 0, .int .u32 0, .int .i64 0, .int .u64 0, .int .u32 0, .slice none 0 0, .slice none 0 0, .slice none 0 0] 11 (by kernel_rfl) rfl ?_); intro w4 g6 he__ le_g6 lt_g6 hg__ hb__; have HG6 := Lib.hid hg__; have hE__ := cU HB bup hb__; replace HB := ck HB hE__; replace HG3 := ck HG3 hE__; replace HG4 := ck HG4 hE__; replace HG5 := ck HG5 hE__; clear hE__; clear hg__ hb__ he__; simp only [PT])
    | ((with_reducible refine sl 19 ?_); go_must (refine wpL_index rfl (.tmp 16) (.tmp 18) rfl _ _ rfl rfl (.int .i64 12) need_at6 ?_); simp only [PT])
    | ((with_reducible refine sl 18 ?_); go_must (refine wpL_loadF rfl 3 (.tmp 17) rfl g3 0 rfl (.int .i64 6) HG3.out rfl Try.underlying3 rfl ?_); simp only [PT])
    | ((with_reducible refine sl 20 ?_); go_must (refine wpL_loadF rfl 24 (.tmp 4) rfl g4 0 rfl (.slice ad n c) HG4.out rfl Try.underlying24 rfl ?_); simp only [PT])
    | ((with_reducible refine sl 30 ?_); go_must (refine wpL_loadF rfl 3 (.tmp 29) rfl g3 0 rfl (.int .i64 6) HG3.out rfl Try.underlying3 rfl ?_); simp only [PT])
    | ((with_reducible refine sl 26 ?_); go_must (refine wpL_loadF rfl 24 (.tmp 4) rfl g4 0 rfl (.slice ad n c) HG4.out rfl Try.underlying24 rfl ?_); simp only [PT])
    | ((with_reducible refine sl 24 ?_); go_must (refine wpL_load rfl 27 (.tmp 3) rfl g3 0 rfl [.int .i64 6, .bool false, .int .u32 0, .int .i64 0, .int .u32 0, .int .i64 0, .int .u64 0, .int .u32 0, .slice none 0 0, .slice none 0 0, .slice none 0 0] _ (range_block HG3.out) Try.underlying27 rfl HBI.out ?_); simp only [PT])
    | ((with_reducible show wpList _ _ _ (⟨none, .store _ (.tmp 6) (.tmp 24), _, _, _, _⟩ :: _) _ _); go_must (refine wpL_storeRow rfl 27 (.tmp 6) (.tmp 24) rfl g6 #[.int .i64 6, .bool false, .int .u32 0, .int .i64 0, .int .u32 0, .int .i64 0, .int .u64 0, .int .u32 0, .slice none 0 0, .slice none 0 0, .slice none 0 0] rfl rfl HG6.out HBI.out rfl (all1 _ rfl) ?_); intro w9 hs__ hr__; replace HB := cg HB bup hr__ (by omega); replace HG3 := cg HG3 bup hr__ (by omega); clear HG6; have HG6 := Lib.hid hs__; clear hs__ hr__; simp only [PT]))
  all_goals
    (try simp only [Exit.inBlock, Exit.then, Exit.noGoto_ret])
    refine bodyPost_cell1x (cs := [.int .i64 6, .bool false, .int .u32 0, .int .i64 0, .int .u32 0, .int .i64 0, .int .u64 0, .int .u32 0, .slice none 0 0, .slice none 0 0, .slice none 0 0]) rfl rfl (range_block HG6.out) Try.underlying27 rfl HBI.out rfl ?_
    exact ⟨⟨6, false, 0, 0, 0, 0, 0, 0, none, 0, 0, [], none, 0, 0, [], none, 0, 0, []⟩, none, 0, 0, false, rfl, by rw [HO.out]; rfl, fun x r h => absurd (HO.out.symm.trans h) (by simp), HB.out⟩

set_option maxRecDepth 100000 in
set_option maxHeartbeats 8000000 in
theorem open6_ok (ad : Option Addr) (n c : Nat) (l : List UInt8) (big : Bool) (w : World) (hs : Bs w ad n c l) (hn : n ≤ 1048576) (h : 12 ≤ n) :
    Calls Try.prog 59 #[.agg #[.int .i64 6, .bool false, .int .u32 0, .int .i64 0, .int .u32 0, .int .i64 0, .int .u64 0, .int .u32 0, .slice none 0 0, .slice none 0 0, .slice none 0 0], .slice ad n c, .bool big] w (OpenR ad n c l (openP 6 0 l big) w) := by
  have HB := Lib.hid (Below.refl w.heap.size w)
  have HS := Lib.hid hs
  have HBI := Lib.hid blk_info
  have hc := hs.le
  have HN := Lib.hid hs.len
  clear hs
  have hi : ¬ (n : Int) < 12 := by omega
  obtain ⟨V0, hV0⟩ : ∃ x, x = getN ((l.drop 0).take 4) big := ⟨_, rfl⟩
  have bV0 : V0 < 4294967296 := by rw [hV0]; exact w4_lt big l 0
  have HV0 := Lib.hid hV0
  clear hV0
  obtain ⟨V4, hV4⟩ : ∃ x, x = getN ((l.drop 4).take 4) big := ⟨_, rfl⟩
  have bV4 : V4 < 4294967296 := by rw [hV4]; exact w4_lt big l 4
  have HV4 := Lib.hid hV4
  clear hV4
  obtain ⟨V8, hV8⟩ : ∃ x, x = getN ((l.drop 8).take 4) big := ⟨_, rfl⟩
  have bV8 : V8 < 4294967296 := by rw [hV8]; exact w4_lt big l 8
  have HV8 := Lib.hid hV8
  clear hV8
  have e0 : IntKind.i64.wrap (V0 : Int) = (V0 : Int) := by rw [IntKind.wrap_i64]; omega
  obtain ⟨T, hT⟩ : ∃ T, T = V4 * 4294967296 + V8 := ⟨_, rfl⟩
  have hT2 : T < 18446744073709551616 := by omega
  have hor := or_word2 V4 V8 bV4 bV8
  rw [← hT] at hor
  have HT := Lib.hid hT
  clear hT
  have HO : Hid (openP 6 0 l big = some ({ noneB with kind := 6, iface := (V0 : Int), time := T }, l.drop 12)) := Lib.hid (by rw [HT.out, HV0.out, HV4.out, HV8.out]; have := HN.out; unfold openP; simp [show ¬ l.length < 12 by omega, w4])
  clear HN
  go_enter Try.func59, Try.ntmps59
  go_wp2_with (first
    | ((with_reducible refine sl 3 ?_); go_must (refine wpL_boxG rfl 27 (.tmp 0) rfl #[.int .i64 6, .bool false, .int .u32 0, .int .i64 0, .int .u32 0, .int .i64 0, .int .u64 0, .int .u32 0, .slice none 0 0, .slice none 0 0, .slice none 0 0] rfl ?_); intro w1 g3 he__ le_g3 lt_g3 hg__ hb__; have HG3 := Lib.hid hg__; have hE__ := cU HB bup hb__; replace HB := ck HB hE__; clear hE__; clear hg__ hb__ he__; simp only [PT])
    | ((with_reducible refine sl 4 ?_); go_must (refine wpL_boxG rfl 24 (.tmp 1) rfl #[.slice ad n c] rfl ?_); intro w2 g4 he__ le_g4 lt_g4 hg__ hb__; have HG4 := Lib.hid hg__; have hE__ := cU HB bup hb__; replace HB := ck HB hE__; replace HG3 := ck HG3 hE__; clear hE__; clear hg__ hb__ he__; simp only [PT])
    | ((with_reducible refine sl 5 ?_); go_must (refine wpL_boxG rfl 4 (.tmp 2) rfl #[.bool big] rfl ?_); intro w3 g5 he__ le_g5 lt_g5 hg__ hb__; have HG5 := Lib.hid hg__; have hE__ := cU HB bup hb__; replace HB := ck HB hE__; replace HG3 := ck HG3 hE__; replace HG4 := ck HG4 hE__; clear hE__; clear hg__ hb__ he__; simp only [PT])
    | ((with_reducible refine sl 6 ?_); go_must (refine wpL_allocG rfl 27 rfl (.agg #[.int .i64 0, .bool false, .int .u32 0, .int .i64 0, .int .u32 0, .int .i64 0, .int .u64 0, .int .u32 0, .slice none 0 0, .slice none 0 0, .slice none 0 0]) #[.int .i64 0, .bool false, .int .u32 0, .int .i64 0, .int .u32 0, .int .i64 0, .int .u64 0, .int .u32 0, .slice none 0 0, .slice none 0 0, .slice none 0 0] 11 (by kernel_rfl) rfl ?_); intro w4 g6 he__ le_g6 lt_g6 hg__ hb__; have HG6 := Lib.hid hg__; have hE__ := cU HB bup hb__; replace HB := ck HB hE__; replace HG3 := ck HG3 hE__; replace HG4 := ck HG4 hE__; replace HG5 := ck HG5 hE__; clear hE__; clear hg__ hb__ he__; simp only [PT])
    | ((with_reducible refine sl 19 ?_); go_must (refine wpL_index rfl (.tmp 16) (.tmp 18) rfl _ _ rfl rfl (.int .i64 12) need_at6 ?_); simp only [PT])
    | ((with_reducible refine sl 18 ?_); go_must (refine wpL_loadF rfl 3 (.tmp 17) rfl g3 0 rfl (.int .i64 6) HG3.out rfl Try.underlying3 rfl ?_); simp only [PT])
    | ((with_reducible refine sl 20 ?_); go_must (refine wpL_loadF rfl 24 (.tmp 4) rfl g4 0 rfl (.slice ad n c) HG4.out rfl Try.underlying24 rfl ?_); simp only [PT])
    | ((with_reducible refine sl 30 ?_); go_must (refine wpL_loadF rfl 3 (.tmp 29) rfl g3 0 rfl (.int .i64 6) HG3.out rfl Try.underlying3 rfl ?_); simp only [PT])
    | ((with_reducible refine sl 26 ?_); go_must (refine wpL_loadF rfl 24 (.tmp 4) rfl g4 0 rfl (.slice ad n c) HG4.out rfl Try.underlying24 rfl ?_); simp only [PT])
    | ((with_reducible refine sl 28 ?_); go_must (refine wpL_slice elB rfl (.tmp 26) (some (.tmp 27)) none rfl rfl 12 n (.inr ⟨.i64, rfl⟩) (.inl ⟨rfl, rfl⟩) (by omega) (by omega) ?_); intro ad28 had28; have HRG := Lib.hid (show ∀ w0, Bs w0 ad n c l → Bs w0 ad28 (n - 12) (c - 12) (l.drop 12) from fun w0 h0 => by rw [had28.out]; exact Bs.drop8 h0 12 (by omega)); clear had28; simp only [PT])
    | (go_at_call 82; (with_reducible show Calls _ _ #[Value.int .i64 0, Value.int .i64 4, _, _] _ _); go_must (refine (num1_any g4 g5 ad n c l big 0 4 (by omega) (by omega) _ (by exact HG4.out) (by exact HG5.out) (HS.out.below (HB.out.trans (Below.mono bup HB.out.size)))).mono ?_); intro e w5 hr; rw [← HV0.out] at hr; obtain ⟨rfl, hb__⟩ := hr; have hE__ := cU HB bup hb__; replace HB := ck HB hE__; replace HG3 := ck HG3 hE__; replace HG4 := ck HG4 hE__; replace HG5 := ck HG5 hE__; replace HG6 := ck HG6 hE__; clear hE__; clear hb__)
    | (go_at_call 82; (with_reducible show Calls _ _ #[Value.int .i64 4, Value.int .i64 4, _, _] _ _); go_must (refine (num1_any g4 g5 ad n c l big 4 4 (by omega) (by omega) _ (by exact HG4.out) (by exact HG5.out) (HS.out.below (HB.out.trans (Below.mono bup HB.out.size)))).mono ?_); intro e w6 hr; rw [← HV4.out] at hr; obtain ⟨rfl, hb__⟩ := hr; have hE__ := cU HB bup hb__; replace HB := ck HB hE__; replace HG3 := ck HG3 hE__; replace HG4 := ck HG4 hE__; replace HG5 := ck HG5 hE__; replace HG6 := ck HG6 hE__; clear hE__; clear hb__)
    | (go_at_call 82; (with_reducible show Calls _ _ #[Value.int .i64 8, Value.int .i64 4, _, _] _ _); go_must (refine (num1_any g4 g5 ad n c l big 8 4 (by omega) (by omega) _ (by exact HG4.out) (by exact HG5.out) (HS.out.below (HB.out.trans (Below.mono bup HB.out.size)))).mono ?_); intro e w7 hr; rw [← HV8.out] at hr; obtain ⟨rfl, hb__⟩ := hr; have hE__ := cU HB bup hb__; replace HB := ck HB hE__; replace HG3 := ck HG3 hE__; replace HG4 := ck HG4 hE__; replace HG5 := ck HG5 hE__; replace HG6 := ck HG6 hE__; clear hE__; clear hb__)
    | ((with_reducible show wpList _ _ _ (⟨none, .store _ (.tmp 144) (.tmp 137), _, _, _, _⟩ :: _) _ _); go_must (refine wpL_storeF rfl 3 (.tmp 144) (.tmp 137) rfl g3 5 (.int .i64 (V0 : Int)) rfl rfl rfl HG3.out (by simp) (by kernel_rfl) #[.int .i64 6, .bool false, .int .u32 0, .int .i64 0, .int .u32 0, .int .i64 (V0 : Int), .int .u64 0, .int .u32 0, .slice none 0 0, .slice none 0 0, .slice none 0 0] rfl ?_); intro w8 hs__ hr__; replace HB := cg HB bup hr__ (by omega); replace HG4 := cg HG4 bup hr__ (by omega); replace HG5 := cg HG5 bup hr__ (by omega); replace HG6 := cg HG6 bup hr__ (by omega); clear HG3; have HG3 := Lib.hid hs__; clear hs__ hr__; simp only [PT])
    | ((with_reducible show wpList _ _ _ (⟨none, .store _ (.tmp 145) (.tmp 143), _, _, _, _⟩ :: _) _ _); go_must (refine wpL_storeF rfl 23 (.tmp 145) (.tmp 143) rfl g3 6 (.int .u64 ((T : Nat) : Int)) rfl rfl rfl HG3.out (by simp) (by kernel_rfl) #[.int .i64 6, .bool false, .int .u32 0, .int .i64 0, .int .u32 0, .int .i64 (V0 : Int), .int .u64 ((T : Nat) : Int), .int .u32 0, .slice none 0 0, .slice none 0 0, .slice none 0 0] rfl ?_); intro w9 hs__ hr__; replace HB := cg HB bup hr__ (by omega); replace HG4 := cg HG4 bup hr__ (by omega); replace HG5 := cg HG5 bup hr__ (by omega); replace HG6 := cg HG6 bup hr__ (by omega); clear HG3; have HG3 := Lib.hid hs__; clear hs__ hr__; simp only [PT])
    | ((with_reducible refine sl 146 ?_); go_must (refine wpL_load rfl 27 (.tmp 3) rfl g3 0 rfl [.int .i64 6, .bool false, .int .u32 0, .int .i64 0, .int .u32 0, .int .i64 (V0 : Int), .int .u64 ((T : Nat) : Int), .int .u32 0, .slice none 0 0, .slice none 0 0, .slice none 0 0] _ (range_block HG3.out) Try.underlying27 rfl HBI.out ?_); simp only [PT])
    | ((with_reducible show wpList _ _ _ (⟨none, .store _ (.tmp 6) (.tmp 146), _, _, _, _⟩ :: _) _ _); go_must (refine wpL_storeRow rfl 27 (.tmp 6) (.tmp 146) rfl g6 #[.int .i64 6, .bool false, .int .u32 0, .int .i64 0, .int .u32 0, .int .i64 (V0 : Int), .int .u64 ((T : Nat) : Int), .int .u32 0, .slice none 0 0, .slice none 0 0, .slice none 0 0] rfl rfl HG6.out HBI.out rfl (all1 _ rfl) ?_); intro w10 hs__ hr__; replace HB := cg HB bup hr__ (by omega); replace HG3 := cg HG3 bup hr__ (by omega); clear HG6; have HG6 := Lib.hid hs__; clear hs__ hr__; simp only [PT]))
  all_goals
    (try simp only [Exit.inBlock, Exit.then, Exit.noGoto_ret])
    refine bodyPost_cell1x (cs := [.int .i64 6, .bool false, .int .u32 0, .int .i64 0, .int .u32 0, .int .i64 (V0 : Int), .int .u64 ((T : Nat) : Int), .int .u32 0, .slice none 0 0, .slice none 0 0, .slice none 0 0]) rfl rfl (range_block HG6.out) Try.underlying27 rfl HBI.out rfl ?_
    refine ⟨⟨6, false, 0, 0, 0, (V0 : Int), T, 0, none, 0, 0, [], none, 0, 0, [], none, 0, 0, []⟩, ad28, (n - 12), (c - 12), true, rfl, by rw [HO.out]; rfl, fun x r h => ?_, HB.out⟩
    have hh := HO.out.symm.trans h
    simp only [Option.some.injEq, Prod.mk.injEq] at hh
    obtain ⟨rfl, rfl⟩ := hh
    refine ⟨rfl, HRG.out, own_nil _ _ _ _, OwnOps.nil _ _ _, OwnOps.nil _ _ _⟩
end Go.Proofs.Ytmfplinbbcoahaa
/-
  Chapter 26: a block's body read, kind by kind, walked (by genopen.py).
-/
namespace Go.Proofs.Ytmfplinbbcoahaa
open Go.RowKit Go.Sort
set_option linter.unusedVariables false
set_option linter.unusedSimpArgs false

set_option maxRecDepth 100000 in
set_option maxHeartbeats 8000000 in
theorem open7_ok (t : Nat) (ad : Option Addr) (n c : Nat) (l : List UInt8) (big : Bool) (w : World) (hs : Bs w ad n c l) (hn : n ≤ 1048576) :
    Calls Try.prog 59 #[.agg #[.int .i64 7, .bool false, .int .u32 (t : Int), .int .i64 0, .int .u32 0, .int .i64 0, .int .u64 0, .int .u32 0, .slice none 0 0, .slice none 0 0, .slice none 0 0], .slice ad n c, .bool big] w (OpenR ad n c l (openP 7 t l big) w) := by
  have HB := Lib.hid (Below.refl w.heap.size w)
  have HS := Lib.hid hs
  have HBI := Lib.hid blk_info
  have hc := hs.le
  have HN := Lib.hid hs.len
  clear hs
  have h : 0 ≤ n := Nat.zero_le _
  have hi : ¬ (n : Int) < 0 := by omega
  have HO : Hid (openP 7 t l big = some ({ noneB with kind := 7, type := t, data := l }, [])) := Lib.hid rfl
  clear HN
  go_enter Try.func59, Try.ntmps59
  go_wp2_with (first
    | ((with_reducible refine sl 3 ?_); go_must (refine wpL_boxG rfl 27 (.tmp 0) rfl #[.int .i64 7, .bool false, .int .u32 (t : Int), .int .i64 0, .int .u32 0, .int .i64 0, .int .u64 0, .int .u32 0, .slice none 0 0, .slice none 0 0, .slice none 0 0] rfl ?_); intro w1 g3 he__ le_g3 lt_g3 hg__ hb__; have HG3 := Lib.hid hg__; have hE__ := cU HB bup hb__; replace HB := ck HB hE__; clear hE__; clear hg__ hb__ he__; simp only [PT])
    | ((with_reducible refine sl 4 ?_); go_must (refine wpL_boxG rfl 24 (.tmp 1) rfl #[.slice ad n c] rfl ?_); intro w2 g4 he__ le_g4 lt_g4 hg__ hb__; have HG4 := Lib.hid hg__; have hE__ := cU HB bup hb__; replace HB := ck HB hE__; replace HG3 := ck HG3 hE__; clear hE__; clear hg__ hb__ he__; simp only [PT])
    | ((with_reducible refine sl 5 ?_); go_must (refine wpL_boxG rfl 4 (.tmp 2) rfl #[.bool big] rfl ?_); intro w3 g5 he__ le_g5 lt_g5 hg__ hb__; have HG5 := Lib.hid hg__; have hE__ := cU HB bup hb__; replace HB := ck HB hE__; replace HG3 := ck HG3 hE__; replace HG4 := ck HG4 hE__; clear hE__; clear hg__ hb__ he__; simp only [PT])
    | ((with_reducible refine sl 6 ?_); go_must (refine wpL_allocG rfl 27 rfl (.agg #[.int .i64 0, .bool false, .int .u32 0, .int .i64 0, .int .u32 0, .int .i64 0, .int .u64 0, .int .u32 0, .slice none 0 0, .slice none 0 0, .slice none 0 0]) #[.int .i64 0, .bool false, .int .u32 0, .int .i64 0, .int .u32 0, .int .i64 0, .int .u64 0, .int .u32 0, .slice none 0 0, .slice none 0 0, .slice none 0 0] 11 (by kernel_rfl) rfl ?_); intro w4 g6 he__ le_g6 lt_g6 hg__ hb__; have HG6 := Lib.hid hg__; have hE__ := cU HB bup hb__; replace HB := ck HB hE__; replace HG3 := ck HG3 hE__; replace HG4 := ck HG4 hE__; replace HG5 := ck HG5 hE__; clear hE__; clear hg__ hb__ he__; simp only [PT])
    | ((with_reducible refine sl 19 ?_); go_must (refine wpL_index rfl (.tmp 16) (.tmp 18) rfl _ _ rfl rfl (.int .i64 0) need_at7 ?_); simp only [PT])
    | ((with_reducible refine sl 18 ?_); go_must (refine wpL_loadF rfl 3 (.tmp 17) rfl g3 0 rfl (.int .i64 7) HG3.out rfl Try.underlying3 rfl ?_); simp only [PT])
    | ((with_reducible refine sl 20 ?_); go_must (refine wpL_loadF rfl 24 (.tmp 4) rfl g4 0 rfl (.slice ad n c) HG4.out rfl Try.underlying24 rfl ?_); simp only [PT])
    | ((with_reducible refine sl 30 ?_); go_must (refine wpL_loadF rfl 3 (.tmp 29) rfl g3 0 rfl (.int .i64 7) HG3.out rfl Try.underlying3 rfl ?_); simp only [PT])
    | ((with_reducible refine sl 26 ?_); go_must (refine wpL_loadF rfl 24 (.tmp 4) rfl g4 0 rfl (.slice ad n c) HG4.out rfl Try.underlying24 rfl ?_); simp only [PT])
    | ((with_reducible refine sl 28 ?_); go_must (refine wpL_slice elB rfl (.tmp 26) (some (.tmp 27)) none rfl rfl 0 n (.inr ⟨.i64, rfl⟩) (.inl ⟨rfl, rfl⟩) (by omega) (by omega) ?_); intro ad28 had28; have HRG := Lib.hid (show ∀ w0, Bs w0 ad n c l → Bs w0 ad28 (n - 0) (c - 0) (l.drop 0) from fun w0 h0 => by rw [had28.out]; exact Bs.drop8 h0 0 (by omega)); clear had28; simp only [PT])
    | ((with_reducible refine sl 31 ?_); go_must (refine wpL_loadF rfl 24 (.tmp 4) rfl g4 0 rfl (.slice ad n c) HG4.out rfl Try.underlying24 rfl ?_); simp only [PT])
    | (go_at_call 68; (with_reducible show Calls _ _ #[Value.slice ad n c] _ _); go_must (refine (bclone_any ad n c l _ (HS.out.below (HB.out.trans (Below.mono bup HB.out.size))) (by omega)).mono ?_); intro e w5 hr; unfold RetB at hr; obtain ⟨adD, cD, rfl, hoD, hb__⟩ := hr; have HD := Lib.hid (own_base (base' := g6 + 1) hoD (lt_of_block (by exact HG6.out))); have hE__ := cU HB bup hb__; replace HB := ck HB hE__; replace HG3 := ck HG3 hE__; replace HG4 := ck HG4 hE__; replace HG5 := ck HG5 hE__; replace HG6 := ck HG6 hE__; clear hE__; clear hb__ hoD)
    | ((with_reducible show wpList _ _ _ (⟨none, .store _ (.tmp 33) (.tmp 32), _, _, _, _⟩ :: _) _ _); go_must (refine wpL_storeF rfl 24 (.tmp 33) (.tmp 32) rfl g3 8 (.slice adD l.length cD) rfl rfl rfl HG3.out (by simp) (by kernel_rfl) #[.int .i64 7, .bool false, .int .u32 (t : Int), .int .i64 0, .int .u32 0, .int .i64 0, .int .u64 0, .int .u32 0, .slice adD l.length cD, .slice none 0 0, .slice none 0 0] rfl ?_); intro w7 hs__ hr__; replace HB := cg HB bup hr__ (by omega); replace HG4 := cg HG4 bup hr__ (by omega); replace HG5 := cg HG5 bup hr__ (by omega); replace HG6 := cg HG6 bup hr__ (by omega); replace HD := cg HD bup hr__ (by omega); clear HG3; have HG3 := Lib.hid hs__; clear hs__ hr__; simp only [PT])
    | ((with_reducible refine sl 146 ?_); go_must (refine wpL_load rfl 27 (.tmp 3) rfl g3 0 rfl [.int .i64 7, .bool false, .int .u32 (t : Int), .int .i64 0, .int .u32 0, .int .i64 0, .int .u64 0, .int .u32 0, .slice adD l.length cD, .slice none 0 0, .slice none 0 0] _ (range_block HG3.out) Try.underlying27 rfl HBI.out ?_); simp only [PT])
    | ((with_reducible show wpList _ _ _ (⟨none, .store _ (.tmp 6) (.tmp 146), _, _, _, _⟩ :: _) _ _); go_must (refine wpL_storeRow rfl 27 (.tmp 6) (.tmp 146) rfl g6 #[.int .i64 7, .bool false, .int .u32 (t : Int), .int .i64 0, .int .u32 0, .int .i64 0, .int .u64 0, .int .u32 0, .slice adD l.length cD, .slice none 0 0, .slice none 0 0] rfl rfl HG6.out HBI.out rfl (all1 _ rfl) ?_); intro w9 hs__ hr__; replace HB := cg HB bup hr__ (by omega); replace HG3 := cg HG3 bup hr__ (by omega); replace HD := cg HD bup hr__ (by omega); clear HG6; have HG6 := Lib.hid hs__; clear hs__ hr__; simp only [PT]))
  all_goals
    (try simp only [Exit.inBlock, Exit.then, Exit.noGoto_ret])
    refine bodyPost_cell1x (cs := [.int .i64 7, .bool false, .int .u32 (t : Int), .int .i64 0, .int .u32 0, .int .i64 0, .int .u64 0, .int .u32 0, .slice adD l.length cD, .slice none 0 0, .slice none 0 0]) rfl rfl (range_block HG6.out) Try.underlying27 rfl HBI.out rfl ?_
    refine ⟨⟨7, false, t, 0, 0, 0, 0, 0, adD, l.length, cD, l, none, 0, 0, [], none, 0, 0, []⟩, none, 0, 0, true, rfl, by rw [HO.out]; rfl, fun x r h => ?_, HB.out⟩
    have hh := HO.out.symm.trans h
    simp only [Option.some.injEq, Prod.mk.injEq] at hh
    obtain ⟨rfl, rfl⟩ := hh
    refine ⟨rfl, fun _ _ => Sl.nil _ 1, own_base HD.out (by omega), OwnOps.nil _ _ _, OwnOps.nil _ _ _⟩
end Go.Proofs.Ytmfplinbbcoahaa
