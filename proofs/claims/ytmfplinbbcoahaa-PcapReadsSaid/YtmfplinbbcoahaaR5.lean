/-
  Joined by program (merge.py): PcStep, PcBlks, Rng, RngIn, Blk3, FewOpt, Blk4.
-/
import Derived.Test.YtmfplinbbcoahaaR1
import Derived.Test.YtmfplinbbcoahaaR2
import Derived.Test.YtmfplinbbcoahaaR3
import Derived.Test.YtmfplinbbcoahaaR4
set_option linter.unusedVariables false
set_option linter.unusedSimpArgs false
set_option maxRecDepth 100000
set_option maxHeartbeats 16000000
namespace Go.Proofs.Ytmfplinbbcoahaa
open Go.RowKit Go.Sort
def StepR (v : StV) (x : BlkV) (w : World) (e : Ending) (w' : World) : Prop :=
  ∃ u : StV, e = .returned (.tuple #[.agg u.cells.toArray, .bool (okS v.val x.val)]) ∧ u.val = nextS v.val x.val ∧ StV.mem w' u ∧ Below w.heap.size w w'
theorem step1 (v : StV) (x : BlkV) (w : World) (hv : StV.mem w v) (hs : -1 ≤ v.sec ∧ v.sec ≤ 1000000000) (hn : v.n ≤ 1000000000) (hk : x.kind = 1) :
    Calls Try.prog 67 #[.agg v.cells.toArray, .agg x.cells.toArray] w (StepR v x w) := by
  have HB := Hd (Below.refl w.heap.size w)
  have HX := Hd hv
  have HSI := Hd z3g
  have HBI := Hd z0d
  obtain ⟨hs1, hs2⟩ := hs
  have HO : Hid (okS v.val x.val = true) := Hd (by unfold okS; rw [if_pos (show x.val.kind = 1 from hk)])
  have HNX : Hid (nextS v.val x.val = ⟨v.sec + 1, x.big, []⟩) := Hd (by unfold nextS; rw [if_pos (show x.val.kind = 1 from hk)]; rfl)
  have hw : IntKind.i64.wrap (v.sec + 1) = v.sec + 1 := by rw [IntKind.wrap_i64]; omega
  clear hv
  go_enter Try.func67, Try.ntmps67
  go_wp2_with (first
 | ((with_reducible refine sl 2 ?_); (refine z0a rfl 83 (.tmp 0) rfl v.cells.toArray rfl ?_); intro wb2 g2 he__ le_g2 lt_g2 hg__ hb__; have HG2 := Hd hg__; have hE__ := cU HB bup hb__; replace HB := ck HB hE__; clear hE__; clear hg__ hb__ he__; simp only [PT])
 | ((with_reducible refine sl 3 ?_); (refine z0a rfl 27 (.tmp 1) rfl x.cells.toArray rfl ?_); intro wb3 g3 he__ le_g3 lt_g3 hg__ hb__; have HG3 := Hd hg__; have hE__ := cU HB bup hb__; replace HB := ck HB hE__; replace HG2 := ck HG2 hE__; clear hE__; clear hg__ hb__ he__; simp only [PT])
 | ((with_reducible refine sl 4 ?_); (refine z09 rfl 83 rfl (.agg zeroSt) zeroSt 3 (by kernel_rfl) rfl ?_); intro w4 g4 he__ le_g4 lt_g4 hg__ hb__; have lt24 := lt_of_block HG2.out; have lt34 := lt_of_block HG3.out; have HG4 := Hd hg__; have hE__ := cU HB bup hb__; replace HB := ck HB hE__; replace HG2 := ck HG2 hE__; replace HG3 := ck HG3 hE__; clear hE__; clear hg__ hb__ he__; have l24 : g2 < g4 := Nat.lt_of_lt_of_le lt24 le_g4; have l34 : g3 < g4 := Nat.lt_of_lt_of_le lt34 le_g4; simp only [PT])
 | ((with_reducible refine sl 7 ?_); (refine z01 rfl 3 (.tmp 6) rfl g3 0 rfl (.int .i64 x.kind) HG3.out rfl Try.underlying3 rfl ?_); simp only [PT])
 | ((with_reducible refine sl 11 ?_); (refine z01 rfl 3 (.tmp 10) rfl g2 0 rfl (.int .i64 v.sec) HG2.out rfl Try.underlying3 rfl ?_); simp only [PT])
 | ((with_reducible refine sl 14 ?_); (refine z01 rfl 4 (.tmp 13) rfl g3 1 rfl (.bool x.big) HG3.out rfl Try.underlying4 rfl ?_); simp only [PT])
 | ((with_reducible show wpList _ _ _ (⟨none, .store _ (.tmp 4) (.tmp 15), _, _, _, _⟩ :: _) _ _); (refine z02 rfl 83 (.tmp 4) (.tmp 15) rfl g4 (⟨v.sec + 1, x.big, none, 0, 0, []⟩ : StV).cells.toArray rfl rfl HG4.out HSI.out rfl (z0v _) ?_); intro w5 hs__ hr__; replace HB := cg HB bup hr__ (by omega); replace HG2 := cg HG2 bup hr__ (by omega); replace HG3 := cg HG3 bup hr__ (by omega); clear HG4; have HG4 := Hd hs__; clear hs__ hr__; simp only [PT]))
  (try simp only [Exit.inBlock, Exit.then, Exit.noGoto_ret])
  refine z17 (cs := (⟨v.sec + 1, x.big, none, 0, 0, []⟩ : StV).cells) rfl rfl (z00 HG4.out) Try.underlying83 rfl HSI.out rfl ?_
  exact ⟨⟨v.sec + 1, x.big, none, 0, 0, []⟩, by rw [HO.out]; rfl, by rw [HNX.out]; rfl, World.ownsRow_nil _ _ _ _, HB.out⟩
theorem step3 (v : StV) (x : BlkV) (w : World) (hv : StV.mem w v) (hs : -1 ≤ v.sec ∧ v.sec ≤ 1000000000) (hn : v.n ≤ 1000000000) (hk : x.kind = 3) :
    Calls Try.prog 67 #[.agg v.cells.toArray, .agg x.cells.toArray] w (StepR v x w) := by
  have HB := Hd (Below.refl w.heap.size w)
  have HX := Hd hv
  have HSI := Hd z3g
  have HBI := Hd z0d
  obtain ⟨hs1, hs2⟩ := hs
  have h1 : ¬ x.kind = 1 := by omega
  have h2 : ¬ x.kind = 2 := by omega
  have HKD : Hid (x.kind = 3 ∨ x.kind = 6) := Hd (.inl hk)
  have HNX : Hid (nextS v.val x.val = v.val) := Hd (by unfold nextS; rw [if_neg (show ¬ x.val.kind = 1 from h1), if_neg (show ¬ x.val.kind = 2 from h2)])
  clear hv
  have hnl := (Us.len (StV.us HX.out))
  have HNL := Hd hnl
  clear hnl
  by_cases hsec : 0 ≤ v.sec
  · have HO : Hid (okS v.val x.val = decide (x.iface < (v.n : Int))) := Hd (by unfold okS; rw [if_neg (show ¬ x.val.kind = 1 from h1), if_pos (show x.val.kind = 3 ∨ x.val.kind = 6 from HKD.out)]; simp only [show decide (0 ≤ v.val.sec) = true from decide_eq_true hsec, Bool.true_and]; rw [show v.val.snaps.length = v.n from HNL.out.symm]; rfl)
    go_enter Try.func67, Try.ntmps67
    go_wp2_with (first
 | ((with_reducible refine sl 2 ?_); (refine z0a rfl 83 (.tmp 0) rfl v.cells.toArray rfl ?_); intro wb2 g2 he__ le_g2 lt_g2 hg__ hb__; have HG2 := Hd hg__; have hE__ := cU HB bup hb__; replace HB := ck HB hE__; clear hE__; clear hg__ hb__ he__; simp only [PT])
 | ((with_reducible refine sl 3 ?_); (refine z0a rfl 27 (.tmp 1) rfl x.cells.toArray rfl ?_); intro wb3 g3 he__ le_g3 lt_g3 hg__ hb__; have HG3 := Hd hg__; have hE__ := cU HB bup hb__; replace HB := ck HB hE__; replace HG2 := ck HG2 hE__; clear hE__; clear hg__ hb__ he__; simp only [PT])
 | ((with_reducible refine sl 4 ?_); (refine z09 rfl 83 rfl (.agg zeroSt) zeroSt 3 (by kernel_rfl) rfl ?_); intro w4 g4 he__ le_g4 lt_g4 hg__ hb__; have lt24 := lt_of_block HG2.out; have lt34 := lt_of_block HG3.out; have HG4 := Hd hg__; have hE__ := cU HB bup hb__; replace HB := ck HB hE__; replace HG2 := ck HG2 hE__; replace HG3 := ck HG3 hE__; clear hE__; clear hg__ hb__ he__; have l24 : g2 < g4 := Nat.lt_of_lt_of_le lt24 le_g4; have l34 : g3 < g4 := Nat.lt_of_lt_of_le lt34 le_g4; simp only [PT])
 | ((with_reducible refine sl 7 ?_); (refine z01 rfl 3 (.tmp 6) rfl g3 0 rfl (.int .i64 x.kind) HG3.out rfl Try.underlying3 rfl ?_); simp only [PT]))
    refine wp_region_held_drew (S := fun u__ => u__.heap[g2]? = some (.cells v.cells.toArray 83 (0, 0)) ∧ u__.heap[g3]? = some (.cells x.cells.toArray 27 (0, 0))) (by kernel_rfl) ?_ (fun hHeld => ?_); (focus (exact ⟨HG2.out, HG3.out⟩)); refine' tk 0 (oi := ⟨some 35, _, _, _, _, _⟩) (v := _) rfl (by kernel_rfl) (yieldsIf_load_mid (by rfl) _ _ rfl _ _ rfl (v.cells) _ (fun _ h => z00 h.1) (Try.underlying83) rfl (HSI.out)) hHeld ?_; simp only [PT]; (refine tk 1 (oi := ⟨some 36, _, _, _, _, _⟩) (v := ?_) rfl (by kernel_rfl) (.inl ⟨by rfl, ?_⟩) hHeld ?_; rotate_left; focus (intro w hSw; (try dsimp only at hSw); go_simp; try with_reducible rfl)); simp only [PT]; refine' tk 2 (oi := ⟨some 37, _, _, _, _, _⟩) (v := _) rfl (by kernel_rfl) (z0g (by rfl) 3 (.tmp 36) rfl g2 0 rfl (.int .i64 v.sec) (fun _ h => h.1) rfl Try.underlying3 rfl) hHeld ?_; simp only [PT]; (first | (refine' tk 3 (oi := ⟨some 38, _, _, _, _, _⟩) (v := (.bool false)) rfl (by kernel_rfl) (.inl ⟨by rfl, ?_⟩) hHeld ?_; focus (intro w hSw; (try dsimp only at hSw); go_simp; first | done | rfl | (simp [*]; done) | (simp [*]; omega))) | (refine' tk 3 (oi := ⟨some 38, _, _, _, _, _⟩) (v := (.bool true)) rfl (by kernel_rfl) (.inl ⟨by rfl, ?_⟩) hHeld ?_; focus (intro w hSw; (try dsimp only at hSw); go_simp; first | done | rfl | (simp [*]; done) | (simp [*]; omega)))); simp only [PT]; (refine tk 4 (oi := ⟨some 39, _, _, _, _, _⟩) (v := ?_) rfl (by kernel_rfl) (.inl ⟨by rfl, ?_⟩) hHeld ?_; rotate_left; focus (intro w hSw; (try dsimp only at hSw); go_simp; try with_reducible rfl)); simp only [PT]; (first | (refine tk 5 (oi := ⟨some 40, _, _, _, _, _⟩) (v := undef) rfl (by kernel_rfl) (.inr ⟨by rfl, rfl⟩) hHeld ?_) | (refine tk 5 (oi := ⟨some 40, _, _, _, _, _⟩) (v := ?_) rfl (by kernel_rfl) (.inl ⟨by rfl, ?_⟩) hHeld ?_; rotate_left; focus (intro w hSw; (try dsimp only at hSw); go_simp; try with_reducible rfl))); simp only [PT]; (first | (refine tk 6 (oi := ⟨some 41, _, _, _, _, _⟩) (v := undef) rfl (by kernel_rfl) (.inr ⟨by rfl, rfl⟩) hHeld ?_) | (refine' tk 6 (oi := ⟨some 41, _, _, _, _, _⟩) (v := _) rfl (by kernel_rfl) (z0g (by rfl) 3 (.tmp 40) rfl g3 5 rfl (.int .i64 x.iface) (fun _ h => h.2) rfl Try.underlying3 rfl) hHeld ?_)); simp only [PT]; (first | (refine tk 7 (oi := ⟨some 42, _, _, _, _, _⟩) (v := undef) rfl (by kernel_rfl) (.inr ⟨by rfl, rfl⟩) hHeld ?_) | (refine tk 7 (oi := ⟨some 42, _, _, _, _, _⟩) (v := ?_) rfl (by kernel_rfl) (.inl ⟨by rfl, ?_⟩) hHeld ?_; rotate_left; focus (intro w hSw; (try dsimp only at hSw); go_simp; try with_reducible rfl))); simp only [PT]; (first | (refine tk 8 (oi := ⟨some 43, _, _, _, _, _⟩) (v := undef) rfl (by kernel_rfl) (.inr ⟨by rfl, rfl⟩) hHeld ?_) | (refine' tk 8 (oi := ⟨some 43, _, _, _, _, _⟩) (v := _) rfl (by kernel_rfl) (z0g (by rfl) 81 (.tmp 42) rfl g2 2 rfl (.slice v.ad v.n v.c) (fun _ h => h.1) rfl Try.underlying81 rfl) hHeld ?_)); simp only [PT]; (first | (refine tk 9 (oi := ⟨some 44, _, _, _, _, _⟩) (v := undef) rfl (by kernel_rfl) (.inr ⟨by rfl, rfl⟩) hHeld ?_) | (refine tk 9 (oi := ⟨some 44, _, _, _, _, _⟩) (v := ?_) rfl (by kernel_rfl) (.inl ⟨by rfl, ?_⟩) hHeld ?_; rotate_left; focus (intro w hSw; (try dsimp only at hSw); go_simp; try with_reducible rfl))); simp only [PT]; (first | (refine tk 10 (oi := ⟨some 45, _, _, _, _, _⟩) (v := undef) rfl (by kernel_rfl) (.inr ⟨by rfl, rfl⟩) hHeld ?_) | (refine tk 10 (oi := ⟨some 45, _, _, _, _, _⟩) (v := ?_) rfl (by kernel_rfl) (.inl ⟨by rfl, ?_⟩) hHeld ?_; rotate_left; focus (intro w hSw; (try dsimp only at hSw); go_simp; try with_reducible rfl))); simp only [PT]; (refine tk 11 (oi := ⟨some 46, _, _, _, _, _⟩) (v := ?_) rfl (by kernel_rfl) (.inl ⟨by rfl, ?_⟩) hHeld ?_; rotate_left; focus (intro w hSw; (try dsimp only at hSw); go_simp; try with_reducible rfl)); simp only [PT]; refine wpAnyH_ready (rs := [12]) (by kernel_rfl) (by simp) ?_; refine (AllReadyH.cons (o := ⟨none, _, _, _, _, _⟩) rfl (fun K hK => ?_) AllReadyH.nil)
    ((refine z0j rfl 83 (.tmp 4) (.tmp 35) rfl g4 v.cells.toArray rfl rfl HG4.out HSI.out rfl (z0v v) ?_); intro w5 hs__ hr__; replace HB := cg HB bup hr__ (by omega); replace HG2 := cg HG2 bup hr__ (by omega); replace HG3 := cg HG3 bup hr__ (by omega); clear HG4; have HG4 := Hd hs__; clear hs__ hr__); refine hK.out _ _ ?_ (fun hHeld => ?_); (focus (exact ⟨HG2.out, HG3.out⟩)); clear hK K; (try simp only [PT]); (refine tk 13 (oi := ⟨some 5, _, _, _, _, _⟩) (v := ?_) rfl (by kernel_rfl) (.inl ⟨by rfl, ?_⟩) hHeld ?_; rotate_left; focus (intro w hSw; (try dsimp only at hSw); go_simp; try with_reducible rfl)); simp only [PT]; refine wpAnyH_done (by kernel_rfl) ?_ _
    go_wp2_with fail
    (try simp only [Exit.inBlock, Exit.then, Exit.noGoto_ret])
    refine z17 (cs := (v).cells) rfl rfl (z00 HG4.out) Try.underlying83 rfl HSI.out rfl ?_
    exact ⟨v, by rw [HO.out]; first | rfl | (simp [hsec]; done), by rw [HNX.out], StV.below HX.out HB.out, HB.out⟩
  · have HO : Hid (okS v.val x.val = false) := Hd (by unfold okS; rw [if_neg (show ¬ x.val.kind = 1 from h1), if_pos (show x.val.kind = 3 ∨ x.val.kind = 6 from HKD.out)]; simp only [show decide (0 ≤ v.val.sec) = false from decide_eq_false hsec, Bool.false_and])
    go_enter Try.func67, Try.ntmps67
    go_wp2_with (first
 | ((with_reducible refine sl 2 ?_); (refine z0a rfl 83 (.tmp 0) rfl v.cells.toArray rfl ?_); intro wb2 g2 he__ le_g2 lt_g2 hg__ hb__; have HG2 := Hd hg__; have hE__ := cU HB bup hb__; replace HB := ck HB hE__; clear hE__; clear hg__ hb__ he__; simp only [PT])
 | ((with_reducible refine sl 3 ?_); (refine z0a rfl 27 (.tmp 1) rfl x.cells.toArray rfl ?_); intro wb3 g3 he__ le_g3 lt_g3 hg__ hb__; have HG3 := Hd hg__; have hE__ := cU HB bup hb__; replace HB := ck HB hE__; replace HG2 := ck HG2 hE__; clear hE__; clear hg__ hb__ he__; simp only [PT])
 | ((with_reducible refine sl 4 ?_); (refine z09 rfl 83 rfl (.agg zeroSt) zeroSt 3 (by kernel_rfl) rfl ?_); intro w4 g4 he__ le_g4 lt_g4 hg__ hb__; have lt24 := lt_of_block HG2.out; have lt34 := lt_of_block HG3.out; have HG4 := Hd hg__; have hE__ := cU HB bup hb__; replace HB := ck HB hE__; replace HG2 := ck HG2 hE__; replace HG3 := ck HG3 hE__; clear hE__; clear hg__ hb__ he__; have l24 : g2 < g4 := Nat.lt_of_lt_of_le lt24 le_g4; have l34 : g3 < g4 := Nat.lt_of_lt_of_le lt34 le_g4; simp only [PT])
 | ((with_reducible refine sl 7 ?_); (refine z01 rfl 3 (.tmp 6) rfl g3 0 rfl (.int .i64 x.kind) HG3.out rfl Try.underlying3 rfl ?_); simp only [PT]))
    refine wp_region_held_drew (S := fun u__ => u__.heap[g2]? = some (.cells v.cells.toArray 83 (0, 0)) ∧ u__.heap[g3]? = some (.cells x.cells.toArray 27 (0, 0))) (by kernel_rfl) ?_ (fun hHeld => ?_); (focus (exact ⟨HG2.out, HG3.out⟩)); refine' tk 0 (oi := ⟨some 35, _, _, _, _, _⟩) (v := _) rfl (by kernel_rfl) (yieldsIf_load_mid (by rfl) _ _ rfl _ _ rfl (v.cells) _ (fun _ h => z00 h.1) (Try.underlying83) rfl (HSI.out)) hHeld ?_; simp only [PT]; (refine tk 1 (oi := ⟨some 36, _, _, _, _, _⟩) (v := ?_) rfl (by kernel_rfl) (.inl ⟨by rfl, ?_⟩) hHeld ?_; rotate_left; focus (intro w hSw; (try dsimp only at hSw); go_simp; try with_reducible rfl)); simp only [PT]; refine' tk 2 (oi := ⟨some 37, _, _, _, _, _⟩) (v := _) rfl (by kernel_rfl) (z0g (by rfl) 3 (.tmp 36) rfl g2 0 rfl (.int .i64 v.sec) (fun _ h => h.1) rfl Try.underlying3 rfl) hHeld ?_; simp only [PT]; (first | (refine' tk 3 (oi := ⟨some 38, _, _, _, _, _⟩) (v := (.bool false)) rfl (by kernel_rfl) (.inl ⟨by rfl, ?_⟩) hHeld ?_; focus (intro w hSw; (try dsimp only at hSw); go_simp; first | done | rfl | (simp [*]; done) | (simp [*]; omega))) | (refine' tk 3 (oi := ⟨some 38, _, _, _, _, _⟩) (v := (.bool true)) rfl (by kernel_rfl) (.inl ⟨by rfl, ?_⟩) hHeld ?_; focus (intro w hSw; (try dsimp only at hSw); go_simp; first | done | rfl | (simp [*]; done) | (simp [*]; omega)))); simp only [PT]; (refine tk 4 (oi := ⟨some 39, _, _, _, _, _⟩) (v := ?_) rfl (by kernel_rfl) (.inl ⟨by rfl, ?_⟩) hHeld ?_; rotate_left; focus (intro w hSw; (try dsimp only at hSw); go_simp; try with_reducible rfl)); simp only [PT]; (first | (refine tk 5 (oi := ⟨some 40, _, _, _, _, _⟩) (v := undef) rfl (by kernel_rfl) (.inr ⟨by rfl, rfl⟩) hHeld ?_) | (refine tk 5 (oi := ⟨some 40, _, _, _, _, _⟩) (v := ?_) rfl (by kernel_rfl) (.inl ⟨by rfl, ?_⟩) hHeld ?_; rotate_left; focus (intro w hSw; (try dsimp only at hSw); go_simp; try with_reducible rfl))); simp only [PT]; (first | (refine tk 6 (oi := ⟨some 41, _, _, _, _, _⟩) (v := undef) rfl (by kernel_rfl) (.inr ⟨by rfl, rfl⟩) hHeld ?_) | (refine' tk 6 (oi := ⟨some 41, _, _, _, _, _⟩) (v := _) rfl (by kernel_rfl) (z0g (by rfl) 3 (.tmp 40) rfl g3 5 rfl (.int .i64 x.iface) (fun _ h => h.2) rfl Try.underlying3 rfl) hHeld ?_)); simp only [PT]; (first | (refine tk 7 (oi := ⟨some 42, _, _, _, _, _⟩) (v := undef) rfl (by kernel_rfl) (.inr ⟨by rfl, rfl⟩) hHeld ?_) | (refine tk 7 (oi := ⟨some 42, _, _, _, _, _⟩) (v := ?_) rfl (by kernel_rfl) (.inl ⟨by rfl, ?_⟩) hHeld ?_; rotate_left; focus (intro w hSw; (try dsimp only at hSw); go_simp; try with_reducible rfl))); simp only [PT]; (first | (refine tk 8 (oi := ⟨some 43, _, _, _, _, _⟩) (v := undef) rfl (by kernel_rfl) (.inr ⟨by rfl, rfl⟩) hHeld ?_) | (refine' tk 8 (oi := ⟨some 43, _, _, _, _, _⟩) (v := _) rfl (by kernel_rfl) (z0g (by rfl) 81 (.tmp 42) rfl g2 2 rfl (.slice v.ad v.n v.c) (fun _ h => h.1) rfl Try.underlying81 rfl) hHeld ?_)); simp only [PT]; (first | (refine tk 9 (oi := ⟨some 44, _, _, _, _, _⟩) (v := undef) rfl (by kernel_rfl) (.inr ⟨by rfl, rfl⟩) hHeld ?_) | (refine tk 9 (oi := ⟨some 44, _, _, _, _, _⟩) (v := ?_) rfl (by kernel_rfl) (.inl ⟨by rfl, ?_⟩) hHeld ?_; rotate_left; focus (intro w hSw; (try dsimp only at hSw); go_simp; try with_reducible rfl))); simp only [PT]; (first | (refine tk 10 (oi := ⟨some 45, _, _, _, _, _⟩) (v := undef) rfl (by kernel_rfl) (.inr ⟨by rfl, rfl⟩) hHeld ?_) | (refine tk 10 (oi := ⟨some 45, _, _, _, _, _⟩) (v := ?_) rfl (by kernel_rfl) (.inl ⟨by rfl, ?_⟩) hHeld ?_; rotate_left; focus (intro w hSw; (try dsimp only at hSw); go_simp; try with_reducible rfl))); simp only [PT]; (refine tk 11 (oi := ⟨some 46, _, _, _, _, _⟩) (v := ?_) rfl (by kernel_rfl) (.inl ⟨by rfl, ?_⟩) hHeld ?_; rotate_left; focus (intro w hSw; (try dsimp only at hSw); go_simp; try with_reducible rfl)); simp only [PT]; refine wpAnyH_ready (rs := [12]) (by kernel_rfl) (by simp) ?_; refine (AllReadyH.cons (o := ⟨none, _, _, _, _, _⟩) rfl (fun K hK => ?_) AllReadyH.nil)
    ((refine z0j rfl 83 (.tmp 4) (.tmp 35) rfl g4 v.cells.toArray rfl rfl HG4.out HSI.out rfl (z0v v) ?_); intro w5 hs__ hr__; replace HB := cg HB bup hr__ (by omega); replace HG2 := cg HG2 bup hr__ (by omega); replace HG3 := cg HG3 bup hr__ (by omega); clear HG4; have HG4 := Hd hs__; clear hs__ hr__); refine hK.out _ _ ?_ (fun hHeld => ?_); (focus (exact ⟨HG2.out, HG3.out⟩)); clear hK K; (try simp only [PT]); (refine tk 13 (oi := ⟨some 5, _, _, _, _, _⟩) (v := ?_) rfl (by kernel_rfl) (.inl ⟨by rfl, ?_⟩) hHeld ?_; rotate_left; focus (intro w hSw; (try dsimp only at hSw); go_simp; try with_reducible rfl)); simp only [PT]; refine wpAnyH_done (by kernel_rfl) ?_ _
    go_wp2_with fail
    (try simp only [Exit.inBlock, Exit.then, Exit.noGoto_ret])
    refine z17 (cs := (v).cells) rfl rfl (z00 HG4.out) Try.underlying83 rfl HSI.out rfl ?_
    exact ⟨v, by rw [HO.out]; first | rfl | (simp [hsec]; done), by rw [HNX.out], StV.below HX.out HB.out, HB.out⟩
theorem step6 (v : StV) (x : BlkV) (w : World) (hv : StV.mem w v) (hs : -1 ≤ v.sec ∧ v.sec ≤ 1000000000) (hn : v.n ≤ 1000000000) (hk : x.kind = 6) :
    Calls Try.prog 67 #[.agg v.cells.toArray, .agg x.cells.toArray] w (StepR v x w) := by
  have HB := Hd (Below.refl w.heap.size w)
  have HX := Hd hv
  have HSI := Hd z3g
  have HBI := Hd z0d
  obtain ⟨hs1, hs2⟩ := hs
  have h1 : ¬ x.kind = 1 := by omega
  have h2 : ¬ x.kind = 2 := by omega
  have h3 : ¬ x.kind = 3 := by omega
  have HKD : Hid (x.kind = 3 ∨ x.kind = 6) := Hd (.inr hk)
  have HNX : Hid (nextS v.val x.val = v.val) := Hd (by unfold nextS; rw [if_neg (show ¬ x.val.kind = 1 from h1), if_neg (show ¬ x.val.kind = 2 from h2)])
  clear hv
  have hnl := (Us.len (StV.us HX.out))
  have HNL := Hd hnl
  clear hnl
  by_cases hsec : 0 ≤ v.sec
  · have HO : Hid (okS v.val x.val = decide (x.iface < (v.n : Int))) := Hd (by unfold okS; rw [if_neg (show ¬ x.val.kind = 1 from h1), if_pos (show x.val.kind = 3 ∨ x.val.kind = 6 from HKD.out)]; simp only [show decide (0 ≤ v.val.sec) = true from decide_eq_true hsec, Bool.true_and]; rw [show v.val.snaps.length = v.n from HNL.out.symm]; rfl)
    go_enter Try.func67, Try.ntmps67
    go_wp2_with (first
 | ((with_reducible refine sl 2 ?_); (refine z0a rfl 83 (.tmp 0) rfl v.cells.toArray rfl ?_); intro wb2 g2 he__ le_g2 lt_g2 hg__ hb__; have HG2 := Hd hg__; have hE__ := cU HB bup hb__; replace HB := ck HB hE__; clear hE__; clear hg__ hb__ he__; simp only [PT])
 | ((with_reducible refine sl 3 ?_); (refine z0a rfl 27 (.tmp 1) rfl x.cells.toArray rfl ?_); intro wb3 g3 he__ le_g3 lt_g3 hg__ hb__; have HG3 := Hd hg__; have hE__ := cU HB bup hb__; replace HB := ck HB hE__; replace HG2 := ck HG2 hE__; clear hE__; clear hg__ hb__ he__; simp only [PT])
 | ((with_reducible refine sl 4 ?_); (refine z09 rfl 83 rfl (.agg zeroSt) zeroSt 3 (by kernel_rfl) rfl ?_); intro w4 g4 he__ le_g4 lt_g4 hg__ hb__; have lt24 := lt_of_block HG2.out; have lt34 := lt_of_block HG3.out; have HG4 := Hd hg__; have hE__ := cU HB bup hb__; replace HB := ck HB hE__; replace HG2 := ck HG2 hE__; replace HG3 := ck HG3 hE__; clear hE__; clear hg__ hb__ he__; have l24 : g2 < g4 := Nat.lt_of_lt_of_le lt24 le_g4; have l34 : g3 < g4 := Nat.lt_of_lt_of_le lt34 le_g4; simp only [PT])
 | ((with_reducible refine sl 7 ?_); (refine z01 rfl 3 (.tmp 6) rfl g3 0 rfl (.int .i64 x.kind) HG3.out rfl Try.underlying3 rfl ?_); simp only [PT]))
    refine wp_region_held_drew (S := fun u__ => u__.heap[g2]? = some (.cells v.cells.toArray 83 (0, 0)) ∧ u__.heap[g3]? = some (.cells x.cells.toArray 27 (0, 0))) (by kernel_rfl) ?_ (fun hHeld => ?_); (focus (exact ⟨HG2.out, HG3.out⟩)); refine' tk 0 (oi := ⟨some 35, _, _, _, _, _⟩) (v := _) rfl (by kernel_rfl) (yieldsIf_load_mid (by rfl) _ _ rfl _ _ rfl (v.cells) _ (fun _ h => z00 h.1) (Try.underlying83) rfl (HSI.out)) hHeld ?_; simp only [PT]; (refine tk 1 (oi := ⟨some 36, _, _, _, _, _⟩) (v := ?_) rfl (by kernel_rfl) (.inl ⟨by rfl, ?_⟩) hHeld ?_; rotate_left; focus (intro w hSw; (try dsimp only at hSw); go_simp; try with_reducible rfl)); simp only [PT]; refine' tk 2 (oi := ⟨some 37, _, _, _, _, _⟩) (v := _) rfl (by kernel_rfl) (z0g (by rfl) 3 (.tmp 36) rfl g2 0 rfl (.int .i64 v.sec) (fun _ h => h.1) rfl Try.underlying3 rfl) hHeld ?_; simp only [PT]; (first | (refine' tk 3 (oi := ⟨some 38, _, _, _, _, _⟩) (v := (.bool false)) rfl (by kernel_rfl) (.inl ⟨by rfl, ?_⟩) hHeld ?_; focus (intro w hSw; (try dsimp only at hSw); go_simp; first | done | rfl | (simp [*]; done) | (simp [*]; omega))) | (refine' tk 3 (oi := ⟨some 38, _, _, _, _, _⟩) (v := (.bool true)) rfl (by kernel_rfl) (.inl ⟨by rfl, ?_⟩) hHeld ?_; focus (intro w hSw; (try dsimp only at hSw); go_simp; first | done | rfl | (simp [*]; done) | (simp [*]; omega)))); simp only [PT]; (refine tk 4 (oi := ⟨some 39, _, _, _, _, _⟩) (v := ?_) rfl (by kernel_rfl) (.inl ⟨by rfl, ?_⟩) hHeld ?_; rotate_left; focus (intro w hSw; (try dsimp only at hSw); go_simp; try with_reducible rfl)); simp only [PT]; (first | (refine tk 5 (oi := ⟨some 40, _, _, _, _, _⟩) (v := undef) rfl (by kernel_rfl) (.inr ⟨by rfl, rfl⟩) hHeld ?_) | (refine tk 5 (oi := ⟨some 40, _, _, _, _, _⟩) (v := ?_) rfl (by kernel_rfl) (.inl ⟨by rfl, ?_⟩) hHeld ?_; rotate_left; focus (intro w hSw; (try dsimp only at hSw); go_simp; try with_reducible rfl))); simp only [PT]; (first | (refine tk 6 (oi := ⟨some 41, _, _, _, _, _⟩) (v := undef) rfl (by kernel_rfl) (.inr ⟨by rfl, rfl⟩) hHeld ?_) | (refine' tk 6 (oi := ⟨some 41, _, _, _, _, _⟩) (v := _) rfl (by kernel_rfl) (z0g (by rfl) 3 (.tmp 40) rfl g3 5 rfl (.int .i64 x.iface) (fun _ h => h.2) rfl Try.underlying3 rfl) hHeld ?_)); simp only [PT]; (first | (refine tk 7 (oi := ⟨some 42, _, _, _, _, _⟩) (v := undef) rfl (by kernel_rfl) (.inr ⟨by rfl, rfl⟩) hHeld ?_) | (refine tk 7 (oi := ⟨some 42, _, _, _, _, _⟩) (v := ?_) rfl (by kernel_rfl) (.inl ⟨by rfl, ?_⟩) hHeld ?_; rotate_left; focus (intro w hSw; (try dsimp only at hSw); go_simp; try with_reducible rfl))); simp only [PT]; (first | (refine tk 8 (oi := ⟨some 43, _, _, _, _, _⟩) (v := undef) rfl (by kernel_rfl) (.inr ⟨by rfl, rfl⟩) hHeld ?_) | (refine' tk 8 (oi := ⟨some 43, _, _, _, _, _⟩) (v := _) rfl (by kernel_rfl) (z0g (by rfl) 81 (.tmp 42) rfl g2 2 rfl (.slice v.ad v.n v.c) (fun _ h => h.1) rfl Try.underlying81 rfl) hHeld ?_)); simp only [PT]; (first | (refine tk 9 (oi := ⟨some 44, _, _, _, _, _⟩) (v := undef) rfl (by kernel_rfl) (.inr ⟨by rfl, rfl⟩) hHeld ?_) | (refine tk 9 (oi := ⟨some 44, _, _, _, _, _⟩) (v := ?_) rfl (by kernel_rfl) (.inl ⟨by rfl, ?_⟩) hHeld ?_; rotate_left; focus (intro w hSw; (try dsimp only at hSw); go_simp; try with_reducible rfl))); simp only [PT]; (first | (refine tk 10 (oi := ⟨some 45, _, _, _, _, _⟩) (v := undef) rfl (by kernel_rfl) (.inr ⟨by rfl, rfl⟩) hHeld ?_) | (refine tk 10 (oi := ⟨some 45, _, _, _, _, _⟩) (v := ?_) rfl (by kernel_rfl) (.inl ⟨by rfl, ?_⟩) hHeld ?_; rotate_left; focus (intro w hSw; (try dsimp only at hSw); go_simp; try with_reducible rfl))); simp only [PT]; (refine tk 11 (oi := ⟨some 46, _, _, _, _, _⟩) (v := ?_) rfl (by kernel_rfl) (.inl ⟨by rfl, ?_⟩) hHeld ?_; rotate_left; focus (intro w hSw; (try dsimp only at hSw); go_simp; try with_reducible rfl)); simp only [PT]; refine wpAnyH_ready (rs := [12]) (by kernel_rfl) (by simp) ?_; refine (AllReadyH.cons (o := ⟨none, _, _, _, _, _⟩) rfl (fun K hK => ?_) AllReadyH.nil)
    ((refine z0j rfl 83 (.tmp 4) (.tmp 35) rfl g4 v.cells.toArray rfl rfl HG4.out HSI.out rfl (z0v v) ?_); intro w5 hs__ hr__; replace HB := cg HB bup hr__ (by omega); replace HG2 := cg HG2 bup hr__ (by omega); replace HG3 := cg HG3 bup hr__ (by omega); clear HG4; have HG4 := Hd hs__; clear hs__ hr__); refine hK.out _ _ ?_ (fun hHeld => ?_); (focus (exact ⟨HG2.out, HG3.out⟩)); clear hK K; (try simp only [PT]); (refine tk 13 (oi := ⟨some 5, _, _, _, _, _⟩) (v := ?_) rfl (by kernel_rfl) (.inl ⟨by rfl, ?_⟩) hHeld ?_; rotate_left; focus (intro w hSw; (try dsimp only at hSw); go_simp; try with_reducible rfl)); simp only [PT]; refine wpAnyH_done (by kernel_rfl) ?_ _
    go_wp2_with fail
    (try simp only [Exit.inBlock, Exit.then, Exit.noGoto_ret])
    refine z17 (cs := (v).cells) rfl rfl (z00 HG4.out) Try.underlying83 rfl HSI.out rfl ?_
    exact ⟨v, by rw [HO.out]; first | rfl | (simp [hsec]; done), by rw [HNX.out], StV.below HX.out HB.out, HB.out⟩
  · have HO : Hid (okS v.val x.val = false) := Hd (by unfold okS; rw [if_neg (show ¬ x.val.kind = 1 from h1), if_pos (show x.val.kind = 3 ∨ x.val.kind = 6 from HKD.out)]; simp only [show decide (0 ≤ v.val.sec) = false from decide_eq_false hsec, Bool.false_and])
    go_enter Try.func67, Try.ntmps67
    go_wp2_with (first
 | ((with_reducible refine sl 2 ?_); (refine z0a rfl 83 (.tmp 0) rfl v.cells.toArray rfl ?_); intro wb2 g2 he__ le_g2 lt_g2 hg__ hb__; have HG2 := Hd hg__; have hE__ := cU HB bup hb__; replace HB := ck HB hE__; clear hE__; clear hg__ hb__ he__; simp only [PT])
 | ((with_reducible refine sl 3 ?_); (refine z0a rfl 27 (.tmp 1) rfl x.cells.toArray rfl ?_); intro wb3 g3 he__ le_g3 lt_g3 hg__ hb__; have HG3 := Hd hg__; have hE__ := cU HB bup hb__; replace HB := ck HB hE__; replace HG2 := ck HG2 hE__; clear hE__; clear hg__ hb__ he__; simp only [PT])
 | ((with_reducible refine sl 4 ?_); (refine z09 rfl 83 rfl (.agg zeroSt) zeroSt 3 (by kernel_rfl) rfl ?_); intro w4 g4 he__ le_g4 lt_g4 hg__ hb__; have lt24 := lt_of_block HG2.out; have lt34 := lt_of_block HG3.out; have HG4 := Hd hg__; have hE__ := cU HB bup hb__; replace HB := ck HB hE__; replace HG2 := ck HG2 hE__; replace HG3 := ck HG3 hE__; clear hE__; clear hg__ hb__ he__; have l24 : g2 < g4 := Nat.lt_of_lt_of_le lt24 le_g4; have l34 : g3 < g4 := Nat.lt_of_lt_of_le lt34 le_g4; simp only [PT])
 | ((with_reducible refine sl 7 ?_); (refine z01 rfl 3 (.tmp 6) rfl g3 0 rfl (.int .i64 x.kind) HG3.out rfl Try.underlying3 rfl ?_); simp only [PT]))
    refine wp_region_held_drew (S := fun u__ => u__.heap[g2]? = some (.cells v.cells.toArray 83 (0, 0)) ∧ u__.heap[g3]? = some (.cells x.cells.toArray 27 (0, 0))) (by kernel_rfl) ?_ (fun hHeld => ?_); (focus (exact ⟨HG2.out, HG3.out⟩)); refine' tk 0 (oi := ⟨some 35, _, _, _, _, _⟩) (v := _) rfl (by kernel_rfl) (yieldsIf_load_mid (by rfl) _ _ rfl _ _ rfl (v.cells) _ (fun _ h => z00 h.1) (Try.underlying83) rfl (HSI.out)) hHeld ?_; simp only [PT]; (refine tk 1 (oi := ⟨some 36, _, _, _, _, _⟩) (v := ?_) rfl (by kernel_rfl) (.inl ⟨by rfl, ?_⟩) hHeld ?_; rotate_left; focus (intro w hSw; (try dsimp only at hSw); go_simp; try with_reducible rfl)); simp only [PT]; refine' tk 2 (oi := ⟨some 37, _, _, _, _, _⟩) (v := _) rfl (by kernel_rfl) (z0g (by rfl) 3 (.tmp 36) rfl g2 0 rfl (.int .i64 v.sec) (fun _ h => h.1) rfl Try.underlying3 rfl) hHeld ?_; simp only [PT]; (first | (refine' tk 3 (oi := ⟨some 38, _, _, _, _, _⟩) (v := (.bool false)) rfl (by kernel_rfl) (.inl ⟨by rfl, ?_⟩) hHeld ?_; focus (intro w hSw; (try dsimp only at hSw); go_simp; first | done | rfl | (simp [*]; done) | (simp [*]; omega))) | (refine' tk 3 (oi := ⟨some 38, _, _, _, _, _⟩) (v := (.bool true)) rfl (by kernel_rfl) (.inl ⟨by rfl, ?_⟩) hHeld ?_; focus (intro w hSw; (try dsimp only at hSw); go_simp; first | done | rfl | (simp [*]; done) | (simp [*]; omega)))); simp only [PT]; (refine tk 4 (oi := ⟨some 39, _, _, _, _, _⟩) (v := ?_) rfl (by kernel_rfl) (.inl ⟨by rfl, ?_⟩) hHeld ?_; rotate_left; focus (intro w hSw; (try dsimp only at hSw); go_simp; try with_reducible rfl)); simp only [PT]; (first | (refine tk 5 (oi := ⟨some 40, _, _, _, _, _⟩) (v := undef) rfl (by kernel_rfl) (.inr ⟨by rfl, rfl⟩) hHeld ?_) | (refine tk 5 (oi := ⟨some 40, _, _, _, _, _⟩) (v := ?_) rfl (by kernel_rfl) (.inl ⟨by rfl, ?_⟩) hHeld ?_; rotate_left; focus (intro w hSw; (try dsimp only at hSw); go_simp; try with_reducible rfl))); simp only [PT]; (first | (refine tk 6 (oi := ⟨some 41, _, _, _, _, _⟩) (v := undef) rfl (by kernel_rfl) (.inr ⟨by rfl, rfl⟩) hHeld ?_) | (refine' tk 6 (oi := ⟨some 41, _, _, _, _, _⟩) (v := _) rfl (by kernel_rfl) (z0g (by rfl) 3 (.tmp 40) rfl g3 5 rfl (.int .i64 x.iface) (fun _ h => h.2) rfl Try.underlying3 rfl) hHeld ?_)); simp only [PT]; (first | (refine tk 7 (oi := ⟨some 42, _, _, _, _, _⟩) (v := undef) rfl (by kernel_rfl) (.inr ⟨by rfl, rfl⟩) hHeld ?_) | (refine tk 7 (oi := ⟨some 42, _, _, _, _, _⟩) (v := ?_) rfl (by kernel_rfl) (.inl ⟨by rfl, ?_⟩) hHeld ?_; rotate_left; focus (intro w hSw; (try dsimp only at hSw); go_simp; try with_reducible rfl))); simp only [PT]; (first | (refine tk 8 (oi := ⟨some 43, _, _, _, _, _⟩) (v := undef) rfl (by kernel_rfl) (.inr ⟨by rfl, rfl⟩) hHeld ?_) | (refine' tk 8 (oi := ⟨some 43, _, _, _, _, _⟩) (v := _) rfl (by kernel_rfl) (z0g (by rfl) 81 (.tmp 42) rfl g2 2 rfl (.slice v.ad v.n v.c) (fun _ h => h.1) rfl Try.underlying81 rfl) hHeld ?_)); simp only [PT]; (first | (refine tk 9 (oi := ⟨some 44, _, _, _, _, _⟩) (v := undef) rfl (by kernel_rfl) (.inr ⟨by rfl, rfl⟩) hHeld ?_) | (refine tk 9 (oi := ⟨some 44, _, _, _, _, _⟩) (v := ?_) rfl (by kernel_rfl) (.inl ⟨by rfl, ?_⟩) hHeld ?_; rotate_left; focus (intro w hSw; (try dsimp only at hSw); go_simp; try with_reducible rfl))); simp only [PT]; (first | (refine tk 10 (oi := ⟨some 45, _, _, _, _, _⟩) (v := undef) rfl (by kernel_rfl) (.inr ⟨by rfl, rfl⟩) hHeld ?_) | (refine tk 10 (oi := ⟨some 45, _, _, _, _, _⟩) (v := ?_) rfl (by kernel_rfl) (.inl ⟨by rfl, ?_⟩) hHeld ?_; rotate_left; focus (intro w hSw; (try dsimp only at hSw); go_simp; try with_reducible rfl))); simp only [PT]; (refine tk 11 (oi := ⟨some 46, _, _, _, _, _⟩) (v := ?_) rfl (by kernel_rfl) (.inl ⟨by rfl, ?_⟩) hHeld ?_; rotate_left; focus (intro w hSw; (try dsimp only at hSw); go_simp; try with_reducible rfl)); simp only [PT]; refine wpAnyH_ready (rs := [12]) (by kernel_rfl) (by simp) ?_; refine (AllReadyH.cons (o := ⟨none, _, _, _, _, _⟩) rfl (fun K hK => ?_) AllReadyH.nil)
    ((refine z0j rfl 83 (.tmp 4) (.tmp 35) rfl g4 v.cells.toArray rfl rfl HG4.out HSI.out rfl (z0v v) ?_); intro w5 hs__ hr__; replace HB := cg HB bup hr__ (by omega); replace HG2 := cg HG2 bup hr__ (by omega); replace HG3 := cg HG3 bup hr__ (by omega); clear HG4; have HG4 := Hd hs__; clear hs__ hr__); refine hK.out _ _ ?_ (fun hHeld => ?_); (focus (exact ⟨HG2.out, HG3.out⟩)); clear hK K; (try simp only [PT]); (refine tk 13 (oi := ⟨some 5, _, _, _, _, _⟩) (v := ?_) rfl (by kernel_rfl) (.inl ⟨by rfl, ?_⟩) hHeld ?_; rotate_left; focus (intro w hSw; (try dsimp only at hSw); go_simp; try with_reducible rfl)); simp only [PT]; refine wpAnyH_done (by kernel_rfl) ?_ _
    go_wp2_with fail
    (try simp only [Exit.inBlock, Exit.then, Exit.noGoto_ret])
    refine z17 (cs := (v).cells) rfl rfl (z00 HG4.out) Try.underlying83 rfl HSI.out rfl ?_
    exact ⟨v, by rw [HO.out]; first | rfl | (simp [hsec]; done), by rw [HNX.out], StV.below HX.out HB.out, HB.out⟩
theorem step4 (v : StV) (x : BlkV) (w : World) (hv : StV.mem w v) (hs : -1 ≤ v.sec ∧ v.sec ≤ 1000000000) (hn : v.n ≤ 1000000000) (hk : x.kind = 4) :
    Calls Try.prog 67 #[.agg v.cells.toArray, .agg x.cells.toArray] w (StepR v x w) := by
  have HB := Hd (Below.refl w.heap.size w)
  have HX := Hd hv
  have HSI := Hd z3g
  have HBI := Hd z0d
  obtain ⟨hs1, hs2⟩ := hs
  have h1 : ¬ x.kind = 1 := by omega
  have h2 : ¬ x.kind = 2 := by omega
  have h3 : ¬ x.kind = 3 := by omega
  have h6 : ¬ x.kind = 6 := by omega
  have HNX : Hid (nextS v.val x.val = v.val) := Hd (by unfold nextS; rw [if_neg (show ¬ x.val.kind = 1 from h1), if_neg (show ¬ x.val.kind = 2 from h2)])
  clear hv
  have hnl := (Us.len (StV.us HX.out))
  have HNL := Hd hnl
  clear hnl
  by_cases hsec : 0 ≤ v.sec
  · have HO : Hid (okS v.val x.val = decide (0 < v.n)) := Hd (by unfold okS; rw [if_neg (show ¬ x.val.kind = 1 from h1), if_neg (show ¬ (x.val.kind = 3 ∨ x.val.kind = 6) from fun e => by have e' : x.kind = 3 ∨ x.kind = 6 := e; omega), if_pos (show x.val.kind = 4 from hk)]; simp only [show decide (0 ≤ v.val.sec) = true from decide_eq_true hsec, Bool.true_and]; rw [show v.val.snaps.length = v.n from HNL.out.symm])
    go_enter Try.func67, Try.ntmps67
    go_wp2_with (first
 | ((with_reducible refine sl 2 ?_); (refine z0a rfl 83 (.tmp 0) rfl v.cells.toArray rfl ?_); intro wb2 g2 he__ le_g2 lt_g2 hg__ hb__; have HG2 := Hd hg__; have hE__ := cU HB bup hb__; replace HB := ck HB hE__; clear hE__; clear hg__ hb__ he__; simp only [PT])
 | ((with_reducible refine sl 3 ?_); (refine z0a rfl 27 (.tmp 1) rfl x.cells.toArray rfl ?_); intro wb3 g3 he__ le_g3 lt_g3 hg__ hb__; have HG3 := Hd hg__; have hE__ := cU HB bup hb__; replace HB := ck HB hE__; replace HG2 := ck HG2 hE__; clear hE__; clear hg__ hb__ he__; simp only [PT])
 | ((with_reducible refine sl 4 ?_); (refine z09 rfl 83 rfl (.agg zeroSt) zeroSt 3 (by kernel_rfl) rfl ?_); intro w4 g4 he__ le_g4 lt_g4 hg__ hb__; have lt24 := lt_of_block HG2.out; have lt34 := lt_of_block HG3.out; have HG4 := Hd hg__; have hE__ := cU HB bup hb__; replace HB := ck HB hE__; replace HG2 := ck HG2 hE__; replace HG3 := ck HG3 hE__; clear hE__; clear hg__ hb__ he__; have l24 : g2 < g4 := Nat.lt_of_lt_of_le lt24 le_g4; have l34 : g3 < g4 := Nat.lt_of_lt_of_le lt34 le_g4; simp only [PT])
 | ((with_reducible refine sl 7 ?_); (refine z01 rfl 3 (.tmp 6) rfl g3 0 rfl (.int .i64 x.kind) HG3.out rfl Try.underlying3 rfl ?_); simp only [PT]))
    refine wp_region_held_drew (S := fun u__ => u__.heap[g2]? = some (.cells v.cells.toArray 83 (0, 0)) ∧ u__.heap[g3]? = some (.cells x.cells.toArray 27 (0, 0))) (by kernel_rfl) ?_ (fun hHeld => ?_); (focus (exact ⟨HG2.out, HG3.out⟩)); refine' tk 0 (oi := ⟨some 49, _, _, _, _, _⟩) (v := _) rfl (by kernel_rfl) (yieldsIf_load_mid (by rfl) _ _ rfl _ _ rfl (v.cells) _ (fun _ h => z00 h.1) (Try.underlying83) rfl (HSI.out)) hHeld ?_; simp only [PT]; (refine tk 1 (oi := ⟨some 50, _, _, _, _, _⟩) (v := ?_) rfl (by kernel_rfl) (.inl ⟨by rfl, ?_⟩) hHeld ?_; rotate_left; focus (intro w hSw; (try dsimp only at hSw); go_simp; try with_reducible rfl)); simp only [PT]; refine' tk 2 (oi := ⟨some 51, _, _, _, _, _⟩) (v := _) rfl (by kernel_rfl) (z0g (by rfl) 3 (.tmp 50) rfl g2 0 rfl (.int .i64 v.sec) (fun _ h => h.1) rfl Try.underlying3 rfl) hHeld ?_; simp only [PT]; (first | (refine' tk 3 (oi := ⟨some 52, _, _, _, _, _⟩) (v := (.bool false)) rfl (by kernel_rfl) (.inl ⟨by rfl, ?_⟩) hHeld ?_; focus (intro w hSw; (try dsimp only at hSw); go_simp; first | done | rfl | (simp [*]; done) | (simp [*]; omega))) | (refine' tk 3 (oi := ⟨some 52, _, _, _, _, _⟩) (v := (.bool true)) rfl (by kernel_rfl) (.inl ⟨by rfl, ?_⟩) hHeld ?_; focus (intro w hSw; (try dsimp only at hSw); go_simp; first | done | rfl | (simp [*]; done) | (simp [*]; omega)))); simp only [PT]; (refine tk 4 (oi := ⟨some 53, _, _, _, _, _⟩) (v := ?_) rfl (by kernel_rfl) (.inl ⟨by rfl, ?_⟩) hHeld ?_; rotate_left; focus (intro w hSw; (try dsimp only at hSw); go_simp; try with_reducible rfl)); simp only [PT]; (first | (refine tk 5 (oi := ⟨some 54, _, _, _, _, _⟩) (v := undef) rfl (by kernel_rfl) (.inr ⟨by rfl, rfl⟩) hHeld ?_) | (refine tk 5 (oi := ⟨some 54, _, _, _, _, _⟩) (v := ?_) rfl (by kernel_rfl) (.inl ⟨by rfl, ?_⟩) hHeld ?_; rotate_left; focus (intro w hSw; (try dsimp only at hSw); go_simp; try with_reducible rfl))); simp only [PT]; (first | (refine tk 6 (oi := ⟨some 55, _, _, _, _, _⟩) (v := undef) rfl (by kernel_rfl) (.inr ⟨by rfl, rfl⟩) hHeld ?_) | (refine' tk 6 (oi := ⟨some 55, _, _, _, _, _⟩) (v := _) rfl (by kernel_rfl) (z0g (by rfl) 81 (.tmp 54) rfl g2 2 rfl (.slice v.ad v.n v.c) (fun _ h => h.1) rfl Try.underlying81 rfl) hHeld ?_)); simp only [PT]; (first | (refine tk 7 (oi := ⟨some 56, _, _, _, _, _⟩) (v := undef) rfl (by kernel_rfl) (.inr ⟨by rfl, rfl⟩) hHeld ?_) | (refine tk 7 (oi := ⟨some 56, _, _, _, _, _⟩) (v := ?_) rfl (by kernel_rfl) (.inl ⟨by rfl, ?_⟩) hHeld ?_; rotate_left; focus (intro w hSw; (try dsimp only at hSw); go_simp; try with_reducible rfl))); simp only [PT]; (first | (refine tk 8 (oi := ⟨some 57, _, _, _, _, _⟩) (v := undef) rfl (by kernel_rfl) (.inr ⟨by rfl, rfl⟩) hHeld ?_) | (refine tk 8 (oi := ⟨some 57, _, _, _, _, _⟩) (v := ?_) rfl (by kernel_rfl) (.inl ⟨by rfl, ?_⟩) hHeld ?_; rotate_left; focus (intro w hSw; (try dsimp only at hSw); go_simp; try with_reducible rfl))); simp only [PT]; (refine tk 9 (oi := ⟨some 58, _, _, _, _, _⟩) (v := ?_) rfl (by kernel_rfl) (.inl ⟨by rfl, ?_⟩) hHeld ?_; rotate_left; focus (intro w hSw; (try dsimp only at hSw); go_simp; try with_reducible rfl)); simp only [PT]; refine wpAnyH_ready (rs := [10]) (by kernel_rfl) (by simp) ?_; refine (AllReadyH.cons (o := ⟨none, _, _, _, _, _⟩) rfl (fun K hK => ?_) AllReadyH.nil); ((refine z0j rfl 83 (.tmp 4) (.tmp 49) rfl g4 v.cells.toArray rfl rfl HG4.out HSI.out rfl (z0v v) ?_); intro w5 hs__ hr__; replace HB := cg HB bup hr__ (by omega); replace HG2 := cg HG2 bup hr__ (by omega); replace HG3 := cg HG3 bup hr__ (by omega); clear HG4; have HG4 := Hd hs__; clear hs__ hr__); refine hK.out _ _ ?_ (fun hHeld => ?_); (focus (exact ⟨HG2.out, HG3.out⟩)); clear hK K; (try simp only [PT]); (refine tk 11 (oi := ⟨some 5, _, _, _, _, _⟩) (v := ?_) rfl (by kernel_rfl) (.inl ⟨by rfl, ?_⟩) hHeld ?_; rotate_left; focus (intro w hSw; (try dsimp only at hSw); go_simp; try with_reducible rfl)); simp only [PT]; refine wpAnyH_done (by kernel_rfl) ?_ _
    go_wp2_with fail
    (try simp only [Exit.inBlock, Exit.then, Exit.noGoto_ret])
    refine z17 (cs := (v).cells) rfl rfl (z00 HG4.out) Try.underlying83 rfl HSI.out rfl ?_
    exact ⟨v, by rw [HO.out]; first | rfl | (simp [hsec]; done), by rw [HNX.out], StV.below HX.out HB.out, HB.out⟩
  · have HO : Hid (okS v.val x.val = false) := Hd (by unfold okS; rw [if_neg (show ¬ x.val.kind = 1 from h1), if_neg (show ¬ (x.val.kind = 3 ∨ x.val.kind = 6) from fun e => by have e' : x.kind = 3 ∨ x.kind = 6 := e; omega), if_pos (show x.val.kind = 4 from hk)]; simp only [show decide (0 ≤ v.val.sec) = false from decide_eq_false hsec, Bool.false_and])
    go_enter Try.func67, Try.ntmps67
    go_wp2_with (first
 | ((with_reducible refine sl 2 ?_); (refine z0a rfl 83 (.tmp 0) rfl v.cells.toArray rfl ?_); intro wb2 g2 he__ le_g2 lt_g2 hg__ hb__; have HG2 := Hd hg__; have hE__ := cU HB bup hb__; replace HB := ck HB hE__; clear hE__; clear hg__ hb__ he__; simp only [PT])
 | ((with_reducible refine sl 3 ?_); (refine z0a rfl 27 (.tmp 1) rfl x.cells.toArray rfl ?_); intro wb3 g3 he__ le_g3 lt_g3 hg__ hb__; have HG3 := Hd hg__; have hE__ := cU HB bup hb__; replace HB := ck HB hE__; replace HG2 := ck HG2 hE__; clear hE__; clear hg__ hb__ he__; simp only [PT])
 | ((with_reducible refine sl 4 ?_); (refine z09 rfl 83 rfl (.agg zeroSt) zeroSt 3 (by kernel_rfl) rfl ?_); intro w4 g4 he__ le_g4 lt_g4 hg__ hb__; have lt24 := lt_of_block HG2.out; have lt34 := lt_of_block HG3.out; have HG4 := Hd hg__; have hE__ := cU HB bup hb__; replace HB := ck HB hE__; replace HG2 := ck HG2 hE__; replace HG3 := ck HG3 hE__; clear hE__; clear hg__ hb__ he__; have l24 : g2 < g4 := Nat.lt_of_lt_of_le lt24 le_g4; have l34 : g3 < g4 := Nat.lt_of_lt_of_le lt34 le_g4; simp only [PT])
 | ((with_reducible refine sl 7 ?_); (refine z01 rfl 3 (.tmp 6) rfl g3 0 rfl (.int .i64 x.kind) HG3.out rfl Try.underlying3 rfl ?_); simp only [PT]))
    refine wp_region_held_drew (S := fun u__ => u__.heap[g2]? = some (.cells v.cells.toArray 83 (0, 0)) ∧ u__.heap[g3]? = some (.cells x.cells.toArray 27 (0, 0))) (by kernel_rfl) ?_ (fun hHeld => ?_); (focus (exact ⟨HG2.out, HG3.out⟩)); refine' tk 0 (oi := ⟨some 49, _, _, _, _, _⟩) (v := _) rfl (by kernel_rfl) (yieldsIf_load_mid (by rfl) _ _ rfl _ _ rfl (v.cells) _ (fun _ h => z00 h.1) (Try.underlying83) rfl (HSI.out)) hHeld ?_; simp only [PT]; (refine tk 1 (oi := ⟨some 50, _, _, _, _, _⟩) (v := ?_) rfl (by kernel_rfl) (.inl ⟨by rfl, ?_⟩) hHeld ?_; rotate_left; focus (intro w hSw; (try dsimp only at hSw); go_simp; try with_reducible rfl)); simp only [PT]; refine' tk 2 (oi := ⟨some 51, _, _, _, _, _⟩) (v := _) rfl (by kernel_rfl) (z0g (by rfl) 3 (.tmp 50) rfl g2 0 rfl (.int .i64 v.sec) (fun _ h => h.1) rfl Try.underlying3 rfl) hHeld ?_; simp only [PT]; (first | (refine' tk 3 (oi := ⟨some 52, _, _, _, _, _⟩) (v := (.bool false)) rfl (by kernel_rfl) (.inl ⟨by rfl, ?_⟩) hHeld ?_; focus (intro w hSw; (try dsimp only at hSw); go_simp; first | done | rfl | (simp [*]; done) | (simp [*]; omega))) | (refine' tk 3 (oi := ⟨some 52, _, _, _, _, _⟩) (v := (.bool true)) rfl (by kernel_rfl) (.inl ⟨by rfl, ?_⟩) hHeld ?_; focus (intro w hSw; (try dsimp only at hSw); go_simp; first | done | rfl | (simp [*]; done) | (simp [*]; omega)))); simp only [PT]; (refine tk 4 (oi := ⟨some 53, _, _, _, _, _⟩) (v := ?_) rfl (by kernel_rfl) (.inl ⟨by rfl, ?_⟩) hHeld ?_; rotate_left; focus (intro w hSw; (try dsimp only at hSw); go_simp; try with_reducible rfl)); simp only [PT]; (first | (refine tk 5 (oi := ⟨some 54, _, _, _, _, _⟩) (v := undef) rfl (by kernel_rfl) (.inr ⟨by rfl, rfl⟩) hHeld ?_) | (refine tk 5 (oi := ⟨some 54, _, _, _, _, _⟩) (v := ?_) rfl (by kernel_rfl) (.inl ⟨by rfl, ?_⟩) hHeld ?_; rotate_left; focus (intro w hSw; (try dsimp only at hSw); go_simp; try with_reducible rfl))); simp only [PT]; (first | (refine tk 6 (oi := ⟨some 55, _, _, _, _, _⟩) (v := undef) rfl (by kernel_rfl) (.inr ⟨by rfl, rfl⟩) hHeld ?_) | (refine' tk 6 (oi := ⟨some 55, _, _, _, _, _⟩) (v := _) rfl (by kernel_rfl) (z0g (by rfl) 81 (.tmp 54) rfl g2 2 rfl (.slice v.ad v.n v.c) (fun _ h => h.1) rfl Try.underlying81 rfl) hHeld ?_)); simp only [PT]; (first | (refine tk 7 (oi := ⟨some 56, _, _, _, _, _⟩) (v := undef) rfl (by kernel_rfl) (.inr ⟨by rfl, rfl⟩) hHeld ?_) | (refine tk 7 (oi := ⟨some 56, _, _, _, _, _⟩) (v := ?_) rfl (by kernel_rfl) (.inl ⟨by rfl, ?_⟩) hHeld ?_; rotate_left; focus (intro w hSw; (try dsimp only at hSw); go_simp; try with_reducible rfl))); simp only [PT]; (first | (refine tk 8 (oi := ⟨some 57, _, _, _, _, _⟩) (v := undef) rfl (by kernel_rfl) (.inr ⟨by rfl, rfl⟩) hHeld ?_) | (refine tk 8 (oi := ⟨some 57, _, _, _, _, _⟩) (v := ?_) rfl (by kernel_rfl) (.inl ⟨by rfl, ?_⟩) hHeld ?_; rotate_left; focus (intro w hSw; (try dsimp only at hSw); go_simp; try with_reducible rfl))); simp only [PT]; (refine tk 9 (oi := ⟨some 58, _, _, _, _, _⟩) (v := ?_) rfl (by kernel_rfl) (.inl ⟨by rfl, ?_⟩) hHeld ?_; rotate_left; focus (intro w hSw; (try dsimp only at hSw); go_simp; try with_reducible rfl)); simp only [PT]; refine wpAnyH_ready (rs := [10]) (by kernel_rfl) (by simp) ?_; refine (AllReadyH.cons (o := ⟨none, _, _, _, _, _⟩) rfl (fun K hK => ?_) AllReadyH.nil); ((refine z0j rfl 83 (.tmp 4) (.tmp 49) rfl g4 v.cells.toArray rfl rfl HG4.out HSI.out rfl (z0v v) ?_); intro w5 hs__ hr__; replace HB := cg HB bup hr__ (by omega); replace HG2 := cg HG2 bup hr__ (by omega); replace HG3 := cg HG3 bup hr__ (by omega); clear HG4; have HG4 := Hd hs__; clear hs__ hr__); refine hK.out _ _ ?_ (fun hHeld => ?_); (focus (exact ⟨HG2.out, HG3.out⟩)); clear hK K; (try simp only [PT]); (refine tk 11 (oi := ⟨some 5, _, _, _, _, _⟩) (v := ?_) rfl (by kernel_rfl) (.inl ⟨by rfl, ?_⟩) hHeld ?_; rotate_left; focus (intro w hSw; (try dsimp only at hSw); go_simp; try with_reducible rfl)); simp only [PT]; refine wpAnyH_done (by kernel_rfl) ?_ _
    go_wp2_with fail
    (try simp only [Exit.inBlock, Exit.then, Exit.noGoto_ret])
    refine z17 (cs := (v).cells) rfl rfl (z00 HG4.out) Try.underlying83 rfl HSI.out rfl ?_
    exact ⟨v, by rw [HO.out]; first | rfl | (simp [hsec]; done), by rw [HNX.out], StV.below HX.out HB.out, HB.out⟩
theorem step7 (v : StV) (x : BlkV) (w : World) (hv : StV.mem w v) (hs : -1 ≤ v.sec ∧ v.sec ≤ 1000000000) (hn : v.n ≤ 1000000000) (h1 : ¬ x.kind = 1) (h2 : ¬ x.kind = 2) (h3 : ¬ x.kind = 3) (h6 : ¬ x.kind = 6) (h4 : ¬ x.kind = 4) :
    Calls Try.prog 67 #[.agg v.cells.toArray, .agg x.cells.toArray] w (StepR v x w) := by
  have HB := Hd (Below.refl w.heap.size w)
  have HX := Hd hv
  have HSI := Hd z3g
  have HBI := Hd z0d
  obtain ⟨hs1, hs2⟩ := hs
  have HNX : Hid (nextS v.val x.val = v.val) := Hd (by unfold nextS; rw [if_neg (show ¬ x.val.kind = 1 from h1), if_neg (show ¬ x.val.kind = 2 from h2)])
  have HKD : Hid (¬ (x.kind = 3 ∨ x.kind = 6)) := Hd (fun e => e.elim h3 h6)
  clear hv
  have hnl := (Us.len (StV.us HX.out))
  have HNL := Hd hnl
  clear hnl
  by_cases hsec : 0 ≤ v.sec
  · have HO : Hid (okS v.val x.val = true) := Hd (by unfold okS; rw [if_neg (show ¬ x.val.kind = 1 from h1), if_neg (show ¬ (x.val.kind = 3 ∨ x.val.kind = 6) from HKD.out), if_neg (show ¬ x.val.kind = 4 from h4)]; exact decide_eq_true hsec)
    go_enter Try.func67, Try.ntmps67
    go_wp2_with (first
 | ((with_reducible refine sl 2 ?_); (refine z0a rfl 83 (.tmp 0) rfl v.cells.toArray rfl ?_); intro wb2 g2 he__ le_g2 lt_g2 hg__ hb__; have HG2 := Hd hg__; have hE__ := cU HB bup hb__; replace HB := ck HB hE__; clear hE__; clear hg__ hb__ he__; simp only [PT])
 | ((with_reducible refine sl 3 ?_); (refine z0a rfl 27 (.tmp 1) rfl x.cells.toArray rfl ?_); intro wb3 g3 he__ le_g3 lt_g3 hg__ hb__; have HG3 := Hd hg__; have hE__ := cU HB bup hb__; replace HB := ck HB hE__; replace HG2 := ck HG2 hE__; clear hE__; clear hg__ hb__ he__; simp only [PT])
 | ((with_reducible refine sl 4 ?_); (refine z09 rfl 83 rfl (.agg zeroSt) zeroSt 3 (by kernel_rfl) rfl ?_); intro w4 g4 he__ le_g4 lt_g4 hg__ hb__; have lt24 := lt_of_block HG2.out; have lt34 := lt_of_block HG3.out; have HG4 := Hd hg__; have hE__ := cU HB bup hb__; replace HB := ck HB hE__; replace HG2 := ck HG2 hE__; replace HG3 := ck HG3 hE__; clear hE__; clear hg__ hb__ he__; have l24 : g2 < g4 := Nat.lt_of_lt_of_le lt24 le_g4; have l34 : g3 < g4 := Nat.lt_of_lt_of_le lt34 le_g4; simp only [PT])
 | ((with_reducible refine sl 7 ?_); (refine z01 rfl 3 (.tmp 6) rfl g3 0 rfl (.int .i64 x.kind) HG3.out rfl Try.underlying3 rfl ?_); simp only [PT]))
    refine wp_region_held_drew (S := fun u__ => u__.heap[g2]? = some (.cells v.cells.toArray 83 (0, 0)) ∧ u__.heap[g3]? = some (.cells x.cells.toArray 27 (0, 0))) (by kernel_rfl) ?_ (fun hHeld => ?_); (focus (exact ⟨HG2.out, HG3.out⟩)); refine' tk 0 (oi := ⟨some 59, _, _, _, _, _⟩) (v := _) rfl (by kernel_rfl) (yieldsIf_load_mid (by rfl) _ _ rfl _ _ rfl (v.cells) _ (fun _ h => z00 h.1) (Try.underlying83) rfl (HSI.out)) hHeld ?_; simp only [PT]; (refine tk 1 (oi := ⟨some 60, _, _, _, _, _⟩) (v := ?_) rfl (by kernel_rfl) (.inl ⟨by rfl, ?_⟩) hHeld ?_; rotate_left; focus (intro w hSw; (try dsimp only at hSw); go_simp; try with_reducible rfl)); simp only [PT]; refine' tk 2 (oi := ⟨some 61, _, _, _, _, _⟩) (v := _) rfl (by kernel_rfl) (z0g (by rfl) 3 (.tmp 60) rfl g2 0 rfl (.int .i64 v.sec) (fun _ h => h.1) rfl Try.underlying3 rfl) hHeld ?_; simp only [PT]; (first | (refine' tk 3 (oi := ⟨some 62, _, _, _, _, _⟩) (v := (.bool false)) rfl (by kernel_rfl) (.inl ⟨by rfl, ?_⟩) hHeld ?_; focus (intro w hSw; (try dsimp only at hSw); go_simp; first | done | rfl | (simp [*]; done) | (simp [*]; omega))) | (refine' tk 3 (oi := ⟨some 62, _, _, _, _, _⟩) (v := (.bool true)) rfl (by kernel_rfl) (.inl ⟨by rfl, ?_⟩) hHeld ?_; focus (intro w hSw; (try dsimp only at hSw); go_simp; first | done | rfl | (simp [*]; done) | (simp [*]; omega)))); simp only [PT]; refine wpAnyH_ready (rs := [4]) (by kernel_rfl) (by simp) ?_; refine (AllReadyH.cons (o := ⟨none, _, _, _, _, _⟩) rfl (fun K hK => ?_) AllReadyH.nil); ((refine z0j rfl 83 (.tmp 4) (.tmp 59) rfl g4 v.cells.toArray rfl rfl HG4.out HSI.out rfl (z0v v) ?_); intro w5 hs__ hr__; replace HB := cg HB bup hr__ (by omega); replace HG2 := cg HG2 bup hr__ (by omega); replace HG3 := cg HG3 bup hr__ (by omega); clear HG4; have HG4 := Hd hs__; clear hs__ hr__); refine hK.out _ _ ?_ (fun hHeld => ?_); (focus (exact ⟨HG2.out, HG3.out⟩)); clear hK K; (try simp only [PT]); (refine tk 5 (oi := ⟨some 5, _, _, _, _, _⟩) (v := ?_) rfl (by kernel_rfl) (.inl ⟨by rfl, ?_⟩) hHeld ?_; rotate_left; focus (intro w hSw; (try dsimp only at hSw); go_simp; try with_reducible rfl)); simp only [PT]; refine wpAnyH_done (by kernel_rfl) ?_ _
    go_wp2_with fail
    (try simp only [Exit.inBlock, Exit.then, Exit.noGoto_ret])
    refine z17 (cs := (v).cells) rfl rfl (z00 HG4.out) Try.underlying83 rfl HSI.out rfl ?_
    exact ⟨v, by rw [HO.out]; first | rfl | (simp [hsec]; done), by rw [HNX.out], StV.below HX.out HB.out, HB.out⟩
  · have HO : Hid (okS v.val x.val = false) := Hd (by unfold okS; rw [if_neg (show ¬ x.val.kind = 1 from h1), if_neg (show ¬ (x.val.kind = 3 ∨ x.val.kind = 6) from HKD.out), if_neg (show ¬ x.val.kind = 4 from h4)]; exact decide_eq_false hsec)
    go_enter Try.func67, Try.ntmps67
    go_wp2_with (first
 | ((with_reducible refine sl 2 ?_); (refine z0a rfl 83 (.tmp 0) rfl v.cells.toArray rfl ?_); intro wb2 g2 he__ le_g2 lt_g2 hg__ hb__; have HG2 := Hd hg__; have hE__ := cU HB bup hb__; replace HB := ck HB hE__; clear hE__; clear hg__ hb__ he__; simp only [PT])
 | ((with_reducible refine sl 3 ?_); (refine z0a rfl 27 (.tmp 1) rfl x.cells.toArray rfl ?_); intro wb3 g3 he__ le_g3 lt_g3 hg__ hb__; have HG3 := Hd hg__; have hE__ := cU HB bup hb__; replace HB := ck HB hE__; replace HG2 := ck HG2 hE__; clear hE__; clear hg__ hb__ he__; simp only [PT])
 | ((with_reducible refine sl 4 ?_); (refine z09 rfl 83 rfl (.agg zeroSt) zeroSt 3 (by kernel_rfl) rfl ?_); intro w4 g4 he__ le_g4 lt_g4 hg__ hb__; have lt24 := lt_of_block HG2.out; have lt34 := lt_of_block HG3.out; have HG4 := Hd hg__; have hE__ := cU HB bup hb__; replace HB := ck HB hE__; replace HG2 := ck HG2 hE__; replace HG3 := ck HG3 hE__; clear hE__; clear hg__ hb__ he__; have l24 : g2 < g4 := Nat.lt_of_lt_of_le lt24 le_g4; have l34 : g3 < g4 := Nat.lt_of_lt_of_le lt34 le_g4; simp only [PT])
 | ((with_reducible refine sl 7 ?_); (refine z01 rfl 3 (.tmp 6) rfl g3 0 rfl (.int .i64 x.kind) HG3.out rfl Try.underlying3 rfl ?_); simp only [PT]))
    refine wp_region_held_drew (S := fun u__ => u__.heap[g2]? = some (.cells v.cells.toArray 83 (0, 0)) ∧ u__.heap[g3]? = some (.cells x.cells.toArray 27 (0, 0))) (by kernel_rfl) ?_ (fun hHeld => ?_); (focus (exact ⟨HG2.out, HG3.out⟩)); refine' tk 0 (oi := ⟨some 59, _, _, _, _, _⟩) (v := _) rfl (by kernel_rfl) (yieldsIf_load_mid (by rfl) _ _ rfl _ _ rfl (v.cells) _ (fun _ h => z00 h.1) (Try.underlying83) rfl (HSI.out)) hHeld ?_; simp only [PT]; (refine tk 1 (oi := ⟨some 60, _, _, _, _, _⟩) (v := ?_) rfl (by kernel_rfl) (.inl ⟨by rfl, ?_⟩) hHeld ?_; rotate_left; focus (intro w hSw; (try dsimp only at hSw); go_simp; try with_reducible rfl)); simp only [PT]; refine' tk 2 (oi := ⟨some 61, _, _, _, _, _⟩) (v := _) rfl (by kernel_rfl) (z0g (by rfl) 3 (.tmp 60) rfl g2 0 rfl (.int .i64 v.sec) (fun _ h => h.1) rfl Try.underlying3 rfl) hHeld ?_; simp only [PT]; (first | (refine' tk 3 (oi := ⟨some 62, _, _, _, _, _⟩) (v := (.bool false)) rfl (by kernel_rfl) (.inl ⟨by rfl, ?_⟩) hHeld ?_; focus (intro w hSw; (try dsimp only at hSw); go_simp; first | done | rfl | (simp [*]; done) | (simp [*]; omega))) | (refine' tk 3 (oi := ⟨some 62, _, _, _, _, _⟩) (v := (.bool true)) rfl (by kernel_rfl) (.inl ⟨by rfl, ?_⟩) hHeld ?_; focus (intro w hSw; (try dsimp only at hSw); go_simp; first | done | rfl | (simp [*]; done) | (simp [*]; omega)))); simp only [PT]; refine wpAnyH_ready (rs := [4]) (by kernel_rfl) (by simp) ?_; refine (AllReadyH.cons (o := ⟨none, _, _, _, _, _⟩) rfl (fun K hK => ?_) AllReadyH.nil); ((refine z0j rfl 83 (.tmp 4) (.tmp 59) rfl g4 v.cells.toArray rfl rfl HG4.out HSI.out rfl (z0v v) ?_); intro w5 hs__ hr__; replace HB := cg HB bup hr__ (by omega); replace HG2 := cg HG2 bup hr__ (by omega); replace HG3 := cg HG3 bup hr__ (by omega); clear HG4; have HG4 := Hd hs__; clear hs__ hr__); refine hK.out _ _ ?_ (fun hHeld => ?_); (focus (exact ⟨HG2.out, HG3.out⟩)); clear hK K; (try simp only [PT]); (refine tk 5 (oi := ⟨some 5, _, _, _, _, _⟩) (v := ?_) rfl (by kernel_rfl) (.inl ⟨by rfl, ?_⟩) hHeld ?_; rotate_left; focus (intro w hSw; (try dsimp only at hSw); go_simp; try with_reducible rfl)); simp only [PT]; refine wpAnyH_done (by kernel_rfl) ?_ _
    go_wp2_with fail
    (try simp only [Exit.inBlock, Exit.then, Exit.noGoto_ret])
    refine z17 (cs := (v).cells) rfl rfl (z00 HG4.out) Try.underlying83 rfl HSI.out rfl ?_
    exact ⟨v, by rw [HO.out]; first | rfl | (simp [hsec]; done), by rw [HNX.out], StV.below HX.out HB.out, HB.out⟩
theorem step2 (v : StV) (x : BlkV) (w : World) (hv : StV.mem w v) (hs : -1 ≤ v.sec ∧ v.sec ≤ 1000000000) (hn : v.n ≤ 1000000000) (hk : x.kind = 2) :
    Calls Try.prog 67 #[.agg v.cells.toArray, .agg x.cells.toArray] w (StepR v x w) := by
  have HB := Hd (Below.refl w.heap.size w)
  have HX := Hd hv
  have HSI := Hd z3g
  have HBI := Hd z0d
  obtain ⟨hs1, hs2⟩ := hs
  have h1 : ¬ x.kind = 1 := by omega
  have HNX : Hid (nextS v.val x.val = ⟨v.sec, v.big, v.sn ++ [x.snap]⟩) := Hd (by unfold nextS; rw [if_neg (show ¬ x.val.kind = 1 from h1), if_pos (show x.val.kind = 2 from hk)]; rfl)
  have HOK : Hid (okS v.val x.val = decide (0 ≤ v.sec)) := Hd (by
    unfold okS
    rw [if_neg (show ¬ x.val.kind = 1 from h1), if_neg (show ¬ (x.val.kind = 3 ∨ x.val.kind = 6) from fun e => by have e' : x.kind = 3 ∨ x.kind = 6 := e; omega), if_neg (show ¬ x.val.kind = 4 from fun e => by have e' : x.kind = 4 := e; omega)]
    rfl)
  have h3 : ¬ x.kind = 3 := by omega
  have h4 : ¬ x.kind = 4 := by omega
  have h6 : ¬ x.kind = 6 := by omega
  have hnc : v.n ≤ v.c := (Us.le (StV.us HX.out)).1
  have hnone : v.ad = none → v.n = 0 ∧ v.n = 0 := fun e => ⟨((StV.us HX.out).2.2.2.1 e).1, ((StV.us HX.out).2.2.2.1 e).1⟩
  obtain ⟨i0, hi0, hz0, hs0, hb0⟩ := info_parts elU.info
  have HNO := Hd hnone
  have HI0 := Hd hi0
  have HIZ := Hd hz0
  have HIS := Hd hs0
  have HIB := Hd hb0
  clear hv hnone hi0 hz0 hs0 hb0
  by_cases hsec : 0 ≤ v.sec
  · have HO : Hid (okS v.val x.val = true) := Hd (by rw [HOK.out]; exact decide_eq_true hsec)
    go_enter Try.func67, Try.ntmps67
    go_wp2_with (first
 | ((with_reducible refine sl 2 ?_); (refine z0a rfl 83 (.tmp 0) rfl v.cells.toArray rfl ?_); intro wb2 g2 he__ le_g2 lt_g2 hg__ hb__; have HG2 := Hd hg__; have hE__ := cU HB bup hb__; replace HB := ck HB hE__; clear hE__; clear hg__ hb__ he__; simp only [PT])
 | ((with_reducible refine sl 3 ?_); (refine z0a rfl 27 (.tmp 1) rfl x.cells.toArray rfl ?_); intro wb3 g3 he__ le_g3 lt_g3 hg__ hb__; have HG3 := Hd hg__; have hE__ := cU HB bup hb__; replace HB := ck HB hE__; replace HG2 := ck HG2 hE__; clear hE__; clear hg__ hb__ he__; simp only [PT])
 | ((with_reducible refine sl 4 ?_); (refine z09 rfl 83 rfl (.agg zeroSt) zeroSt 3 (by kernel_rfl) rfl ?_); intro w4 g4 he__ le_g4 lt_g4 hg__ hb__; have lt24 := lt_of_block HG2.out; have lt34 := lt_of_block HG3.out; have HG4 := Hd hg__; have hE__ := cU HB bup hb__; replace HB := ck HB hE__; replace HG2 := ck HG2 hE__; replace HG3 := ck HG3 hE__; clear hE__; clear hg__ hb__ he__; have l24 : g2 < g4 := Nat.lt_of_lt_of_le lt24 le_g4; have l34 : g3 < g4 := Nat.lt_of_lt_of_le lt34 le_g4; simp only [PT])
 | ((with_reducible refine sl 7 ?_); (refine z01 rfl 3 (.tmp 6) rfl g3 0 rfl (.int .i64 x.kind) HG3.out rfl Try.underlying3 rfl ?_); simp only [PT]))
    refine wp_region_T (S := fun u__ => u__.heap[g2]? = some (.cells v.cells.toArray 83 (0, 0)) ∧ u__.heap[g3]? = some (.cells x.cells.toArray 27 (0, 0))) 14 (by kernel_rfl) ?_ (fun hHeld => ?_); (focus (exact ⟨HG2.out, HG3.out⟩)); (refine tkT 14 0 (oi := ⟨some 18, _, _, _, _, _⟩) (v := ?_) rfl (by kernel_rfl) (.inl ⟨by rfl, ?_⟩) hHeld ?_; rotate_left; focus (intro w hSw; (try dsimp only at hSw); go_simp; try with_reducible rfl)); simp only [PT]; refine' tkT 14 1 (oi := ⟨some 19, _, _, _, _, _⟩) (v := _) rfl (by kernel_rfl) (z0g (by rfl) 81 (.tmp 18) rfl g2 2 rfl (.slice v.ad v.n v.c) (fun _ h => h.1) rfl Try.underlying81 rfl) hHeld ?_; simp only [PT]; (refine tkT 14 2 (oi := ⟨some 20, _, _, _, _, _⟩) (v := ?_) rfl (by kernel_rfl) (.inl ⟨by rfl, ?_⟩) hHeld ?_; rotate_left; focus (intro w hSw; (try dsimp only at hSw); go_simp; try with_reducible rfl)); simp only [PT]; refine' tkT 14 3 (oi := ⟨some 21, _, _, _, _, _⟩) (v := _) rfl (by kernel_rfl) (z0g (by rfl) 81 (.tmp 20) rfl g2 2 rfl (.slice v.ad v.n v.c) (fun _ h => h.1) rfl Try.underlying81 rfl) hHeld ?_; simp only [PT]; (refine tkT 14 4 (oi := ⟨some 22, _, _, _, _, _⟩) (v := ?_) rfl (by kernel_rfl) (.inl ⟨by rfl, ?_⟩) hHeld ?_; rotate_left; focus (intro w hSw; (try dsimp only at hSw); go_simp; try with_reducible rfl)); simp only [PT]; (refine tkT 14 5 (oi := ⟨some 23, _, _, _, _, _⟩) (v := ?_) rfl (by kernel_rfl) (.inl ⟨by rfl, ?_⟩) hHeld ?_; rotate_left; focus (intro w hSw; (try dsimp only at hSw); go_simp; try with_reducible rfl)); simp only [PT]; refine' tkT 14 6 (oi := ⟨some 24, _, _, _, _, _⟩) (v := _) rfl (by kernel_rfl) (z0g (by rfl) 81 (.tmp 23) rfl g2 2 rfl (.slice v.ad v.n v.c) (fun _ h => h.1) rfl Try.underlying81 rfl) hHeld ?_; simp only [PT]; (refine tkT 14 7 (oi := ⟨some 25, _, _, _, _, _⟩) (v := ?_) rfl (by kernel_rfl) (.inl ⟨by rfl, ?_⟩) hHeld ?_; rotate_left; focus (intro w hSw; (try dsimp only at hSw); go_simp; try with_reducible rfl)); simp only [PT]; refine' tkT 14 8 (oi := ⟨some 26, _, _, _, _, _⟩) (v := _) rfl (by kernel_rfl) (yields_slice3 elU (by rfl) (.tmp 19) (.tmp 22) (.tmp 25) rfl rfl v.n v.n .i64 .i64 rfl rfl (Nat.le_refl _) hnc) hHeld ?_; simp only [PT]; (refine tkT 14 9 (oi := ⟨some 27, _, _, _, _, _⟩) (v := ?_) rfl (by kernel_rfl) (.inl ⟨by rfl, ?_⟩) hHeld ?_; rotate_left; focus (intro w hSw; (try dsimp only at hSw); go_simp; try with_reducible rfl)); simp only [PT]; refine' tkT 14 10 (oi := ⟨some 28, _, _, _, _, _⟩) (v := _) rfl (by kernel_rfl) (z0g (by rfl) 22 (.tmp 27) rfl g3 4 rfl (.int .u32 (x.snap : Int)) (fun _ h => h.2) rfl Try.underlying22 rfl) hHeld ?_; simp only [PT]; refine z0f (rs := [11]) (by kernel_rfl) (by simp) ?_; refine (AllReadyT.cons (o := ⟨some 29, _, _, _, _, _⟩) rfl (fun K hK => ?_) AllReadyT.nil); ((refine step_one32 rfl (.tmp 28) x.snap rfl rfl ?_); intro w6 g6 le6 hg__ hb__; have HN := Hd hg__; have hE__ := cU HB bup hb__; replace HB := ck HB hE__; replace HG2 := ck HG2 hE__; replace HG3 := ck HG3 hE__; replace HG4 := ck HG4 hE__; clear hE__; clear hg__ hb__); refine hK.out _ _ (fun _ => ?_) (fun hHeld => ?_); (focus (exact ⟨HG2.out, HG3.out⟩)); replace hHeld := hHeld (by decide); clear hK K; (try simp only [PT]); refine z0f (rs := [12]) (by kernel_rfl) (by simp) ?_; refine (AllReadyT.cons (o := ⟨some 30, _, _, _, _, _⟩) rfl (fun K hK => ?_) AllReadyT.nil)
    ((refine step_append_grows rfl (.tmp 26) (.tmp 29) 81 rfl 22 i0 _ 1 4 Try.underlying81 HI0.out HIZ.out HIS.out HIB.out rfl (by decide) v.ad v.n v.n (UV v.sn) rfl HNO.out (by rw [UV_length, Us.len (StV.us HX.out), Nat.mul_one]) (fun b hb j u hj => by obtain ⟨y, hy, hc⟩ := (Us.below (StV.us HX.out) HB.out).2.2.2.2 j u hj; rw [hb] at hy; cases hy; exact hc) ⟨g6, 0, none⟩ 1 1 [.int .u32 (x.snap : Int)] rfl rfl (fun j u hj => by rw [z36, Nat.zero_add, z1u (cs := [.int .u32 (x.snap : Int)]) HN.out]; exact hj) (by simp [Value.oneCell']) (by omega) (by unfold maxLen; omega) (by omega) ?_); intro v7 w7 hown hgr; obtain ⟨ad7, c7, rfl, _⟩ := own_forms hown; have l27 := lt_of_block HG2.out; have l46 := lt_of_block HG4.out; have HOW := Hd hown; have hb__ : Below w6.heap.size w6 w7 := (Below.refl _ _).grown hgr (Nat.le_refl _) (fun k e => by cases e); have hE__ := cU HB bup hb__; replace HB := ck HB hE__; replace HG2 := ck HG2 hE__; replace HG3 := ck HG3 hE__; replace HG4 := ck HG4 hE__; clear hE__; clear hb__ hown hgr HN); refine hK.out _ _ (fun _ => ?_) (fun hHeld => ?_); (focus (exact ⟨HG2.out, HG3.out⟩)); replace hHeld := hHeld (by decide); clear hK K; (try simp only [PT]); (refine tkT 14 13 (oi := ⟨some 31, _, _, _, _, _⟩) (v := ?_) rfl (by kernel_rfl) (.inl ⟨by rfl, ?_⟩) hHeld ?_; rotate_left; focus (intro w hSw; (try dsimp only at hSw); go_simp; try with_reducible rfl)); simp only [PT]; refine z0f (rs := [14]) (by kernel_rfl) (by simp) ?_; refine (AllReadyT.cons (o := ⟨none, _, _, _, _, _⟩) rfl (fun K hK => ?_) AllReadyT.nil); ((refine step_storeF rfl 81 (.tmp 31) (.tmp 30) rfl g2 2 (.slice ad7 (v.n + 1) c7) rfl rfl rfl HG2.out (show (2 : Nat) < 3 by decide) (by kernel_rfl) (⟨v.sec, v.big, ad7, v.n + 1, c7, v.sn ++ [x.snap]⟩ : StV).cells.toArray rfl ?_); intro w8 hs__ hr__; replace HB := cg HB bup hr__ (by omega); replace HG3 := cg HG3 bup hr__ (by omega); replace HG4 := cg HG4 bup hr__ (by omega); replace HOW := cOg HOW bup hr__ l27; clear HG2; have HG2 := Hd hs__; clear hs__ hr__); refine hK.out _ _ (fun h => absurd rfl h) (fun hHeld => ?_); clear hK K; (try simp only [PT]); refine z2a (by kernel_rfl) ?_ _
    go_wp2_with fail
    refine wp_region_held_drew (S := fun u__ => u__.heap[g2]? = some (.cells (⟨v.sec, v.big, ad7, v.n + 1, c7, v.sn ++ [x.snap]⟩ : StV).cells.toArray 83 (0, 0))) (by kernel_rfl) ?_ (fun hHeld => ?_); (focus (exact HG2.out)); refine' tk 0 (oi := ⟨some 59, _, _, _, _, _⟩) (v := _) rfl (by kernel_rfl) (yieldsIf_load_mid (by rfl) _ _ rfl _ _ rfl ((⟨v.sec, v.big, ad7, v.n + 1, c7, v.sn ++ [x.snap]⟩ : StV).cells) _ (fun _ h => z00 h) (Try.underlying83) rfl (HSI.out)) hHeld ?_; simp only [PT]; (refine tk 1 (oi := ⟨some 60, _, _, _, _, _⟩) (v := ?_) rfl (by kernel_rfl) (.inl ⟨by rfl, ?_⟩) hHeld ?_; rotate_left; focus (intro w hSw; (try dsimp only at hSw); go_simp; try with_reducible rfl)); simp only [PT]; refine' tk 2 (oi := ⟨some 61, _, _, _, _, _⟩) (v := _) rfl (by kernel_rfl) (z0g (by rfl) 3 (.tmp 60) rfl g2 0 rfl (.int .i64 v.sec) (fun _ h => h) rfl Try.underlying3 rfl) hHeld ?_; simp only [PT]; (first | (refine' tk 3 (oi := ⟨some 62, _, _, _, _, _⟩) (v := (.bool false)) rfl (by kernel_rfl) (.inl ⟨by rfl, ?_⟩) hHeld ?_; focus (intro w hSw; (try dsimp only at hSw); go_simp; first | done | rfl | (simp [*]; done) | (simp [*]; omega))) | (refine' tk 3 (oi := ⟨some 62, _, _, _, _, _⟩) (v := (.bool true)) rfl (by kernel_rfl) (.inl ⟨by rfl, ?_⟩) hHeld ?_; focus (intro w hSw; (try dsimp only at hSw); go_simp; first | done | rfl | (simp [*]; done) | (simp [*]; omega)))); simp only [PT]; refine wpAnyH_ready (rs := [4]) (by kernel_rfl) (by simp) ?_; refine (AllReadyH.cons (o := ⟨none, _, _, _, _, _⟩) rfl (fun K hK => ?_) AllReadyH.nil); ((refine z0j rfl 83 (.tmp 4) (.tmp 59) rfl g4 (⟨v.sec, v.big, ad7, v.n + 1, c7, v.sn ++ [x.snap]⟩ : StV).cells.toArray rfl rfl HG4.out HSI.out rfl (z0v _) ?_); intro w9 hs__ hr__; replace HB := cg HB bup hr__ (by omega); replace HG2 := cg HG2 bup hr__ (by omega); replace HOW := cOg HOW bup hr__ l46; clear HG4; have HG4 := Hd hs__; clear hs__ hr__); refine hK.out _ _ ?_ (fun hHeld => ?_); (focus (exact HG2.out)); clear hK K; (try simp only [PT]); (refine tk 5 (oi := ⟨some 5, _, _, _, _, _⟩) (v := ?_) rfl (by kernel_rfl) (.inl ⟨by rfl, ?_⟩) hHeld ?_; rotate_left; focus (intro w hSw; (try dsimp only at hSw); go_simp; try with_reducible rfl)); simp only [PT]; refine wpAnyH_done (by kernel_rfl) ?_ _
    go_wp2_with fail
    (try simp only [Exit.inBlock, Exit.then, Exit.noGoto_ret])
    refine z17 (cs := (⟨v.sec, v.big, ad7, v.n + 1, c7, v.sn ++ [x.snap]⟩ : StV).cells) rfl rfl (z00 HG4.out) Try.underlying83 rfl HSI.out rfl ?_
    exact ⟨⟨v.sec, v.big, ad7, v.n + 1, c7, v.sn ++ [x.snap]⟩, by rw [HO.out]; rfl, by rw [HNX.out]; rfl, by have h := z0r HOW.out (Nat.zero_le _); show World.ownsRow _ 0 22 1 (.slice ad7 (v.n + 1) c7) (v.n + 1) (UV (v.sn ++ [x.snap])); rw [show UV (v.sn ++ [x.snap]) = UV v.sn ++ [.int .u32 (x.snap : Int)] by simp [UV]]; exact h, HB.out⟩
  · have HO : Hid (okS v.val x.val = false) := Hd (by rw [HOK.out]; exact decide_eq_false hsec)
    go_enter Try.func67, Try.ntmps67
    go_wp2_with (first
 | ((with_reducible refine sl 2 ?_); (refine z0a rfl 83 (.tmp 0) rfl v.cells.toArray rfl ?_); intro wb2 g2 he__ le_g2 lt_g2 hg__ hb__; have HG2 := Hd hg__; have hE__ := cU HB bup hb__; replace HB := ck HB hE__; clear hE__; clear hg__ hb__ he__; simp only [PT])
 | ((with_reducible refine sl 3 ?_); (refine z0a rfl 27 (.tmp 1) rfl x.cells.toArray rfl ?_); intro wb3 g3 he__ le_g3 lt_g3 hg__ hb__; have HG3 := Hd hg__; have hE__ := cU HB bup hb__; replace HB := ck HB hE__; replace HG2 := ck HG2 hE__; clear hE__; clear hg__ hb__ he__; simp only [PT])
 | ((with_reducible refine sl 4 ?_); (refine z09 rfl 83 rfl (.agg zeroSt) zeroSt 3 (by kernel_rfl) rfl ?_); intro w4 g4 he__ le_g4 lt_g4 hg__ hb__; have lt24 := lt_of_block HG2.out; have lt34 := lt_of_block HG3.out; have HG4 := Hd hg__; have hE__ := cU HB bup hb__; replace HB := ck HB hE__; replace HG2 := ck HG2 hE__; replace HG3 := ck HG3 hE__; clear hE__; clear hg__ hb__ he__; have l24 : g2 < g4 := Nat.lt_of_lt_of_le lt24 le_g4; have l34 : g3 < g4 := Nat.lt_of_lt_of_le lt34 le_g4; simp only [PT])
 | ((with_reducible refine sl 7 ?_); (refine z01 rfl 3 (.tmp 6) rfl g3 0 rfl (.int .i64 x.kind) HG3.out rfl Try.underlying3 rfl ?_); simp only [PT]))
    refine wp_region_T (S := fun u__ => u__.heap[g2]? = some (.cells v.cells.toArray 83 (0, 0)) ∧ u__.heap[g3]? = some (.cells x.cells.toArray 27 (0, 0))) 14 (by kernel_rfl) ?_ (fun hHeld => ?_); (focus (exact ⟨HG2.out, HG3.out⟩)); (refine tkT 14 0 (oi := ⟨some 18, _, _, _, _, _⟩) (v := ?_) rfl (by kernel_rfl) (.inl ⟨by rfl, ?_⟩) hHeld ?_; rotate_left; focus (intro w hSw; (try dsimp only at hSw); go_simp; try with_reducible rfl)); simp only [PT]; refine' tkT 14 1 (oi := ⟨some 19, _, _, _, _, _⟩) (v := _) rfl (by kernel_rfl) (z0g (by rfl) 81 (.tmp 18) rfl g2 2 rfl (.slice v.ad v.n v.c) (fun _ h => h.1) rfl Try.underlying81 rfl) hHeld ?_; simp only [PT]; (refine tkT 14 2 (oi := ⟨some 20, _, _, _, _, _⟩) (v := ?_) rfl (by kernel_rfl) (.inl ⟨by rfl, ?_⟩) hHeld ?_; rotate_left; focus (intro w hSw; (try dsimp only at hSw); go_simp; try with_reducible rfl)); simp only [PT]; refine' tkT 14 3 (oi := ⟨some 21, _, _, _, _, _⟩) (v := _) rfl (by kernel_rfl) (z0g (by rfl) 81 (.tmp 20) rfl g2 2 rfl (.slice v.ad v.n v.c) (fun _ h => h.1) rfl Try.underlying81 rfl) hHeld ?_; simp only [PT]; (refine tkT 14 4 (oi := ⟨some 22, _, _, _, _, _⟩) (v := ?_) rfl (by kernel_rfl) (.inl ⟨by rfl, ?_⟩) hHeld ?_; rotate_left; focus (intro w hSw; (try dsimp only at hSw); go_simp; try with_reducible rfl)); simp only [PT]; (refine tkT 14 5 (oi := ⟨some 23, _, _, _, _, _⟩) (v := ?_) rfl (by kernel_rfl) (.inl ⟨by rfl, ?_⟩) hHeld ?_; rotate_left; focus (intro w hSw; (try dsimp only at hSw); go_simp; try with_reducible rfl)); simp only [PT]; refine' tkT 14 6 (oi := ⟨some 24, _, _, _, _, _⟩) (v := _) rfl (by kernel_rfl) (z0g (by rfl) 81 (.tmp 23) rfl g2 2 rfl (.slice v.ad v.n v.c) (fun _ h => h.1) rfl Try.underlying81 rfl) hHeld ?_; simp only [PT]; (refine tkT 14 7 (oi := ⟨some 25, _, _, _, _, _⟩) (v := ?_) rfl (by kernel_rfl) (.inl ⟨by rfl, ?_⟩) hHeld ?_; rotate_left; focus (intro w hSw; (try dsimp only at hSw); go_simp; try with_reducible rfl)); simp only [PT]; refine' tkT 14 8 (oi := ⟨some 26, _, _, _, _, _⟩) (v := _) rfl (by kernel_rfl) (yields_slice3 elU (by rfl) (.tmp 19) (.tmp 22) (.tmp 25) rfl rfl v.n v.n .i64 .i64 rfl rfl (Nat.le_refl _) hnc) hHeld ?_; simp only [PT]; (refine tkT 14 9 (oi := ⟨some 27, _, _, _, _, _⟩) (v := ?_) rfl (by kernel_rfl) (.inl ⟨by rfl, ?_⟩) hHeld ?_; rotate_left; focus (intro w hSw; (try dsimp only at hSw); go_simp; try with_reducible rfl)); simp only [PT]; refine' tkT 14 10 (oi := ⟨some 28, _, _, _, _, _⟩) (v := _) rfl (by kernel_rfl) (z0g (by rfl) 22 (.tmp 27) rfl g3 4 rfl (.int .u32 (x.snap : Int)) (fun _ h => h.2) rfl Try.underlying22 rfl) hHeld ?_; simp only [PT]; refine z0f (rs := [11]) (by kernel_rfl) (by simp) ?_; refine (AllReadyT.cons (o := ⟨some 29, _, _, _, _, _⟩) rfl (fun K hK => ?_) AllReadyT.nil); ((refine step_one32 rfl (.tmp 28) x.snap rfl rfl ?_); intro w6 g6 le6 hg__ hb__; have HN := Hd hg__; have hE__ := cU HB bup hb__; replace HB := ck HB hE__; replace HG2 := ck HG2 hE__; replace HG3 := ck HG3 hE__; replace HG4 := ck HG4 hE__; clear hE__; clear hg__ hb__); refine hK.out _ _ (fun _ => ?_) (fun hHeld => ?_); (focus (exact ⟨HG2.out, HG3.out⟩)); replace hHeld := hHeld (by decide); clear hK K; (try simp only [PT]); refine z0f (rs := [12]) (by kernel_rfl) (by simp) ?_; refine (AllReadyT.cons (o := ⟨some 30, _, _, _, _, _⟩) rfl (fun K hK => ?_) AllReadyT.nil)
    ((refine step_append_grows rfl (.tmp 26) (.tmp 29) 81 rfl 22 i0 _ 1 4 Try.underlying81 HI0.out HIZ.out HIS.out HIB.out rfl (by decide) v.ad v.n v.n (UV v.sn) rfl HNO.out (by rw [UV_length, Us.len (StV.us HX.out), Nat.mul_one]) (fun b hb j u hj => by obtain ⟨y, hy, hc⟩ := (Us.below (StV.us HX.out) HB.out).2.2.2.2 j u hj; rw [hb] at hy; cases hy; exact hc) ⟨g6, 0, none⟩ 1 1 [.int .u32 (x.snap : Int)] rfl rfl (fun j u hj => by rw [z36, Nat.zero_add, z1u (cs := [.int .u32 (x.snap : Int)]) HN.out]; exact hj) (by simp [Value.oneCell']) (by omega) (by unfold maxLen; omega) (by omega) ?_); intro v7 w7 hown hgr; obtain ⟨ad7, c7, rfl, _⟩ := own_forms hown; have l27 := lt_of_block HG2.out; have l46 := lt_of_block HG4.out; have HOW := Hd hown; have hb__ : Below w6.heap.size w6 w7 := (Below.refl _ _).grown hgr (Nat.le_refl _) (fun k e => by cases e); have hE__ := cU HB bup hb__; replace HB := ck HB hE__; replace HG2 := ck HG2 hE__; replace HG3 := ck HG3 hE__; replace HG4 := ck HG4 hE__; clear hE__; clear hb__ hown hgr HN); refine hK.out _ _ (fun _ => ?_) (fun hHeld => ?_); (focus (exact ⟨HG2.out, HG3.out⟩)); replace hHeld := hHeld (by decide); clear hK K; (try simp only [PT]); (refine tkT 14 13 (oi := ⟨some 31, _, _, _, _, _⟩) (v := ?_) rfl (by kernel_rfl) (.inl ⟨by rfl, ?_⟩) hHeld ?_; rotate_left; focus (intro w hSw; (try dsimp only at hSw); go_simp; try with_reducible rfl)); simp only [PT]; refine z0f (rs := [14]) (by kernel_rfl) (by simp) ?_; refine (AllReadyT.cons (o := ⟨none, _, _, _, _, _⟩) rfl (fun K hK => ?_) AllReadyT.nil); ((refine step_storeF rfl 81 (.tmp 31) (.tmp 30) rfl g2 2 (.slice ad7 (v.n + 1) c7) rfl rfl rfl HG2.out (show (2 : Nat) < 3 by decide) (by kernel_rfl) (⟨v.sec, v.big, ad7, v.n + 1, c7, v.sn ++ [x.snap]⟩ : StV).cells.toArray rfl ?_); intro w8 hs__ hr__; replace HB := cg HB bup hr__ (by omega); replace HG3 := cg HG3 bup hr__ (by omega); replace HG4 := cg HG4 bup hr__ (by omega); replace HOW := cOg HOW bup hr__ l27; clear HG2; have HG2 := Hd hs__; clear hs__ hr__); refine hK.out _ _ (fun h => absurd rfl h) (fun hHeld => ?_); clear hK K; (try simp only [PT]); refine z2a (by kernel_rfl) ?_ _
    go_wp2_with fail
    refine wp_region_held_drew (S := fun u__ => u__.heap[g2]? = some (.cells (⟨v.sec, v.big, ad7, v.n + 1, c7, v.sn ++ [x.snap]⟩ : StV).cells.toArray 83 (0, 0))) (by kernel_rfl) ?_ (fun hHeld => ?_); (focus (exact HG2.out)); refine' tk 0 (oi := ⟨some 59, _, _, _, _, _⟩) (v := _) rfl (by kernel_rfl) (yieldsIf_load_mid (by rfl) _ _ rfl _ _ rfl ((⟨v.sec, v.big, ad7, v.n + 1, c7, v.sn ++ [x.snap]⟩ : StV).cells) _ (fun _ h => z00 h) (Try.underlying83) rfl (HSI.out)) hHeld ?_; simp only [PT]; (refine tk 1 (oi := ⟨some 60, _, _, _, _, _⟩) (v := ?_) rfl (by kernel_rfl) (.inl ⟨by rfl, ?_⟩) hHeld ?_; rotate_left; focus (intro w hSw; (try dsimp only at hSw); go_simp; try with_reducible rfl)); simp only [PT]; refine' tk 2 (oi := ⟨some 61, _, _, _, _, _⟩) (v := _) rfl (by kernel_rfl) (z0g (by rfl) 3 (.tmp 60) rfl g2 0 rfl (.int .i64 v.sec) (fun _ h => h) rfl Try.underlying3 rfl) hHeld ?_; simp only [PT]; (first | (refine' tk 3 (oi := ⟨some 62, _, _, _, _, _⟩) (v := (.bool false)) rfl (by kernel_rfl) (.inl ⟨by rfl, ?_⟩) hHeld ?_; focus (intro w hSw; (try dsimp only at hSw); go_simp; first | done | rfl | (simp [*]; done) | (simp [*]; omega))) | (refine' tk 3 (oi := ⟨some 62, _, _, _, _, _⟩) (v := (.bool true)) rfl (by kernel_rfl) (.inl ⟨by rfl, ?_⟩) hHeld ?_; focus (intro w hSw; (try dsimp only at hSw); go_simp; first | done | rfl | (simp [*]; done) | (simp [*]; omega)))); simp only [PT]; refine wpAnyH_ready (rs := [4]) (by kernel_rfl) (by simp) ?_; refine (AllReadyH.cons (o := ⟨none, _, _, _, _, _⟩) rfl (fun K hK => ?_) AllReadyH.nil); ((refine z0j rfl 83 (.tmp 4) (.tmp 59) rfl g4 (⟨v.sec, v.big, ad7, v.n + 1, c7, v.sn ++ [x.snap]⟩ : StV).cells.toArray rfl rfl HG4.out HSI.out rfl (z0v _) ?_); intro w9 hs__ hr__; replace HB := cg HB bup hr__ (by omega); replace HG2 := cg HG2 bup hr__ (by omega); replace HOW := cOg HOW bup hr__ l46; clear HG4; have HG4 := Hd hs__; clear hs__ hr__); refine hK.out _ _ ?_ (fun hHeld => ?_); (focus (exact HG2.out)); clear hK K; (try simp only [PT]); (refine tk 5 (oi := ⟨some 5, _, _, _, _, _⟩) (v := ?_) rfl (by kernel_rfl) (.inl ⟨by rfl, ?_⟩) hHeld ?_; rotate_left; focus (intro w hSw; (try dsimp only at hSw); go_simp; try with_reducible rfl)); simp only [PT]; refine wpAnyH_done (by kernel_rfl) ?_ _
    go_wp2_with fail
    (try simp only [Exit.inBlock, Exit.then, Exit.noGoto_ret])
    refine z17 (cs := (⟨v.sec, v.big, ad7, v.n + 1, c7, v.sn ++ [x.snap]⟩ : StV).cells) rfl rfl (z00 HG4.out) Try.underlying83 rfl HSI.out rfl ?_
    exact ⟨⟨v.sec, v.big, ad7, v.n + 1, c7, v.sn ++ [x.snap]⟩, by rw [HO.out]; rfl, by rw [HNX.out]; rfl, by have h := z0r HOW.out (Nat.zero_le _); show World.ownsRow _ 0 22 1 (.slice ad7 (v.n + 1) c7) (v.n + 1) (UV (v.sn ++ [x.snap])); rw [show UV (v.sn ++ [x.snap]) = UV v.sn ++ [.int .u32 (x.snap : Int)] by simp [UV]]; exact h, HB.out⟩
theorem step_any (v : StV) (x : BlkV) (w : World) (hv : StV.mem w v) (hs : -1 ≤ v.sec ∧ v.sec ≤ 1000000000) (hn : v.n ≤ 1000000000) :
    Calls Try.prog 67 #[.agg v.cells.toArray, .agg x.cells.toArray] w (StepR v x w) := by
  by_cases h1 : x.kind = 1
  · exact step1 v x w hv hs hn h1
  by_cases h2 : x.kind = 2
  · exact step2 v x w hv hs hn h2
  by_cases h3 : x.kind = 3
  · exact step3 v x w hv hs hn h3
  by_cases h4 : x.kind = 4
  · exact step4 v x w hv hs hn h4
  by_cases h6 : x.kind = 6
  · exact step6 v x w hv hs hn h6
  · exact step7 v x w hv hs hn h1 h2 h3 h6 h4
def bcells (vs : List BlkV) : List Value := vs.flatMap BlkV.cells
def bvals (vs : List BlkV) : List PB := vs.map BlkV.val
def Blks (w : World) (ad : Option Addr) (n c : Nat) (vs : List BlkV) : Prop := Sl w ad n c 11 (bcells vs) ∧ ∀ v ∈ vs, Blk w v
theorem bcell_len (v : BlkV) : v.cells.length = 11 := rfl
theorem bcells_length (vs : List BlkV) : (bcells vs).length = vs.length * 11 := by
  induction vs with
  | nil => rfl
  | cons v vs ih =>
    have e : bcells (v :: vs) = v.cells ++ bcells vs := rfl
    rw [e, List.length_append, bcell_len, ih, List.length_cons]
    omega
theorem bcells_one (vs : List BlkV) : ∀ u ∈ bcells vs, u.oneCell' = true := by
  intro u hu
  obtain ⟨v, _, h⟩ := List.mem_flatMap.1 hu
  have := z0h v
  rw [List.all_toArray] at this
  exact List.all_eq_true.1 this u h
theorem bcells_get : ∀ (vs : List BlkV) (i j : Nat) (hi : i < vs.length) (hj : j < 11), (bcells vs)[i * 11 + j]? = vs[i].cells[j]?
  | v :: vs, 0, j, _, hj => by
    have e : bcells (v :: vs) = v.cells ++ bcells vs := rfl
    rw [e, Nat.zero_mul, Nat.zero_add, List.getElem?_append_left (by rw [bcell_len]; exact hj)]
    rfl
  | v :: vs, i + 1, j, hi, hj => by
    have e : bcells (v :: vs) = v.cells ++ bcells vs := rfl
    rw [e, List.getElem?_append_right (by rw [bcell_len]; omega), bcell_len, show (i + 1) * 11 + j - 11 = i * 11 + j by omega]
    exact bcells_get vs i j (by simpa using hi) hj
theorem z2k (vs : List BlkV) : (bvals vs).length = vs.length := by simp [bvals]
theorem Blks.len {w : World} {ad : Option Addr} {n c : Nat} {vs : List BlkV} (h : Blks w ad n c vs) : n = vs.length := by have := h.1.len; rw [bcells_length] at this; omega
theorem Blks.le {w : World} {ad : Option Addr} {n c : Nat} {vs : List BlkV} (h : Blks w ad n c vs) : n ≤ c ∧ c ≤ 9223372036854775807 := ⟨h.1.2.1, by have := h.1.2.2.1; simp [maxLen] at this; omega⟩
theorem Blks.below {w w' : World} {ad : Option Addr} {n c : Nat} {vs : List BlkV} (h : Blks w ad n c vs) (hb : Below w.heap.size w w') : Blks w' ad n c vs := ⟨h.1.below hb, fun v hv => (h.2 v hv).below hb⟩
theorem Blks.nil (w : World) : Blks w none 0 0 [] := ⟨Sl.nil w 11, fun v hv => by cases hv⟩
instance {w w' : World} {ad : Option Addr} {n c : Nat} {vs : List BlkV} : Ck (Blks w ad n c vs) w' w (Blks w' ad n c vs) := ⟨fun h hE => h.below hE⟩
theorem Blks.at {w : World} {ad : Option Addr} {n c : Nat} {vs : List BlkV} (h : Blks w ad n c vs) (h0 : 0 < vs.length) :
    ∃ b off, ad = some ⟨b, off, none⟩ ∧ b < w.heap.size ∧ ∀ i (hi : i < vs.length), w.rangeAt b (off + i * 11) vs[i].cells := by
  obtain ⟨b, off, ha, hb, hc⟩ := Sl.at h.1 (j := 0) (by rw [bcells_length]; omega)
  refine ⟨b, off, ha, hb, fun i hi j u hj => ?_⟩
  have hj11 : j < 11 := by have := (List.getElem?_eq_some_iff.1 hj).1; rwa [bcell_len] at this
  have hg := bcells_get vs i j hi hj11
  rw [hj] at hg
  obtain ⟨hl, he⟩ := List.getElem?_eq_some_iff.1 hg
  have := hc (i * 11 + j) hl
  rw [he] at this
  rw [Nat.add_assoc]
  exact this
end Go.Proofs.Ytmfplinbbcoahaa
namespace Go.Proofs.Ytmfplinbbcoahaa
open Go.RowKit Go.Sort Go.Shelf
def SeqAll {α : Type} (F : Fence) (n : Nat) (P : Program) (g : Nat) (lb : Array Value) (encs : α → Array Value) (Kp : World → World → Prop) (St : Nat → World → World → Prop) (S : List α → World → Prop) (Pa : α → World → Prop) (N : Nat) (w : World) : Prop :=
  ∀ (l : Nat) (J : List α → World → Prop) (W : World), Below w.heap.size w W → (∀ s A B, J s A → St W.heap.size A B → J s B) →
    (∀ pre x W1, J pre W1 → Pa x W1 → pre.length < N → YieldAt F (n - 1) P l (encs x) W1 fun e W' => e = .returned (.bool true) ∧ J (pre ++ [x]) W' ∧ Kp W1 W') →
    J [] W →
    CallsIn F n P g (#[.func (.yield l) #[] #[]] ++ lb) W fun e W' => (∃ v, e = .returned v) ∧ ∃ xs, S xs W' ∧ J xs W'
def goesOn {α : Type} (B : Nat) (Kp : World → World → Prop) (I : List α → World → Prop) (xs : List α) (W : World) : Exit → Act → World → Prop
  | .normal, _, W' => KeepsFrom B W W' ∧ Kp W W' ∧ I xs W'
  | _, _, _ => False
variable {F : Fence} {n : Nat} {P : Program}
theorem z2m {α : Type} {g : Operand} {ps : Array Tmp} {assign body : Code} {Q : Exit → Act → World → Prop} {a : Act} {w : World}
    (hro : F.round = none) (h1 : 1 ≤ n) {gf : Nat} {lb : Array Value} (hg : a.eval g = .func (.func gf) #[] lb) (hFg : F.fn gf) (eg : ∀ args w, (callFunc gf args).run P w = .ok (.enter gf args) w)
    {encs : α → Array Value} {Kp : World → World → Prop} {St : Nat → World → World → Prop} {S : List α → World → Prop} {Pa : α → World → Prop} {N : Nat} {w0 : World} (hseq : SeqAll F (n - 1) P gf lb encs Kp St S Pa N w0)
    (hKt : ∀ {A B C : World}, Kp A B → Kp B C → Kp A C) (hKb : ∀ (W : World) (l : Nat) (o o' : Obj), w.heap.size ≤ l → W.heap[l]? = some o → o.isCells = false → o.isWalk = false → Kp W (W.putObj l o')) (hb0 : Below w0.heap.size w0 w) (hps : ∀ x, (encs x).size = ps.size)
    (hSt : ∀ m A B k ob, St m A B → w.heap.size ≤ k → k < m → ob.isCells = false → A.heap[k]? = some ob → B.heap[k]? = some ob)
    (I : List α → World → Prop) (hI : OwnFrom w.heap.size I) (hIS : ∀ s A B m, w.heap.size ≤ m → I s A → St m A B → I s B) (hS : OwnFrom w.heap.size S) (h0 : I [] w)
    (Ax : α → Act → World → Prop) (hAx : ∀ x a', OwnFrom w.heap.size (fun (_ : Unit) W => Ax x a' W))
    (hassign : ∀ (l : Nat) (pre : List α) (x : α) (W : World) (K : Act → World → Prop), I pre W → Pa x W → (∀ a' W', KeepsFrom w.heap.size W W' → Kp W W' → I pre W' → Ax x a' W' → K a' W') →
      assign.wpIn (F.inRound l) (n - 1 - 1) P (Exit.then K (fun _ _ _ => False)) { tmps := (ps.zip (encs x)).foldl (fun t (p, v) => t.setIfInBounds p v) a.tmps, defers := [] } W)
    (hbody : ∀ (l : Nat) (pre : List α) (x : α) (a' : Act) (W : World), w.heap.size ≤ l → I pre W → Ax x a' W → pre.length < N → body.wpIn (F.inRound l) (n - 1 - 1) P (goesOn w.heap.size Kp I (pre ++ [x]) W) a' W)
    (hdone : ∀ (D : Nat) (xs : List α) (W : World), w.heap.size ≤ D → S xs W → I xs W → W.heap[D]? = some (.deferred (some [])) → Q .normal { a with defers := { target := .collected D, args := #[] } :: a.defers } W) :
    (Code.rangeFunc g ps assign body).wpIn F n P Q a w := by
  refine wpIn_rangeFunc fun fn hfn => ?_
  rw [hro]
  -- the loop's record, by its state
  obtain ⟨rc, hrc⟩ : ∃ rc : LoopState → Loop, rc = fun st => { state := st, pending := none, fn, tmps := a.tmps, params := ps, assign, body, defers := w.heap.size } := ⟨_, rfl⟩
  obtain ⟨V, hV⟩ : ∃ V, V = (w.alloc (.deferred (some []))).alloc (.loop (rc .ready)) := ⟨_, rfl⟩
  have hVs : V.heap.size = w.heap.size + 1 + 1 := by rw [hV]; simp
  have hl0 : V.heap[w.heap.size + 1]? = some (.loop (rc .ready)) := by
    have h := World.alloc_heap_new (w.alloc (.deferred (some []))) (.loop (rc .ready))
    rw [World.size_alloc] at h
    rw [hV]
    exact h
  have hd0 : V.heap[w.heap.size]? = some (.deferred (some [])) := by
    rw [hV]
    exact (Below.heap_alloc _ _ _ (by simp)).trans (World.alloc_heap_new w _)
  refine ⟨w.heap.size + 1, [{ target := .collected w.heap.size, args := #[] }], V, { target := .fn (.func gf) lb, args := #[.func (.yield (w.heap.size + 1)) #[] #[]] }, V, gf,
    #[.func (.yield (w.heap.size + 1)) #[] #[]] ++ lb, V, ?_, ?_, ?_, ?_, fun _ => h1, ?_⟩
  · rw [hV, hrc]
    exact run_enterLoop_outer _ _ _ _ _
  · simp only [resolve, hg]
    simp [go_sem]
  · intro f' hf'
    simp [Target.leads] at hf'
    subst hf'
    exact hFg
  · simp [invoke, go_sem, eg]
  have hbV : Below w0.heap.size w0 V := by
    rw [hV]
    exact hb0.trans ((((Below.refl _ w).alloc (Nat.le_refl _) _).alloc (by simp) _).mono hb0.size)
  have hIV : I [] V := by rw [hV]; exact hI.alloc _ (hI.alloc _ h0)
  refine (hseq (w.heap.size + 1) (fun pre W => I pre W ∧ W.heap[w.heap.size + 1]? = some (.loop (rc .ready)) ∧ W.heap[w.heap.size]? = some (.deferred (some []))) V hbV
    (fun s A B h st => ⟨hIS s A B _ (by omega) h.1 st, hSt _ A B _ _ st (by omega) (by omega) rfl h.2.1, hSt _ A B _ _ st (Nat.le_refl _) (by omega) rfl h.2.2⟩) ?_ ⟨hIV, hl0, hd0⟩).mono ?_
  · -- a round
    rintro pre x W ⟨hi, hl, hd⟩ hpa hlen
    have hy := run_yield (P := P) (args := encs x) hl (by rw [hrc]; exact hps x)
    rw [hrc] at hy
    refine ⟨fn, _, assign, body, hy, roundIn_of_wpIn hfn (hassign _ pre x W _ hi hpa fun a' Wa hkf hkp hia hax => ?_)⟩
    have hla := hkf.same _ _ (by omega) hl rfl
    have hda := hkf.same _ _ (Nat.le_refl _) hd rfl
    refine ⟨_, run_beginRound hla (by rw [hrc]), ?_⟩
    obtain ⟨Wb, hWb⟩ : ∃ Wb, Wb = Wa.putObj (w.heap.size + 1) (.loop { rc .ready with state := .busy }) := ⟨_, rfl⟩
    have hlb : Wb.heap[w.heap.size + 1]? = some (.loop { rc .ready with state := .busy }) := by rw [hWb]; exact World.putObj_heap_same (lt_of_block hla)
    have hdb : Wb.heap[w.heap.size]? = some (.deferred (some [])) := by rw [hWb]; exact (World.putObj_heap_other (by omega)).trans hda
    have hkb : Kp Wa Wb := by rw [hWb]; exact hKb _ _ _ _ (by omega) hla rfl rfl
    have hib : I pre Wb := by rw [hWb]; exact hI.putObj _ hia (by omega) hla rfl
    have hab : Ax x a' Wb := by rw [hWb]; exact (hAx x a').putObj (s := ()) _ hax (by omega) hla rfl
    rw [← hWb]
    refine wpIn_mono (hbody _ pre x a' Wb (by omega) hib hab hlen) ?_
    rintro e a3 W3 hp
    cases e with
    | normal =>
      obtain ⟨hk3, hkp3, hi3⟩ := hp
      have hl3 := hk3.same _ _ (by omega) hlb rfl
      have hd3 := hk3.same _ _ (Nat.le_refl _) hdb rfl
      have hr := run_endRound (P := P) none hl3
      rw [hrc] at hr hl3
      have hr' : (Instr.endRound (w.heap.size + 1) none).run P W3 = .ok (.bool (none : Option Code).isNone) (W3.putObj (w.heap.size + 1) (.loop (rc .ready))) := by rw [hrc]; exact hr
      refine ⟨_, _, hr', rfl, ⟨hI.putObj _ hi3 (by omega) hl3 rfl, World.putObj_heap_same (lt_of_block hl3), (World.putObj_heap_other (by omega)).trans hd3⟩, ?_⟩
      exact hKt hkp (hKt (hKt hkb hkp3) (hKb _ _ _ _ (by omega) hl3 rfl rfl))
    | ret => exact hp.elim
    | exit id => exact hp.elim
    | goto t => exact hp.elim
    | panic ch => exact hp.elim
    | outgrown => exact hp.elim
  · -- behind it
    rintro e W2 ⟨⟨v, rfl⟩, xs, hs, hi, hl, hd⟩
    refine ⟨none, _, by have := run_endLoop (P := P) hl (by rw [hrc]; simp); rw [hrc] at this; exact this, ?_⟩
    rw [hrc] at hl
    exact hdone _ xs _ (Nat.le_refl _) (hS.putObj _ hs (by omega) hl rfl) (hI.putObj _ hi (by omega) hl rfl) ((World.putObj_heap_other (by omega)).trans hd)
section
variable {F : Fence} {n : Nat} {P : Program} {ops : Array Oper} {Q : Exit → Act → World → Prop} {a : Act} {w w' : World} {rest : List Oper} {o : Oper}
theorem slI {op : Op} {ty : TypeId} {pos : String} {af : Array Edge} {gd : Option (Nat × Bool)} (k : Nat) (h : wpListIn F n P ops Q (⟨some k, op, ty, pos, af, gd⟩ :: rest) a w) : wpListIn F n P ops Q (⟨some k, op, ty, pos, af, gd⟩ :: rest) a w := h
theorem wpLI_run (hF : ∀ f, F.fn f) (hgd : Region.wanted o (yielded ops a.tmps) = true) {v : Value} (hnd : ∀ c, o.op ≠ .defer c) (hrun : (execOp a.eval o).run P w = .ok (.value v) w') (h : wpListIn F n P ops Q rest (a.put o.dst v) w') : wpListIn F n P ops Q (o :: rest) a w := by
  refine wpListIn_step fun K hK => ?_
  rw [if_pos hgd]
  refine ⟨fun f _ => hF f, ?_⟩
  rw [Oper.semAt_eq _ _ _ hnd, hrun]
  exact hK _ _ h
theorem wpLI_skip (hF : ∀ f, F.fn f) (hgd : Region.wanted o (yielded ops a.tmps) = true) (hnd : ∀ c, o.op ≠ .defer c) (hrun : (execOp a.eval o).run P w = .ok .skip w') (h : wpListIn F n P ops Q rest (a.put o.dst undef) w') : wpListIn F n P ops Q (o :: rest) a w := by
  refine wpListIn_step fun K hK => ?_
  rw [if_pos hgd]
  refine ⟨fun f _ => hF f, ?_⟩
  rw [Oper.semAt_eq _ _ _ hnd, hrun]
  exact hK _ _ h
theorem z1b (hF : ∀ f, F.fn f) (hgd : Region.wanted o (yielded ops a.tmps) = true) (ty : TypeId) (x : Operand) (ho : o.op = .load ty x)
    (b off : Nat) (hx : a.eval x = .pointer (some ⟨b, off, none⟩)) (cs : List Value) (d : TypeDesc) (hc : w.rangeAt b off cs)
    (hu : P.underlying ty = some d) (hd : d.isRow = true) (hi : (P.info? ty).map (·.size) = some cs.length)
    (h : wpListIn F n P ops Q rest (a.put o.dst (.agg cs.toArray)) w) : wpListIn F n P ops Q (o :: rest) a w := by
  refine wpLI_run hF hgd (by rw [ho]; intro c e; cases e) ?_ h
  unfold execOp
  simp only [ho, hx, Instr.loadAt, Instr.sureAddr, Sem.run_bind, Sem.run_pure, Result.andThen_ok, run_loadVar_mid w b off ty cs d hc hu hd hi]
theorem z0e (hF : ∀ f, F.fn f) (hgd : Region.wanted o (yielded ops a.tmps) = true) (ty : TypeId) (x : Operand) (ho : o.op = .load ty x)
    (g k : Nat) (hx : a.eval x = .pointer (some ⟨g, k, none⟩)) (v : Value) {cs : Array Value} {T : TypeId} {fz : Nat × Nat} (hg : w.heap[g]? = some (.cells cs T fz)) (hk : cs[k]? = some v) {d : TypeDesc} (hu : P.underlying ty = some d) (hd : d.isRow = false)
    (h : wpListIn F n P ops Q rest (a.put o.dst v) w) : wpListIn F n P ops Q (o :: rest) a w := by
  refine wpLI_run hF hgd (by rw [ho]; intro c e; cases e) ?_ h
  unfold execOp
  simp only [ho, hx, Instr.loadAt, Instr.sureAddr, Sem.run_bind, Sem.run_pure, Result.andThen_ok, run_loadF (P := P) hg hk hu hd]
theorem run_storeR {ty : TypeId} {x y : Operand} (ho : o.op = .store ty x y) (g : Nat) (cs : Array Value) (hx : a.eval x = .pointer (some ⟨g, 0, none⟩)) (hy : a.eval y = .agg cs) {T : TypeId} {old : Array Value} (hg : w.heap[g]? = some (.cells old T (0, 0))) (hi : (P.info? ty).map (·.size) = some cs.size) (hl : old.size = cs.size) (h1 : cs.all (·.oneCell') = true) :
    (execOp a.eval o).run P w = .ok .skip (w.setRow g cs) := by
  unfold execOp
  simp only [ho, hx, hy, Instr.storeAt, Instr.sureAddr, Sem.run_bind, Sem.run_pure, Result.andThen_ok, run_storeVar_row w g T ty old cs hg hi hl h1]
theorem wpLI_storeRow (hF : ∀ f, F.fn f) (hgd : o.guard = none) (ty : TypeId) (x y : Operand) (ho : o.op = .store ty x y)
    (g : Nat) (cs : Array Value) (hx : a.eval x = .pointer (some ⟨g, 0, none⟩)) (hy : a.eval y = .agg cs) {T : TypeId} {old : Array Value} (hg : w.heap[g]? = some (.cells old T (0, 0))) (hi : (P.info? ty).map (·.size) = some cs.size) (hl : old.size = cs.size) (h1 : cs.all (·.oneCell') = true)
    (h : ∀ w1, w1.heap[g]? = some (.cells cs T (0, 0)) → w.grownBy w1 (some g) → wpListIn F n P ops Q rest (a.put o.dst undef) w1) : wpListIn F n P ops Q (o :: rest) a w :=
  wpLI_skip hF (by simp [Region.wanted, hgd]) (by rw [ho]; intro c e; cases e) (run_storeR ho g cs hx hy hg hi hl h1)
    (h _ (setRow_heap w g _ _ T _ hg) ⟨rfl, rfl, rfl, by simp [World.setRow], fun k _ hk => setRow_other w g k _ (fun e => hk (by rw [e]))⟩)
theorem z1j (hF : ∀ f, F.fn f) (hgd : o.guard = none) (ty : TypeId) (x y : Operand) (ho : o.op = .store ty x y)
    (g k : Nat) (v : Value) (hx : a.eval x = .pointer (some ⟨g, k, none⟩)) (hy : a.eval y = v) (h1 : v.oneCell' = true) {cs : Array Value} {T : TypeId} (hg : w.heap[g]? = some (.cells cs T (0, 0))) (hk : k < cs.size) (hi : (P.info? ty).map (·.size) = some 1)
    (cs' : Array Value) (he : cs.setIfInBounds k v = cs')
    (h : ∀ w1, w1.heap[g]? = some (.cells cs' T (0, 0)) → w.grownBy w1 (some g) → wpListIn F n P ops Q rest (a.put o.dst undef) w1) : wpListIn F n P ops Q (o :: rest) a w :=
  wpLI_skip hF (by simp [Region.wanted, hgd]) (by rw [ho]; intro c e; cases e) (by
    unfold execOp
    simp only [ho, hx, hy, Sem.run_bind, Sem.run_pure, Result.andThen_ok, run_storeF (P := P) hg hk h1 hi])
    (h _ (by rw [z1e hg, he]) (set_grown w g k v))
theorem z1k {o1 o2 : Oper} (hF : ∀ f, F.fn f) (hg1 : o1.guard = none) (hg2 : o2.guard = none) (T : TypeId) (ho1 : o1.op = .alloc T) (x y : Operand) (ho2 : o2.op = .store T x y)
    (cs zs : Array Value) (hi : (P.info? T).map (fun i => (i.zero, i.size)) = some (some (.agg zs), cs.size)) (hz : zs.size = cs.size) (h1 : cs.all (·.oneCell') = true)
    (hx : ∀ p, (a.put o1.dst p).eval x = p) (hy : ∀ p, (a.put o1.dst p).eval y = .agg cs)
    (h : ∀ w1 g, w.heap.size ≤ g → g < w1.heap.size → w1.heap[g]? = some (.cells cs T (0, 0)) → Below w.heap.size w w1 → wpListIn F n P ops Q rest ((a.put o1.dst (.pointer (some ⟨g, 0, none⟩))).put o2.dst undef) w1) :
    wpListIn F n P ops Q (o1 :: o2 :: rest) a w := by
  obtain ⟨hz0, hsz⟩ := zero_of_info hi
  refine wpLI_run hF (v := .pointer (some ⟨w.heap.size, 0, none⟩)) (w' := w.alloc (.cells zs T)) (by simp [Region.wanted, hg1]) (by rw [ho1]; intro c e; cases e) ?_ ?_
  · simp [execOp, ho1, Instr.alloc, hz0, newVar, newRow, Value.cells]
  · refine wpLI_skip hF (by simp [Region.wanted, hg2]) (by rw [ho2]; intro c e; cases e) (run_storeR ho2 w.heap.size cs (hx _) (hy _) (heap_alloc_last w _) hsz hz h1) ?_
    rw [World.setRow_alloc_new]
    exact h _ _ (Nat.le_refl _) (by simp) (heap_alloc_last w _) ((Below.refl _ _).alloc (Nat.le_refl _) _)
end
end Go.Proofs.Ytmfplinbbcoahaa
namespace Go.Proofs.Ytmfplinbbcoahaa
open Go.RowKit Go.Sort
theorem same_split (v u : BlkV) : sameP v.val u.val = (v.kind == u.kind && v.big == u.big && v.type == u.type && v.link == u.link && v.snap == u.snap && v.iface == u.iface && v.time == u.time && v.len == u.len && sameB v.dl u.dl && decide (vals v.ns = vals u.ns) && decide (vals v.os = vals u.os)) := rfl
theorem blkSame_any (v u : BlkV) (w : World) (hv : Blk w v) (hu : Blk w u) :
    Calls Try.prog 21 #[.agg v.cells.toArray, .agg u.cells.toArray] w fun e w' => e = .returned (.bool (sameP v.val u.val)) ∧ Below w.heap.size w w' := by
  have HB := Hd (Below.refl w.heap.size w)
  have HV := Hd hv
  have HU := Hd hu
  rw [same_split]
  obtain ⟨D1, hD1⟩ : ∃ D, D = sameB v.dl u.dl := ⟨_, rfl⟩
  obtain ⟨D2, hD2⟩ : ∃ D, D = decide (vals v.ns = vals u.ns) := ⟨_, rfl⟩
  obtain ⟨D3, hD3⟩ : ∃ D, D = decide (vals v.os = vals u.os) := ⟨_, rfl⟩
  rw [← hD1, ← hD2, ← hD3]
  have HD1 := Hd hD1
  have HD2 := Hd hD2
  have HD3 := Hd hD3
  obtain ⟨X, hX⟩ : ∃ X, X = (v.kind == u.kind && v.big == u.big && v.type == u.type && v.link == u.link && v.snap == u.snap && v.iface == u.iface && v.time == u.time && v.len == u.len && D1 && D2 && D3) := ⟨_, rfl⟩
  rw [← hX]
  have HX := Hd hX
  clear hv hu hD1 hD2 hD3 hX
  go_enter Try.func21, Try.ntmps21
  go_wp2_with (first
 | ((with_reducible refine sl 2 ?_); (refine z1f rfl 27 (.tmp 0) rfl v.cells.toArray rfl ?_); intro w1 hg1 hb1; have HG1 := Hd hg1; have hE__ := cU HB bup hb1; replace HB := ck HB hE__; clear hE__; clear hg1 hb1; simp only [PT])
 | ((with_reducible refine sl 3 ?_); (refine z1f rfl 27 (.tmp 1) rfl u.cells.toArray rfl ?_); intro w2 hg2 hb2; have HG2 := Hd hg2; have hE__ := cU HB bup hb2; replace HB := ck HB hE__; replace HG1 := ck HG1 hE__; clear hE__; clear hg2 hb2; obtain ⟨c0, c1, c2, c3, c4, c5, c6, c7, c8, c9, c10⟩ := z03 HG1.out; obtain ⟨e0, e1, e2, e3, e4, e5, e6, e7, e8, e9, e10⟩ := z03 HG2.out; simp only [PT])
 | (go_at_call 43; (refine (bytesEqual_any v.dad v.dn v.dc v.dl u.dad u.dn u.dc u.dl _ (HV.out.1.below (HB.out.trans (Below.mono bup HB.out.size))) (HU.out.1.below (HB.out.trans (Below.mono bup HB.out.size)))).mono ?_); intro e w' hr; rw [← HD1.out] at hr; obtain ⟨rfl, rfl⟩ := hr)
 | (go_at_call 44; (with_reducible show Calls _ _ #[Value.slice v.nad _ _, _] _ _); (refine (optSame_any v.nad v.nn v.nc v.ns u.nad u.nn u.nc u.ns _ (HV.out.2.1.below (HB.out.trans (Below.mono bup HB.out.size))) (HU.out.2.1.below (HB.out.trans (Below.mono bup HB.out.size)))).mono ?_); intro e w5 hr; rw [← HD2.out] at hr; obtain ⟨rfl, hb5⟩ := hr; have hE__ := cU HB bup hb5; replace HB := ck HB hE__; replace HG1 := ck HG1 hE__; replace HG2 := ck HG2 hE__; clear hE__; clear hb5 c0 c1 c2 c3 c4 c5 c6 c7 c8 c9 c10 e0 e1 e2 e3 e4 e5 e6 e7 e8 e9 e10; obtain ⟨c0, c1, c2, c3, c4, c5, c6, c7, c8, c9, c10⟩ := z03 HG1.out; obtain ⟨e0, e1, e2, e3, e4, e5, e6, e7, e8, e9, e10⟩ := z03 HG2.out)
 | (go_at_call 44; (with_reducible show Calls _ _ #[Value.slice v.oad _ _, _] _ _); (refine (optSame_any v.oad v.on v.oc v.os u.oad u.on u.oc u.os _ (HV.out.2.2.below (HB.out.trans (Below.mono bup HB.out.size))) (HU.out.2.2.below (HB.out.trans (Below.mono bup HB.out.size)))).mono ?_); intro e w6 hr; rw [← HD3.out] at hr; obtain ⟨rfl, hb5⟩ := hr; have hE__ := cU HB bup hb5; replace HB := ck HB hE__; clear hE__; clear hb5))
  all_goals
    go_ret
    refine ⟨?_, HB.out⟩
    rw [HX.out]
    first
      | rfl
      | (simp [*]; done)
      | (simp [*]; omega)
theorem refBlkSame_any (v u : BlkV) (w : World) (hv : Blk w v) (hu : Blk w u) :
    Calls Try.prog 22 #[.agg v.cells.toArray, .agg u.cells.toArray] w fun e w' => e = .returned (.bool (sameP v.val u.val)) ∧ Below w.heap.size w w' := by
  have HB := Hd (Below.refl w.heap.size w)
  have HV := Hd hv
  have HU := Hd hu
  rw [same_split]
  obtain ⟨D1, hD1⟩ : ∃ D, D = sameB v.dl u.dl := ⟨_, rfl⟩
  obtain ⟨D2, hD2⟩ : ∃ D, D = decide (vals v.ns = vals u.ns) := ⟨_, rfl⟩
  obtain ⟨D3, hD3⟩ : ∃ D, D = decide (vals v.os = vals u.os) := ⟨_, rfl⟩
  rw [← hD1, ← hD2, ← hD3]
  have HD2 := Hd hD2
  have HD3 := Hd hD3
  have hstr : ((strOf v.dl).toList == (strOf u.dl).toList) = D1 := by rw [sameB_str, hD1]
  obtain ⟨X, hX⟩ : ∃ X, X = (v.kind == u.kind && v.big == u.big && v.type == u.type && v.link == u.link && v.snap == u.snap && v.iface == u.iface && v.time == u.time && v.len == u.len && D1 && D2 && D3) := ⟨_, rfl⟩
  rw [← hX]
  have HX := Hd hX
  clear hv hu hD1 hD2 hD3 hX
  go_enter Try.func22, Try.ntmps22
  go_wp2_with (first
 | ((with_reducible refine sl 2 ?_); (refine z1f rfl 27 (.tmp 0) rfl v.cells.toArray rfl ?_); intro w1 hg1 hb1; have HG1 := Hd hg1; have hE__ := cU HB bup hb1; replace HB := ck HB hE__; clear hE__; clear hg1 hb1; simp only [PT])
 | ((with_reducible refine sl 3 ?_); (refine z1f rfl 27 (.tmp 1) rfl u.cells.toArray rfl ?_); intro w2 hg2 hb2; have HG2 := Hd hg2; have hE__ := cU HB bup hb2; replace HB := ck HB hE__; replace HG1 := ck HG1 hE__; clear hE__; clear hg2 hb2; obtain ⟨c0, c1, c2, c3, c4, c5, c6, c7, c8, c9, c10⟩ := z03 HG1.out; obtain ⟨e0, e1, e2, e3, e4, e5, e6, e7, e8, e9, e10⟩ := z03 HG2.out; simp only [PT])
 | ((with_reducible refine sl 62 ?_); refine z2h elB.1 (by kernel_rfl) (by kernel_rfl) rfl (.tmp 61) rfl rfl (HV.out.1.below (HB.out.trans (Below.mono bup HB.out.size))) ?_; simp only [PT])
 | ((with_reducible refine sl 65 ?_); refine z2h elB.1 (by kernel_rfl) (by kernel_rfl) rfl (.tmp 64) rfl rfl (HU.out.1.below (HB.out.trans (Below.mono bup HB.out.size))) ?_; simp only [PT])
 | (go_at_call 45; (with_reducible show Calls _ _ #[Value.slice v.nad _ _, _] _ _); (refine (refSame_any v.nad v.nn v.nc v.ns u.nad u.nn u.nc u.ns _ (HV.out.2.1.below (HB.out.trans (Below.mono bup HB.out.size))) (HU.out.2.1.below (HB.out.trans (Below.mono bup HB.out.size)))).mono ?_); intro e w5 hr; rw [← HD2.out] at hr; obtain ⟨rfl, hb5⟩ := hr; have hE__ := cU HB bup hb5; replace HB := ck HB hE__; replace HG1 := ck HG1 hE__; replace HG2 := ck HG2 hE__; clear hE__; clear hb5 c0 c1 c2 c3 c4 c5 c6 c7 c8 c9 c10 e0 e1 e2 e3 e4 e5 e6 e7 e8 e9 e10; obtain ⟨c0, c1, c2, c3, c4, c5, c6, c7, c8, c9, c10⟩ := z03 HG1.out; obtain ⟨e0, e1, e2, e3, e4, e5, e6, e7, e8, e9, e10⟩ := z03 HG2.out)
 | (go_at_call 45; (with_reducible show Calls _ _ #[Value.slice v.oad _ _, _] _ _); (refine (refSame_any v.oad v.on v.oc v.os u.oad u.on u.oc u.os _ (HV.out.2.2.below (HB.out.trans (Below.mono bup HB.out.size))) (HU.out.2.2.below (HB.out.trans (Below.mono bup HB.out.size)))).mono ?_); intro e w6 hr; rw [← HD3.out] at hr; obtain ⟨rfl, hb5⟩ := hr; have hE__ := cU HB bup hb5; replace HB := ck HB hE__; clear hE__; clear hb5))
  all_goals
    go_ret
    refine ⟨?_, HB.out⟩
    rw [HX.out]
    first
      | rfl
      | (simp [*]; done)
      | (simp [*]; omega)
structure SmB (v : BlkV) : Prop where
  sizes : sizeO (vals v.ns) ≤ 70420 ∧ sizeO (vals v.os) ≤ 70420 ∧ v.dn ≤ 1100000
theorem fine_any (ad : Option Addr) (n c : Nat) (os : List OptV) (w : World) (hs : Ops w ad n c os) (hz : sizeO (vals os) ≤ 70420) :
    Calls Try.prog 70 #[.slice ad n c] w fun e w' => e = .returned (.bool (wrongO (vals os) == 0)) ∧ Below w.heap.size w w' := by
  have HB := Hd (Below.refl w.heap.size w)
  have HS := Hd hs
  obtain ⟨X, hX⟩ : ∃ X, X = wrongO (vals os) := ⟨_, rfl⟩
  rw [← hX]
  have HX := Hd hX
  clear hs hX
  by_cases hx : X = 0
  · have HXX := Hd hx
    go_enter Try.func70, Try.ntmps70
    go_wp2_with (first
 | (go_at_call 80; (refine (z1r ad n c os true _ (HS.out.below HB.out) (by omega)).mono ?_); intro e w3 hr3; rw [← HX.out] at hr3; obtain ⟨hb3, h3⟩ := hr3; rcases h3 with ⟨h3, _⟩ | ⟨_, ad3, c3, rfl, ho3⟩; exact absurd HXX.out h3; have hE__ := cU HB bup hb3; replace HB := ck HB hE__; clear hE__; clear hb3 ho3))
    go_ret
    exact ⟨by rw [HXX.out]; rfl, HB.out⟩
  · have hx2 : (X == 0) = false := by simpa using hx
    have HXX := Hd hx2
    have HXN := Hd hx
    go_enter Try.func70, Try.ntmps70
    go_wp2_with (first
 | (go_at_call 80; (refine (z1r ad n c os true _ (HS.out.below HB.out) (by omega)).mono ?_); intro e w3 hr3; rw [← HX.out] at hr3; obtain ⟨hb3, h3⟩ := hr3; rcases h3 with ⟨_, rfl⟩ | ⟨h3, _⟩; rotate_left; exact absurd h3 HXN.out; have hE__ := cU HB bup hb3; replace HB := ck HB hE__; clear hE__; clear hb3))
    go_ret
    exact ⟨by rw [HXX.out]; simp [*], HB.out⟩
end Go.Proofs.Ytmfplinbbcoahaa
