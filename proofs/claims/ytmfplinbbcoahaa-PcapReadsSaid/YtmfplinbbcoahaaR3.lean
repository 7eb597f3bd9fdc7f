/-
  Joined by program (merge.py): Opt10, Opt11, Opt13, PlainBlk, PlainBlk2, Kit2, Blk1.
-/
import Derived.Test.YtmfplinbbcoahaaR1
import Derived.Test.YtmfplinbbcoahaaR2
set_option linter.unusedVariables false
set_option linter.unusedSimpArgs false
set_option maxRecDepth 100000
set_option maxHeartbeats 16000000
namespace Go.Proofs.Ytmfplinbbcoahaa
open Go.RowKit Go.Sort
theorem spot_err {w : World} {g : Nat} {p : Nat × Int} {T : TypeId} (h : w.heap[g]? = some (.cells (spotC p).toArray T (0, 0))) : w.cell? ⟨g, 1, none⟩ = some (.int .i64 p.2) := by simp [World.cell?, h, spotC]
theorem rowsO_any (ad : Option Addr) (n c : Nat) (l : List UInt8) (big : Bool) (w : World) (hs : Bs w ad n c l) (hsz : n ≤ 1000000000) :
    Calls Try.prog 83 #[.slice ad n c, .bool big] w fun e w' => ∃ ad' n' c' os, e = .returned (.tuple #[.slice ad' n' c', .int .i64 ((rowsO big l).2.1 : Int), .agg (spotC (rowsO big l).2.2).toArray]) ∧ OwnOps 90 w.heap.size w' ad' n' c' os ∧ vals os = (rowsO big l).1 ∧ Below w.heap.size w w' := by
  have hn := hs.len
  obtain ⟨Y, hY⟩ : ∃ Y, Y = rowsO big l := ⟨_, rfl⟩
  obtain ⟨X, hX⟩ : ∃ X, X = rowsB big l := ⟨_, rfl⟩
  have hY2 : Y = rowsR X := by rw [hY, hX]; rfl
  rw [← hY]
  obtain ⟨xl, xn, xe, xs⟩ := X
  have HX := Hd hX.symm
  have HS := Hd hs
  have HN := Hd hn
  have HI : Hid ((Try.prog.info? 49).map (·.size) = some 2) := Hd (by kernel_rfl)
  have HY : Hid (Y = if xs = (0, 0) then (if xe = true then (xl, xn, (0, 0)) else ([], 0, (xn, 2))) else ([], 0, xs)) := Hd hY2
  clear hs hn hX hY hY2
  by_cases hz : xs = (0, 0)
  · cases xe
    · have HE := Hd ((HY.out.trans (if_pos hz)).trans (if_neg (by simp)))
      subst hz
      clear HY
      go_enter Try.func83, Try.ntmps83
      go_wp2_with (first
 | (go_at_call 84; (refine (rows_any ad n c l big _ (HS.out.below bup) hsz).mono ?_); intro e w5 hr5; rw [HX.out] at hr5; obtain ⟨ad5, n5, c5, os, rfl, how, hvs, hb5⟩ := hr5; have HW := Hd (how.base (base' := w.heap.size + 1) (by simp)); have HV := Hd hvs; have HG := Hd ((hb5.block w.heap.size (by simp)).trans (heap_alloc_last w (.cells (spotC (0, 0)).toArray 49))); have HB := Hd (show Below w.heap.size w w5 from Below.trans bup (hb5.mono (by simp))); have HGF := Hd (lt_of_block HG.out); clear how hvs hb5)
 | ((with_reducible show wpList _ _ _ (⟨none, .store _ _ (.tmp 18), _, _, _, _⟩ :: _) _ _); (refine z10 (T := 49) (q := (0, 0)) rfl 49 (.tmp 10) (.tmp 18) rfl w5.heap.size (0, 0) rfl rfl (heap_alloc_last w5 _) HI.out ?_); intro w6 hg6 hgr6; have hb6 : Below w5.heap.size w5 w6 := ((Below.refl w5.heap.size w5).alloc (Nat.le_refl _) _).grown hgr6 (by simp) (fun k e => by cases e; exact Nat.le_refl _); have HF := Hd hg6; replace HW := ckk HW bup hb6; replace HG := ckk HG bup hb6; replace HB := ckk HB bup hb6; clear hg6 hgr6 hb6; simp only [PT])
 | ((with_reducible refine sl 19 ?_); (refine z05 rfl 49 (.tmp 10) rfl w5.heap.size 0 rfl (spotC (0, 0)) _ (z00 HF.out) Try.underlying49 rfl HI.out ?_); simp only [PT])
 | ((with_reducible refine sl 21 ?_); (refine z3f (0, 0) (0, 0) true (by rfl) rfl (.tmp 19) (.tmp 20) rfl rfl rfl ?_); simp only [PT])
 | ((with_reducible show wpList _ _ _ (⟨none, .store _ _ (.tmp 27), _, _, _, _⟩ :: _) _ _); (refine z10 (T := 49) (q := (0, 0)) rfl 49 (.tmp 10) (.tmp 27) rfl w5.heap.size (xn, 2) rfl rfl HF.out HI.out ?_); intro w7 hg7 hgr7; have HG7 := Hd ((hgr7.block w.heap.size (lt_of_block HG.out) (by have := HGF.out; intro e; injection e with e; omega)).trans HG.out); have HB7 := Hd (HB.out.grown hgr7 HB.out.size (fun k e => by have := HGF.out; cases e; omega)); clear HF HG HB HW; have HF := Hd hg7; have HG := HG7; have HB := HB7; clear HG7 HB7 hg7 hgr7; simp only [PT])
 | ((with_reducible refine sl 28 ?_); (refine z05 rfl 49 (.tmp 10) rfl w5.heap.size 0 rfl (spotC (xn, 2)) _ (z00 HF.out) Try.underlying49 rfl HI.out ?_); simp only [PT])
 | ((with_reducible refine sl 30 ?_); (refine z3e (xn, 2) (0, 0) true (by simp) rfl (.tmp 28) (.tmp 29) rfl rfl rfl ?_); simp only [PT]))
      refine wp_region_held_drew (S := fun v => v.rangeAt w5.heap.size 0 (spotC (xn, 2))) (by kernel_rfl) ?_ (fun hHeld => ?_); (focus (first | exact z00 HF8.out | exact z00 HF.out)); refine' tk 0 (oi := ⟨some 31, _, _, _, _, _⟩) (v := _) rfl (by kernel_rfl) (yieldsIf_load_mid (by rfl) _ _ rfl _ _ rfl (spotC (xn, 2)) _ (fun v hv => hv) (Try.underlying49) rfl (HI.out)) hHeld ?_; simp only [PT]; (refine tk 1 (oi := ⟨some 4, _, _, _, _, _⟩) (v := ?_) rfl (by kernel_rfl) (.inl ⟨by rfl, ?_⟩) hHeld ?_; rotate_left; focus (intro w hSw; (try dsimp only at hSw); go_simp; try with_reducible rfl)); simp only [PT]; (refine tk 2 (oi := ⟨some 5, _, _, _, _, _⟩) (v := ?_) rfl (by kernel_rfl) (.inl ⟨by rfl, ?_⟩) hHeld ?_; rotate_left; focus (intro w hSw; (try dsimp only at hSw); go_simp; try with_reducible rfl)); simp only [PT]; refine wpAnyH_ready (rs := [3]) (by kernel_rfl) (by simp) ?_; refine (AllReadyH.cons (o := ⟨none, _, _, _, _, _⟩) rfl (fun K hK => ?_) AllReadyH.nil); ((refine z2b (T := 49) (q := (0, 0)) rfl 49 (.tmp 6) (.tmp 31) rfl w.heap.size (xn, 2) rfl rfl HG.out HI.out ?_); intro w8 hg8 hgr8; have HG8 := Hd hg8; have HF8 := Hd ((hgr8.block w5.heap.size (lt_of_block HF.out) (by have := HGF.out; intro e; injection e with e; omega)).trans HF.out); have HB8 := Hd ((show Below w.heap.size w _ from Below.trans HB.out (Below.drew (Below.refl _ _))).grown hgr8 HB.out.size (fun k e => by cases e; exact Nat.le_refl _)); clear hg8 hgr8); refine hK.out _ _ ?_ (fun hHeld => ?_); (focus (first | exact z00 HF8.out | exact z00 HF.out)); clear hK K; (try simp only [PT]); refine wpAnyH_done (by kernel_rfl) ?_ _
      all_goals
        go_wp2_with fail
        (try simp only [Exit.inBlock, Exit.then, Exit.noGoto_ret])
        refine z3i (cs := spotC (xn, 2)) rfl rfl (z00 HG8.out) Try.underlying49 rfl HI.out rfl ?_
        exact ⟨none, 0, 0, [], by rw [HE.out]; rfl, OwnOps.nil _ _ _, by rw [HE.out]; rfl, HB8.out⟩
    · have HE := Hd ((HY.out.trans (if_pos hz)).trans (if_pos rfl))
      subst hz
      clear HY
      go_enter Try.func83, Try.ntmps83
      go_wp2_with (first
 | (go_at_call 84; (refine (rows_any ad n c l big _ (HS.out.below bup) hsz).mono ?_); intro e w5 hr5; rw [HX.out] at hr5; obtain ⟨ad5, n5, c5, os, rfl, how, hvs, hb5⟩ := hr5; have HW := Hd (how.base (base' := w.heap.size + 1) (by simp)); have HV := Hd hvs; have HG := Hd ((hb5.block w.heap.size (by simp)).trans (heap_alloc_last w (.cells (spotC (0, 0)).toArray 49))); have HB := Hd (show Below w.heap.size w w5 from Below.trans bup (hb5.mono (by simp))); have HGF := Hd (lt_of_block HG.out); clear how hvs hb5)
 | ((with_reducible show wpList _ _ _ (⟨none, .store _ _ (.tmp 18), _, _, _, _⟩ :: _) _ _); (refine z10 (T := 49) (q := (0, 0)) rfl 49 (.tmp 10) (.tmp 18) rfl w5.heap.size (0, 0) rfl rfl (heap_alloc_last w5 _) HI.out ?_); intro w6 hg6 hgr6; have hb6 : Below w5.heap.size w5 w6 := ((Below.refl w5.heap.size w5).alloc (Nat.le_refl _) _).grown hgr6 (by simp) (fun k e => by cases e; exact Nat.le_refl _); have HF := Hd hg6; replace HW := ckk HW bup hb6; replace HG := ckk HG bup hb6; replace HB := ckk HB bup hb6; clear hg6 hgr6 hb6; simp only [PT])
 | ((with_reducible refine sl 19 ?_); (refine z05 rfl 49 (.tmp 10) rfl w5.heap.size 0 rfl (spotC (0, 0)) _ (z00 HF.out) Try.underlying49 rfl HI.out ?_); simp only [PT])
 | ((with_reducible refine sl 21 ?_); (refine z3f (0, 0) (0, 0) true (by rfl) rfl (.tmp 19) (.tmp 20) rfl rfl rfl ?_); simp only [PT])
 | ((with_reducible refine sl 28 ?_); (refine z05 rfl 49 (.tmp 10) rfl w5.heap.size 0 rfl (spotC (0, 0)) _ (z00 HF.out) Try.underlying49 rfl HI.out ?_); simp only [PT])
 | ((with_reducible refine sl 30 ?_); (refine z3e (0, 0) (0, 0) false (by rfl) rfl (.tmp 28) (.tmp 29) rfl rfl rfl ?_); simp only [PT]))
      refine wp_region_held_drew (S := fun v => v.rangeAt w5.heap.size 0 (spotC (0, 0))) (by kernel_rfl) ?_ (fun hHeld => ?_); (focus (first | exact z00 HF8.out | exact z00 HF.out)); (refine tk 0 (oi := ⟨some 32, _, _, _, _, _⟩) (v := ?_) rfl (by kernel_rfl) (.inl ⟨by rfl, ?_⟩) hHeld ?_; rotate_left; focus (intro w hSw; (try dsimp only at hSw); go_simp; try with_reducible rfl)); simp only [PT]; (refine tk 1 (oi := ⟨some 33, _, _, _, _, _⟩) (v := ?_) rfl (by kernel_rfl) (.inl ⟨by rfl, ?_⟩) hHeld ?_; rotate_left; focus (intro w hSw; (try dsimp only at hSw); go_simp; try with_reducible rfl)); simp only [PT]; refine' tk 2 (oi := ⟨some 34, _, _, _, _, _⟩) (v := _) rfl (by kernel_rfl) (yieldsIf_load_mid (by rfl) _ _ rfl _ _ rfl (spotC (0, 0)) _ (fun v hv => hv) (Try.underlying49) rfl (HI.out)) hHeld ?_; simp only [PT]; (refine tk 3 (oi := ⟨some 4, _, _, _, _, _⟩) (v := ?_) rfl (by kernel_rfl) (.inl ⟨by rfl, ?_⟩) hHeld ?_; rotate_left; focus (intro w hSw; (try dsimp only at hSw); go_simp; try with_reducible rfl)); simp only [PT]; (refine tk 4 (oi := ⟨some 5, _, _, _, _, _⟩) (v := ?_) rfl (by kernel_rfl) (.inl ⟨by rfl, ?_⟩) hHeld ?_; rotate_left; focus (intro w hSw; (try dsimp only at hSw); go_simp; try with_reducible rfl)); simp only [PT]; refine wpAnyH_ready (rs := [5]) (by kernel_rfl) (by simp) ?_; refine (AllReadyH.cons (o := ⟨none, _, _, _, _, _⟩) rfl (fun K hK => ?_) AllReadyH.nil); ((refine z2b (T := 49) (q := (0, 0)) rfl 49 (.tmp 6) (.tmp 34) rfl w.heap.size (0, 0) rfl rfl HG.out HI.out ?_); intro w8 hg8 hgr8; have HG8 := Hd hg8; have HF8 := Hd ((hgr8.block w5.heap.size (lt_of_block HF.out) (by have := HGF.out; intro e; injection e with e; omega)).trans HF.out); have HB8 := Hd ((show Below w.heap.size w _ from Below.trans HB.out (Below.drew (Below.refl _ _))).grown hgr8 HB.out.size (fun k e => by cases e; exact Nat.le_refl _)); have HW8 := Hd ((show OwnOps _ _ _ _ _ _ _ from HW.out.keep (Below.drew (Below.refl _ _))).other hgr8 (by omega)); clear hg8 hgr8); refine hK.out _ _ ?_ (fun hHeld => ?_); (focus (first | exact z00 HF8.out | exact z00 HF.out)); clear hK K; (try simp only [PT]); refine wpAnyH_done (by kernel_rfl) ?_ _
      all_goals
        go_wp2_with fail
        (try simp only [Exit.inBlock, Exit.then, Exit.noGoto_ret])
        refine z3i (cs := spotC (0, 0)) rfl rfl (z00 HG8.out) Try.underlying49 rfl HI.out rfl ?_
        exact ⟨ad5, n5, c5, os, by rw [HE.out]; rfl, HW8.out.base (by omega), by rw [HE.out]; exact HV.out, HB8.out⟩
  · have HE := Hd (HY.out.trans (if_neg hz))
    have HZ1 := Hd (show false = decide (xs = (0, 0)) by simp [hz])
    have HZ2 := Hd (show true = !decide (xs = (0, 0)) by simp [hz])
    clear HY hz
    go_enter Try.func83, Try.ntmps83
    go_wp2_with (first
 | (go_at_call 84; (refine (rows_any ad n c l big _ (HS.out.below bup) hsz).mono ?_); intro e w5 hr5; rw [HX.out] at hr5; obtain ⟨ad5, n5, c5, os, rfl, how, hvs, hb5⟩ := hr5; have HW := Hd (how.base (base' := w.heap.size + 1) (by simp)); have HV := Hd hvs; have HG := Hd ((hb5.block w.heap.size (by simp)).trans (heap_alloc_last w (.cells (spotC (0, 0)).toArray 49))); have HB := Hd (show Below w.heap.size w w5 from Below.trans bup (hb5.mono (by simp))); have HGF := Hd (lt_of_block HG.out); clear how hvs hb5)
 | ((with_reducible show wpList _ _ _ (⟨none, .store _ _ (.tmp 18), _, _, _, _⟩ :: _) _ _); (refine z10 (T := 49) (q := (0, 0)) rfl 49 (.tmp 10) (.tmp 18) rfl w5.heap.size xs rfl rfl (heap_alloc_last w5 _) HI.out ?_); intro w6 hg6 hgr6; have hb6 : Below w5.heap.size w5 w6 := ((Below.refl w5.heap.size w5).alloc (Nat.le_refl _) _).grown hgr6 (by simp) (fun k e => by cases e; exact Nat.le_refl _); have HF := Hd hg6; replace HW := ckk HW bup hb6; replace HG := ckk HG bup hb6; replace HB := ckk HB bup hb6; clear hg6 hgr6 hb6; simp only [PT])
 | ((with_reducible refine sl 19 ?_); (refine z05 rfl 49 (.tmp 10) rfl w5.heap.size 0 rfl (spotC xs) _ (z00 HF.out) Try.underlying49 rfl HI.out ?_); simp only [PT])
 | ((with_reducible refine sl 21 ?_); (refine z3f xs (0, 0) false (HZ1.out) rfl (.tmp 19) (.tmp 20) rfl rfl rfl ?_); simp only [PT])
 | ((with_reducible refine sl 28 ?_); (refine z05 rfl 49 (.tmp 10) rfl w5.heap.size 0 rfl (spotC xs) _ (z00 HF.out) Try.underlying49 rfl HI.out ?_); simp only [PT])
 | ((with_reducible refine sl 30 ?_); (refine z3e xs (0, 0) true (HZ2.out) rfl (.tmp 28) (.tmp 29) rfl rfl rfl ?_); simp only [PT]))
    refine wp_region_held_drew (S := fun v => v.rangeAt w5.heap.size 0 (spotC xs)) (by kernel_rfl) ?_ (fun hHeld => ?_); (focus (first | exact z00 HF8.out | exact z00 HF.out)); refine' tk 0 (oi := ⟨some 31, _, _, _, _, _⟩) (v := _) rfl (by kernel_rfl) (yieldsIf_load_mid (by rfl) _ _ rfl _ _ rfl (spotC xs) _ (fun v hv => hv) (Try.underlying49) rfl (HI.out)) hHeld ?_; simp only [PT]; (refine tk 1 (oi := ⟨some 4, _, _, _, _, _⟩) (v := ?_) rfl (by kernel_rfl) (.inl ⟨by rfl, ?_⟩) hHeld ?_; rotate_left; focus (intro w hSw; (try dsimp only at hSw); go_simp; try with_reducible rfl)); simp only [PT]; (refine tk 2 (oi := ⟨some 5, _, _, _, _, _⟩) (v := ?_) rfl (by kernel_rfl) (.inl ⟨by rfl, ?_⟩) hHeld ?_; rotate_left; focus (intro w hSw; (try dsimp only at hSw); go_simp; try with_reducible rfl)); simp only [PT]; refine wpAnyH_ready (rs := [3]) (by kernel_rfl) (by simp) ?_; refine (AllReadyH.cons (o := ⟨none, _, _, _, _, _⟩) rfl (fun K hK => ?_) AllReadyH.nil); ((refine z2b (T := 49) (q := (0, 0)) rfl 49 (.tmp 6) (.tmp 31) rfl w.heap.size xs rfl rfl HG.out HI.out ?_); intro w8 hg8 hgr8; have HG8 := Hd hg8; have HF8 := Hd ((hgr8.block w5.heap.size (lt_of_block HF.out) (by have := HGF.out; intro e; injection e with e; omega)).trans HF.out); have HB8 := Hd ((show Below w.heap.size w _ from Below.trans HB.out (Below.drew (Below.refl _ _))).grown hgr8 HB.out.size (fun k e => by cases e; exact Nat.le_refl _)); clear hg8 hgr8); refine hK.out _ _ ?_ (fun hHeld => ?_); (focus (first | exact z00 HF8.out | exact z00 HF.out)); clear hK K; (try simp only [PT]); refine wpAnyH_done (by kernel_rfl) ?_ _
    all_goals
      go_wp2_with fail
      (try simp only [Exit.inBlock, Exit.then, Exit.noGoto_ret])
      refine z3i (cs := spotC xs) rfl rfl (z00 HG8.out) Try.underlying49 rfl HI.out rfl ?_
      exact ⟨none, 0, 0, [], by rw [HE.out]; rfl, OwnOps.nil _ _ _, by rw [HE.out]; rfl, HB8.out⟩
theorem refRead_any (ad : Option Addr) (n c : Nat) (l : List UInt8) (big : Bool) (w : World) (hs : Bs w ad n c l) (hsz : n ≤ 1000000000) :
    Calls Try.prog 63 #[.slice ad n c, .bool big] w fun e w' => ∃ ad' n' c' os, e = .returned (.tuple #[.slice ad' n' c', .agg (spotC (readO big l).2).toArray]) ∧ OwnOps 90 w.heap.size w' ad' n' c' os ∧ vals os = (readO big l).1 ∧ Below w.heap.size w w' := by
  have hn := hs.len
  obtain ⟨Y, hY⟩ : ∃ Y, Y = readO big l := ⟨_, rfl⟩
  obtain ⟨X, hX⟩ : ∃ X, X = rowsB big l := ⟨_, rfl⟩
  have hY2 : Y = readR n X := by rw [hY, hX, hn]; rfl
  rw [← hY]
  obtain ⟨xl, xn, xe, xs⟩ := X
  have HX := Hd hX.symm
  have HS := Hd hs
  have HN := Hd hn
  have HI : Hid ((Try.prog.info? 49).map (·.size) = some 2) := Hd (by kernel_rfl)
  have HY : Hid (Y = if xs = (0, 0) then (if xn < n then ([], (xn, 3)) else (xl, (0, 0))) else ([], xs)) := Hd hY2
  have HQ : Hid (xs = (0, 0) ∨ xs.2 ≠ 0) := Hd (by
    rcases rowsS_spot big l.length l 0 [] with h | ⟨h, _⟩
    · exact .inl (by have := congrArg (fun r : RR => r.2.2.2) hX; exact this.trans h)
    · refine .inr fun e => ?_
      have e2 : (rowsS big l.length l 0 []).2.2.2.2 = xs.2 := (congrArg (fun r : RR => r.2.2.2.2) hX).symm
      rw [e2, e] at h
      omega)
  clear hs hn hX hY hY2
  rcases HQ.out with hz | hz
  · by_cases hlt : xn < n
    · have HE := Hd ((HY.out.trans (if_pos hz)).trans (if_pos hlt))
      subst hz
      clear HY HQ
      go_enter Try.func63, Try.ntmps63
      go_wp2_with (first
 | (go_at_call 87; (refine (z2u ad n c l big _ (HS.out.below bup) hsz).mono ?_); intro e w5 hr5; rw [HX.out] at hr5; obtain ⟨ad5, n5, c5, os, rfl, how, hvs, hb5⟩ := hr5; have HW := Hd (how.base (base' := w.heap.size + 1) (by simp)); have HV := Hd hvs; have HG := Hd ((hb5.block w.heap.size (by simp)).trans (heap_alloc_last w (.cells (spotC (0, 0)).toArray 49))); have HB := Hd (show Below w.heap.size w w5 from Below.trans bup (hb5.mono (by simp))); have HGF := Hd (lt_of_block HG.out); clear how hvs hb5)
 | ((with_reducible show wpList _ _ _ (⟨none, .store _ _ (.tmp 17), _, _, _, _⟩ :: _) _ _); (refine z10 (T := 49) (q := (0, 0)) rfl 49 (.tmp 9) (.tmp 17) rfl w5.heap.size ((0, 0) : Nat × Int) rfl rfl (heap_alloc_last w5 _) HI.out ?_); intro w6 hg6 hgr6; have hb6 : Below w5.heap.size w5 w6 := ((Below.refl w5.heap.size w5).alloc (Nat.le_refl _) _).grown hgr6 (by simp) (fun k e => by cases e; exact Nat.le_refl _); have HF := Hd hg6; have qf := spot_err HF.out; replace HW := ckk HW bup hb6; replace HG := ckk HG bup hb6; replace HB := ckk HB bup hb6; clear hg6 hgr6 hb6; simp only [PT])
 | ((with_reducible show wpList _ _ _ (⟨none, .store _ _ (.tmp 27), _, _, _, _⟩ :: _) _ _); (refine z10 (T := 49) (q := (0, 0)) rfl 49 (.tmp 5) (.tmp 27) rfl w.heap.size (xn, 3) rfl rfl HG.out HI.out ?_); intro w8 hg8 hgr8; have HG8 := Hd hg8; have HB8 := Hd (HB.out.grown hgr8 HB.out.size (fun k e => by cases e; exact Nat.le_refl _)); clear hg8 hgr8; simp only [PT]))
      (try simp only [Exit.inBlock, Exit.then, Exit.noGoto_ret])
      refine z25 (cs := spotC (xn, 3)) rfl rfl (z00 HG8.out) Try.underlying49 rfl HI.out rfl ?_
      exact ⟨none, 0, 0, by rw [HE.out]; rfl, [], OwnOps.nil _ _ _, by rw [HE.out]; rfl, HB8.out⟩
    · have HE := Hd ((HY.out.trans (if_pos hz)).trans (if_neg hlt))
      subst hz
      clear HY HQ
      go_enter Try.func63, Try.ntmps63
      go_wp2_with (first
 | (go_at_call 87; (refine (z2u ad n c l big _ (HS.out.below bup) hsz).mono ?_); intro e w5 hr5; rw [HX.out] at hr5; obtain ⟨ad5, n5, c5, os, rfl, how, hvs, hb5⟩ := hr5; have HW := Hd (how.base (base' := w.heap.size + 1) (by simp)); have HV := Hd hvs; have HG := Hd ((hb5.block w.heap.size (by simp)).trans (heap_alloc_last w (.cells (spotC (0, 0)).toArray 49))); have HB := Hd (show Below w.heap.size w w5 from Below.trans bup (hb5.mono (by simp))); have HGF := Hd (lt_of_block HG.out); clear how hvs hb5)
 | ((with_reducible show wpList _ _ _ (⟨none, .store _ _ (.tmp 17), _, _, _, _⟩ :: _) _ _); (refine z10 (T := 49) (q := (0, 0)) rfl 49 (.tmp 9) (.tmp 17) rfl w5.heap.size ((0, 0) : Nat × Int) rfl rfl (heap_alloc_last w5 _) HI.out ?_); intro w6 hg6 hgr6; have hb6 : Below w5.heap.size w5 w6 := ((Below.refl w5.heap.size w5).alloc (Nat.le_refl _) _).grown hgr6 (by simp) (fun k e => by cases e; exact Nat.le_refl _); have HF := Hd hg6; have qf := spot_err HF.out; replace HW := ckk HW bup hb6; replace HG := ckk HG bup hb6; replace HB := ckk HB bup hb6; clear hg6 hgr6 hb6; simp only [PT]))
      refine wp_region_held_drew (S := fun v => v.rangeAt w5.heap.size 0 (spotC (0, 0))) (by kernel_rfl) ?_ (fun hHeld => ?_); (focus (first | exact z00 HF8.out | exact z00 HF.out)); (refine tk 0 (oi := ⟨some 28, _, _, _, _, _⟩) (v := ?_) rfl (by kernel_rfl) (.inl ⟨by rfl, ?_⟩) hHeld ?_; rotate_left; focus (intro w hSw; (try dsimp only at hSw); go_simp; try with_reducible rfl)); simp only [PT]; refine' tk 1 (oi := ⟨some 29, _, _, _, _, _⟩) (v := _) rfl (by kernel_rfl) (yieldsIf_load_mid (by rfl) _ _ rfl _ _ rfl (spotC (0, 0)) _ (fun v hv => hv) (Try.underlying49) rfl (HI.out)) hHeld ?_; simp only [PT]; (refine tk 2 (oi := ⟨some 4, _, _, _, _, _⟩) (v := ?_) rfl (by kernel_rfl) (.inl ⟨by rfl, ?_⟩) hHeld ?_; rotate_left; focus (intro w hSw; (try dsimp only at hSw); go_simp; try with_reducible rfl)); simp only [PT]; refine wpAnyH_ready (rs := [3]) (by kernel_rfl) (by simp) ?_; refine (AllReadyH.cons (o := ⟨none, _, _, _, _, _⟩) rfl (fun K hK => ?_) AllReadyH.nil); ((refine z2b (T := 49) (q := (0, 0)) rfl 49 (.tmp 5) (.tmp 29) rfl w.heap.size (0, 0) rfl rfl HG.out HI.out ?_); intro w8 hg8 hgr8; have HG8 := Hd hg8; have HF8 := Hd ((hgr8.block w5.heap.size (lt_of_block HF.out) (by have := HGF.out; intro e; injection e with e; omega)).trans HF.out); have HB8 := Hd ((show Below w.heap.size w _ from Below.trans HB.out (Below.drew (Below.refl _ _))).grown hgr8 HB.out.size (fun k e => by cases e; exact Nat.le_refl _)); have HW8 := Hd ((show OwnOps _ _ _ _ _ _ _ from HW.out.keep (Below.drew (Below.refl _ _))).other hgr8 (by omega)); clear hg8 hgr8); refine hK.out _ _ ?_ (fun hHeld => ?_); (focus (first | exact z00 HF8.out | exact z00 HF.out)); clear hK K; (try simp only [PT]); refine wpAnyH_done (by kernel_rfl) ?_ _
      all_goals
        go_wp2_with fail
        (try simp only [Exit.inBlock, Exit.then, Exit.noGoto_ret])
        refine z25 (cs := spotC (0, 0)) rfl rfl (z00 HG8.out) Try.underlying49 rfl HI.out rfl ?_
        exact ⟨ad5, n5, c5, os, by rw [HE.out]; rfl, HW8.out.base (by omega), by rw [HE.out]; exact HV.out, HB8.out⟩
  · have HE := Hd (HY.out.trans (if_neg (fun e => hz (by rw [e]))))
    clear HY HQ
    go_enter Try.func63, Try.ntmps63
    go_wp2_with (first
 | (go_at_call 87; (refine (z2u ad n c l big _ (HS.out.below bup) hsz).mono ?_); intro e w5 hr5; rw [HX.out] at hr5; obtain ⟨ad5, n5, c5, os, rfl, how, hvs, hb5⟩ := hr5; have HW := Hd (how.base (base' := w.heap.size + 1) (by simp)); have HV := Hd hvs; have HG := Hd ((hb5.block w.heap.size (by simp)).trans (heap_alloc_last w (.cells (spotC (0, 0)).toArray 49))); have HB := Hd (show Below w.heap.size w w5 from Below.trans bup (hb5.mono (by simp))); have HGF := Hd (lt_of_block HG.out); clear how hvs hb5)
 | ((with_reducible show wpList _ _ _ (⟨none, .store _ _ (.tmp 17), _, _, _, _⟩ :: _) _ _); (refine z10 (T := 49) (q := (0, 0)) rfl 49 (.tmp 9) (.tmp 17) rfl w5.heap.size xs rfl rfl (heap_alloc_last w5 _) HI.out ?_); intro w6 hg6 hgr6; have hb6 : Below w5.heap.size w5 w6 := ((Below.refl w5.heap.size w5).alloc (Nat.le_refl _) _).grown hgr6 (by simp) (fun k e => by cases e; exact Nat.le_refl _); have HF := Hd hg6; have qf := spot_err HF.out; replace HW := ckk HW bup hb6; replace HG := ckk HG bup hb6; replace HB := ckk HB bup hb6; clear hg6 hgr6 hb6; simp only [PT]))
    refine wp_region_held_drew (S := fun v => v.rangeAt w5.heap.size 0 (spotC xs)) (by kernel_rfl) ?_ (fun hHeld => ?_); (focus (first | exact z00 HF8.out | exact z00 HF.out)); refine' tk 0 (oi := ⟨some 21, _, _, _, _, _⟩) (v := _) rfl (by kernel_rfl) (yieldsIf_load_mid (by rfl) _ _ rfl _ _ rfl (spotC xs) _ (fun v hv => hv) (Try.underlying49) rfl (HI.out)) hHeld ?_; simp only [PT]; (refine tk 1 (oi := ⟨some 4, _, _, _, _, _⟩) (v := ?_) rfl (by kernel_rfl) (.inl ⟨by rfl, ?_⟩) hHeld ?_; rotate_left; focus (intro w hSw; (try dsimp only at hSw); go_simp; try with_reducible rfl)); simp only [PT]; refine wpAnyH_ready (rs := [2]) (by kernel_rfl) (by simp) ?_; refine (AllReadyH.cons (o := ⟨none, _, _, _, _, _⟩) rfl (fun K hK => ?_) AllReadyH.nil); ((refine z2b (T := 49) (q := (0, 0)) rfl 49 (.tmp 5) (.tmp 21) rfl w.heap.size xs rfl rfl HG.out HI.out ?_); intro w8 hg8 hgr8; have HG8 := Hd hg8; have HF8 := Hd ((hgr8.block w5.heap.size (lt_of_block HF.out) (by have := HGF.out; intro e; injection e with e; omega)).trans HF.out); have HB8 := Hd ((show Below w.heap.size w _ from Below.trans HB.out (Below.drew (Below.refl _ _))).grown hgr8 HB.out.size (fun k e => by cases e; exact Nat.le_refl _)); clear hg8 hgr8); refine hK.out _ _ ?_ (fun hHeld => ?_); (focus (first | exact z00 HF8.out | exact z00 HF.out)); clear hK K; (try simp only [PT]); refine wpAnyH_done (by kernel_rfl) ?_ _
    all_goals
      go_wp2_with fail
      (try simp only [Exit.inBlock, Exit.then, Exit.noGoto_ret])
      refine z25 (cs := spotC xs) rfl rfl (z00 HG8.out) Try.underlying49 rfl HI.out rfl ?_
      exact ⟨none, 0, 0, [], by rw [HE.out]; rfl, OwnOps.nil _ _ _, by rw [HE.out]; rfl, HB8.out⟩
theorem yields_str {P : Program} {ops : Array Oper} {o : Oper} {a : Act} {S : World → Prop} {src dst e : TypeId} (hs : P.underlying src = some (.slice e)) (he : P.underlying e = some (.int .u8)) (hd : P.underlying dst = some .string)
    (hg : Region.wanted o (yielded ops a.tmps) = true) (x : Operand) (hop : o.op = Op.convert src dst x) {ad : Option Addr} {n c : Nat} {l : List UInt8} (hx : a.eval x = .slice ad n c) (hb : ∀ v, S v → Bs v ad n c l) : YieldsIf P ops S o (.string (strOf l)) a := by
  refine Or.inl ⟨hg, fun w hw => ?_⟩
  simp only [execOp, hop, hx, Sem.run_bind, run_str hs he hd (hb w hw), Result.andThen_ok, Sem.run_pure]
theorem refSame_any (ad : Option Addr) (n c : Nat) (os : List OptV) (ad2 : Option Addr) (n2 c2 : Nat) (ps : List OptV) (w : World) (hs : Ops w ad n c os) (hs2 : Ops w ad2 n2 c2 ps) :
    Calls Try.prog 45 #[.slice ad n c, .slice ad2 n2 c2] w fun e w' => e = .returned (.bool (decide (vals os = vals ps))) ∧ Below w.heap.size w w' := by
  have hn := hs.len
  have hn2 := hs2.len
  have hle := hs.le
  have HS := Hd hs
  have HS2 := Hd hs2
  have HN := Hd hn
  have HN2 := Hd hn2
  by_cases hlen : n = n2
  · have HL := Hd hlen
    clear hs hs2 hn hn2
    subst hlen
    go_enter Try.func45, Try.ntmps45
    go_wp2_with fail
    go_loopw [5] (fun i wr => ∃ k : Nat, k ≤ n ∧ i = .int .i64 k ∧ Hid ((vals os).take k = (vals ps).take k) ∧ Below w.heap.size w wr) (fun i _ => n - (intOf i).toNat)
    case atStart => exact ⟨0, by omega, rfl, Hd rfl, Below.refl _ _⟩
    case round =>
      obtain ⟨k, hk, rfl, HT, hb⟩ := hrel
      have HB := Hd hb
      by_cases hlt : k < n
      · have hn := HN.out
        have hn2 := HN2.out
        obtain ⟨b, off, rfl, hbl, hat⟩ := (HS.out.below hb).at (j := k) (by omega)
        obtain ⟨b2, off2, rfl, hbl2, hat2⟩ := (HS2.out.below hb).at (j := k) (by omega)
        obtain ⟨q1, q2, hbs⟩ := hat k (by omega)
        obtain ⟨q3, q4, hbs2⟩ := hat2 k (by omega)
        obtain ⟨o, ho⟩ : ∃ o, o = os[k]'(by omega) := ⟨_, rfl⟩
        obtain ⟨p, hp⟩ : ∃ p, p = ps[k]'(by omega) := ⟨_, rfl⟩
        rw [← ho] at q1 q2 hbs
        rw [← hp] at q3 q4 hbs2
        have hk1 : k < (vals os).length := by rw [z0n]; omega
        have hk2 : k < (vals ps).length := by rw [z0n]; omega
        have HVo := Hd (show (vals os)[k] = (o.code, o.l) by rw [vals_get _ _ (by omega), ← ho]; rfl)
        have HVp := Hd (show (vals ps)[k] = (p.code, p.l) by rw [vals_get _ _ (by omega), ← hp]; rfl)
        have HBS := Hd hbs
        have HBS2 := Hd hbs2
        have HQ := Hd (And.intro q1 (And.intro q2 (And.intro q3 q4)))
        clear hat hat2 ho hp hbs hbs2 hn hn2 q1 q2 q3 q4 hb
        by_cases hc : o.code = p.code
        · by_cases hv : sameB o.l p.l = true
          · have hne : (o.code != p.code) = false := by simpa using hc
            have hve : ((strOf o.l).toList == (strOf p.l).toList) = true := by
              rw [z16, z16]
              simpa [sameB] using hv
            have HT2 : Hid ((vals os).take (k + 1) = (vals ps).take (k + 1)) := Hd (by
              rw [List.take_add_one, List.take_add_one, HT.out, List.getElem?_eq_getElem hk1, List.getElem?_eq_getElem hk2, HVo.out, HVp.out, hc, show o.l = p.l by simpa [sameB] using hv])
            go_wp2_with fail
            refine wp_region_held_drew (S := fun v => (v.cell? ⟨b, off + k * 2, none⟩ = some (.int .i64 o.code) ∧ v.cell? ⟨b2, off2 + k * 2, none⟩ = some (.int .i64 p.code)) ∧ (v.cell? ⟨b, off + k * 2 + 1, none⟩ = some (.slice o.ad o.n o.c) ∧ v.cell? ⟨b2, off2 + k * 2 + 1, none⟩ = some (.slice p.ad p.n p.c)) ∧ Bs v o.ad o.n o.c o.l ∧ Bs v p.ad p.n p.c p.l) (by kernel_rfl) ?_ (fun hHeld => ?_); (focus (exact ⟨⟨HQ.out.1, HQ.out.2.2.1⟩, ⟨HQ.out.2.1, HQ.out.2.2.2⟩, HBS.out.below (Below.drew (Below.refl _ _)), HBS2.out.below (Below.drew (Below.refl _ _))⟩)); (refine tk 0 (oi := ⟨some 17, _, _, _, _, _⟩) (v := ?_) rfl (by kernel_rfl) (.inl ⟨by rfl, ?_⟩) hHeld ?_; rotate_left; focus (intro w hSw; (try dsimp only at hSw); go_simp; try with_reducible rfl)); simp only [PT]; (refine tk 1 (oi := ⟨some 18, _, _, _, _, _⟩) (v := ?_) rfl (by kernel_rfl) (.inl ⟨by rfl, ?_⟩) hHeld ?_; rotate_left; focus (intro w hSw; (try dsimp only at hSw); go_simp; try with_reducible rfl)); simp only [PT]; (refine tk 2 (oi := ⟨some 19, _, _, _, _, _⟩) (v := ?_) rfl (by kernel_rfl) (.inl ⟨by rfl, ?_⟩) hHeld ?_; rotate_left; focus (intro w hSw; (try dsimp only at hSw); go_simp; try with_reducible rfl)); simp only [PT]; (refine tk 3 (oi := ⟨some 20, _, _, _, _, _⟩) (v := ?_) rfl (by kernel_rfl) (.inl ⟨by rfl, ?_⟩) hHeld ?_; rotate_left; focus (intro w hSw; (try dsimp only at hSw); go_simp; try with_reducible rfl)); simp only [PT]; (refine tk 4 (oi := ⟨some 21, _, _, _, _, _⟩) (v := ?_) rfl (by kernel_rfl) (.inl ⟨by rfl, ?_⟩) hHeld ?_; rotate_left; focus (intro w hSw; (try dsimp only at hSw); go_simp; try with_reducible rfl)); simp only [PT]; (refine tk 5 (oi := ⟨some 22, _, _, _, _, _⟩) (v := ?_) rfl (by kernel_rfl) (.inl ⟨by rfl, ?_⟩) hHeld ?_; rotate_left; focus (intro w hSw; (try dsimp only at hSw); go_simp; try with_reducible rfl)); simp only [PT]; (refine tk 6 (oi := ⟨some 23, _, _, _, _, _⟩) (v := ?_) rfl (by kernel_rfl) (.inl ⟨by rfl, ?_⟩) hHeld ?_; rotate_left; focus (intro w hSw; (try dsimp only at hSw); go_simp; try with_reducible rfl)); simp only [PT]; (refine tk 7 (oi := ⟨some 24, _, _, _, _, _⟩) (v := ?_) rfl (by kernel_rfl) (.inl ⟨by rfl, ?_⟩) hHeld ?_; rotate_left; focus (intro w hSw; (try dsimp only at hSw); go_simp; try with_reducible rfl)); simp only [PT]; (refine tk 8 (oi := ⟨some 25, _, _, _, _, _⟩) (v := ?_) rfl (by kernel_rfl) (.inl ⟨by rfl, ?_⟩) hHeld ?_; rotate_left; focus (intro w hSw; (try dsimp only at hSw); go_simp; try with_reducible rfl)); simp only [PT]; (refine tk 9 (oi := ⟨some 26, _, _, _, _, _⟩) (v := ?_) rfl (by kernel_rfl) (.inl ⟨by rfl, ?_⟩) hHeld ?_; rotate_left; focus (intro w hSw; (try dsimp only at hSw); go_simp; try with_reducible rfl)); simp only [PT]; (refine tk 10 (oi := ⟨some 27, _, _, _, _, _⟩) (v := ?_) rfl (by kernel_rfl) (.inl ⟨by rfl, ?_⟩) hHeld ?_; rotate_left; focus (intro w hSw; (try dsimp only at hSw); go_simp; try with_reducible rfl)); simp only [PT]; (refine tk 11 (oi := ⟨some 28, _, _, _, _, _⟩) (v := ?_) rfl (by kernel_rfl) (.inl ⟨by rfl, ?_⟩) hHeld ?_; rotate_left; focus (intro w hSw; (try dsimp only at hSw); go_simp; try with_reducible rfl)); simp only [PT]; (first | (refine tk 12 (oi := ⟨some 29, _, _, _, _, _⟩) (v := undef) rfl (by kernel_rfl) (.inr ⟨by rfl, rfl⟩) hHeld ?_) | (refine tk 12 (oi := ⟨some 29, _, _, _, _, _⟩) (v := ?_) rfl (by kernel_rfl) (.inl ⟨by rfl, ?_⟩) hHeld ?_; rotate_left; focus (intro w hSw; (try dsimp only at hSw); go_simp; try with_reducible rfl))); simp only [PT]; (first | (refine tk 13 (oi := ⟨some 30, _, _, _, _, _⟩) (v := undef) rfl (by kernel_rfl) (.inr ⟨by rfl, rfl⟩) hHeld ?_) | (refine tk 13 (oi := ⟨some 30, _, _, _, _, _⟩) (v := ?_) rfl (by kernel_rfl) (.inl ⟨by rfl, ?_⟩) hHeld ?_; rotate_left; focus (intro w hSw; (try dsimp only at hSw); go_simp; try with_reducible rfl))); simp only [PT]
            (first | (refine tk 14 (oi := ⟨some 31, _, _, _, _, _⟩) (v := undef) rfl (by kernel_rfl) (.inr ⟨by rfl, rfl⟩) hHeld ?_) | (refine tk 14 (oi := ⟨some 31, _, _, _, _, _⟩) (v := ?_) rfl (by kernel_rfl) (.inl ⟨by rfl, ?_⟩) hHeld ?_; rotate_left; focus (intro w hSw; (try dsimp only at hSw); go_simp; try with_reducible rfl))); simp only [PT]; (first | (refine tk 15 (oi := ⟨some 32, _, _, _, _, _⟩) (v := undef) rfl (by kernel_rfl) (.inr ⟨by rfl, rfl⟩) hHeld ?_) | (refine tk 15 (oi := ⟨some 32, _, _, _, _, _⟩) (v := ?_) rfl (by kernel_rfl) (.inl ⟨by rfl, ?_⟩) hHeld ?_; rotate_left; focus (intro w hSw; (try dsimp only at hSw); go_simp; try with_reducible rfl))); simp only [PT]; (first | (refine tk 16 (oi := ⟨some 33, _, _, _, _, _⟩) (v := undef) rfl (by kernel_rfl) (.inr ⟨by rfl, rfl⟩) hHeld ?_) | (refine tk 16 (oi := ⟨some 33, _, _, _, _, _⟩) (v := ?_) rfl (by kernel_rfl) (.inl ⟨by rfl, ?_⟩) hHeld ?_; rotate_left; focus (intro w hSw; (try dsimp only at hSw); go_simp; try with_reducible rfl))); simp only [PT]; (first | (refine tk 17 (oi := ⟨some 34, _, _, _, _, _⟩) (v := undef) rfl (by kernel_rfl) (.inr ⟨by rfl, rfl⟩) hHeld ?_) | (refine' tk 17 (oi := ⟨some 34, _, _, _, _, _⟩) (v := _) rfl (by kernel_rfl) (yields_str elB.1 (by kernel_rfl) (by kernel_rfl) (by rfl) _ rfl rfl (fun v h => h.2.2.1)) hHeld ?_)); simp only [PT]; (first | (refine tk 18 (oi := ⟨some 35, _, _, _, _, _⟩) (v := undef) rfl (by kernel_rfl) (.inr ⟨by rfl, rfl⟩) hHeld ?_) | (refine tk 18 (oi := ⟨some 35, _, _, _, _, _⟩) (v := ?_) rfl (by kernel_rfl) (.inl ⟨by rfl, ?_⟩) hHeld ?_; rotate_left; focus (intro w hSw; (try dsimp only at hSw); go_simp; try with_reducible rfl))); simp only [PT]; (first | (refine tk 19 (oi := ⟨some 36, _, _, _, _, _⟩) (v := undef) rfl (by kernel_rfl) (.inr ⟨by rfl, rfl⟩) hHeld ?_) | (refine tk 19 (oi := ⟨some 36, _, _, _, _, _⟩) (v := ?_) rfl (by kernel_rfl) (.inl ⟨by rfl, ?_⟩) hHeld ?_; rotate_left; focus (intro w hSw; (try dsimp only at hSw); go_simp; try with_reducible rfl))); simp only [PT]; (first | (refine tk 20 (oi := ⟨some 37, _, _, _, _, _⟩) (v := undef) rfl (by kernel_rfl) (.inr ⟨by rfl, rfl⟩) hHeld ?_) | (refine tk 20 (oi := ⟨some 37, _, _, _, _, _⟩) (v := ?_) rfl (by kernel_rfl) (.inl ⟨by rfl, ?_⟩) hHeld ?_; rotate_left; focus (intro w hSw; (try dsimp only at hSw); go_simp; try with_reducible rfl))); simp only [PT]; (first | (refine tk 21 (oi := ⟨some 38, _, _, _, _, _⟩) (v := undef) rfl (by kernel_rfl) (.inr ⟨by rfl, rfl⟩) hHeld ?_) | (refine tk 21 (oi := ⟨some 38, _, _, _, _, _⟩) (v := ?_) rfl (by kernel_rfl) (.inl ⟨by rfl, ?_⟩) hHeld ?_; rotate_left; focus (intro w hSw; (try dsimp only at hSw); go_simp; try with_reducible rfl))); simp only [PT]; (first | (refine tk 22 (oi := ⟨some 39, _, _, _, _, _⟩) (v := undef) rfl (by kernel_rfl) (.inr ⟨by rfl, rfl⟩) hHeld ?_) | (refine tk 22 (oi := ⟨some 39, _, _, _, _, _⟩) (v := ?_) rfl (by kernel_rfl) (.inl ⟨by rfl, ?_⟩) hHeld ?_; rotate_left; focus (intro w hSw; (try dsimp only at hSw); go_simp; try with_reducible rfl))); simp only [PT]; (first | (refine tk 23 (oi := ⟨some 40, _, _, _, _, _⟩) (v := undef) rfl (by kernel_rfl) (.inr ⟨by rfl, rfl⟩) hHeld ?_) | (refine' tk 23 (oi := ⟨some 40, _, _, _, _, _⟩) (v := _) rfl (by kernel_rfl) (yields_str elB.1 (by kernel_rfl) (by kernel_rfl) (by rfl) _ rfl rfl (fun v h => h.2.2.2)) hHeld ?_)); simp only [PT]; (first | (refine tk 24 (oi := ⟨some 41, _, _, _, _, _⟩) (v := undef) rfl (by kernel_rfl) (.inr ⟨by rfl, rfl⟩) hHeld ?_) | (refine tk 24 (oi := ⟨some 41, _, _, _, _, _⟩) (v := ?_) rfl (by kernel_rfl) (.inl ⟨by rfl, ?_⟩) hHeld ?_; rotate_left; focus (intro w hSw; (try dsimp only at hSw); go_simp; try with_reducible rfl))); simp only [PT]; (refine tk 25 (oi := ⟨some 42, _, _, _, _, _⟩) (v := ?_) rfl (by kernel_rfl) (.inl ⟨by rfl, ?_⟩) hHeld ?_; rotate_left; focus (intro w hSw; (try dsimp only at hSw); go_simp; try with_reducible rfl)); simp only [PT]; refine wpAnyH_done (by kernel_rfl) ?_ _
            go_wp2_with fail
            go_roundw
            case rel => exact ⟨k + 1, by omega, by go_num, HT2, HB.out.drew⟩
            case measure => simp [intOf]; omega
          · have hne : (o.code != p.code) = false := by simpa using hc
            have hve : ((strOf o.l).toList == (strOf p.l).toList) = false := by
              rw [z16, z16]
              simpa [sameB] using hv
            have HF : Hid (decide (vals os = vals ps) = false) := Hd (by
              have hnx : vals os ≠ vals ps := fun e => by
                have h1 := HVo.out
                have h2 := HVp.out
                simp only [e] at h1
                rw [h1] at h2
                exact hv (by rw [show o.l = p.l from congrArg Prod.snd h2]; exact sameB_self _)
              simpa using hnx)
            go_wp2_with fail
            refine wp_region_held_drew (S := fun v => (v.cell? ⟨b, off + k * 2, none⟩ = some (.int .i64 o.code) ∧ v.cell? ⟨b2, off2 + k * 2, none⟩ = some (.int .i64 p.code)) ∧ (v.cell? ⟨b, off + k * 2 + 1, none⟩ = some (.slice o.ad o.n o.c) ∧ v.cell? ⟨b2, off2 + k * 2 + 1, none⟩ = some (.slice p.ad p.n p.c)) ∧ Bs v o.ad o.n o.c o.l ∧ Bs v p.ad p.n p.c p.l) (by kernel_rfl) ?_ (fun hHeld => ?_); (focus (exact ⟨⟨HQ.out.1, HQ.out.2.2.1⟩, ⟨HQ.out.2.1, HQ.out.2.2.2⟩, HBS.out.below (Below.drew (Below.refl _ _)), HBS2.out.below (Below.drew (Below.refl _ _))⟩)); (refine tk 0 (oi := ⟨some 17, _, _, _, _, _⟩) (v := ?_) rfl (by kernel_rfl) (.inl ⟨by rfl, ?_⟩) hHeld ?_; rotate_left; focus (intro w hSw; (try dsimp only at hSw); go_simp; try with_reducible rfl)); simp only [PT]; (refine tk 1 (oi := ⟨some 18, _, _, _, _, _⟩) (v := ?_) rfl (by kernel_rfl) (.inl ⟨by rfl, ?_⟩) hHeld ?_; rotate_left; focus (intro w hSw; (try dsimp only at hSw); go_simp; try with_reducible rfl)); simp only [PT]; (refine tk 2 (oi := ⟨some 19, _, _, _, _, _⟩) (v := ?_) rfl (by kernel_rfl) (.inl ⟨by rfl, ?_⟩) hHeld ?_; rotate_left; focus (intro w hSw; (try dsimp only at hSw); go_simp; try with_reducible rfl)); simp only [PT]; (refine tk 3 (oi := ⟨some 20, _, _, _, _, _⟩) (v := ?_) rfl (by kernel_rfl) (.inl ⟨by rfl, ?_⟩) hHeld ?_; rotate_left; focus (intro w hSw; (try dsimp only at hSw); go_simp; try with_reducible rfl)); simp only [PT]; (refine tk 4 (oi := ⟨some 21, _, _, _, _, _⟩) (v := ?_) rfl (by kernel_rfl) (.inl ⟨by rfl, ?_⟩) hHeld ?_; rotate_left; focus (intro w hSw; (try dsimp only at hSw); go_simp; try with_reducible rfl)); simp only [PT]; (refine tk 5 (oi := ⟨some 22, _, _, _, _, _⟩) (v := ?_) rfl (by kernel_rfl) (.inl ⟨by rfl, ?_⟩) hHeld ?_; rotate_left; focus (intro w hSw; (try dsimp only at hSw); go_simp; try with_reducible rfl)); simp only [PT]; (refine tk 6 (oi := ⟨some 23, _, _, _, _, _⟩) (v := ?_) rfl (by kernel_rfl) (.inl ⟨by rfl, ?_⟩) hHeld ?_; rotate_left; focus (intro w hSw; (try dsimp only at hSw); go_simp; try with_reducible rfl)); simp only [PT]; (refine tk 7 (oi := ⟨some 24, _, _, _, _, _⟩) (v := ?_) rfl (by kernel_rfl) (.inl ⟨by rfl, ?_⟩) hHeld ?_; rotate_left; focus (intro w hSw; (try dsimp only at hSw); go_simp; try with_reducible rfl)); simp only [PT]; (refine tk 8 (oi := ⟨some 25, _, _, _, _, _⟩) (v := ?_) rfl (by kernel_rfl) (.inl ⟨by rfl, ?_⟩) hHeld ?_; rotate_left; focus (intro w hSw; (try dsimp only at hSw); go_simp; try with_reducible rfl)); simp only [PT]; (refine tk 9 (oi := ⟨some 26, _, _, _, _, _⟩) (v := ?_) rfl (by kernel_rfl) (.inl ⟨by rfl, ?_⟩) hHeld ?_; rotate_left; focus (intro w hSw; (try dsimp only at hSw); go_simp; try with_reducible rfl)); simp only [PT]; (refine tk 10 (oi := ⟨some 27, _, _, _, _, _⟩) (v := ?_) rfl (by kernel_rfl) (.inl ⟨by rfl, ?_⟩) hHeld ?_; rotate_left; focus (intro w hSw; (try dsimp only at hSw); go_simp; try with_reducible rfl)); simp only [PT]; (refine tk 11 (oi := ⟨some 28, _, _, _, _, _⟩) (v := ?_) rfl (by kernel_rfl) (.inl ⟨by rfl, ?_⟩) hHeld ?_; rotate_left; focus (intro w hSw; (try dsimp only at hSw); go_simp; try with_reducible rfl)); simp only [PT]; (first | (refine tk 12 (oi := ⟨some 29, _, _, _, _, _⟩) (v := undef) rfl (by kernel_rfl) (.inr ⟨by rfl, rfl⟩) hHeld ?_) | (refine tk 12 (oi := ⟨some 29, _, _, _, _, _⟩) (v := ?_) rfl (by kernel_rfl) (.inl ⟨by rfl, ?_⟩) hHeld ?_; rotate_left; focus (intro w hSw; (try dsimp only at hSw); go_simp; try with_reducible rfl))); simp only [PT]; (first | (refine tk 13 (oi := ⟨some 30, _, _, _, _, _⟩) (v := undef) rfl (by kernel_rfl) (.inr ⟨by rfl, rfl⟩) hHeld ?_) | (refine tk 13 (oi := ⟨some 30, _, _, _, _, _⟩) (v := ?_) rfl (by kernel_rfl) (.inl ⟨by rfl, ?_⟩) hHeld ?_; rotate_left; focus (intro w hSw; (try dsimp only at hSw); go_simp; try with_reducible rfl))); simp only [PT]
            (first | (refine tk 14 (oi := ⟨some 31, _, _, _, _, _⟩) (v := undef) rfl (by kernel_rfl) (.inr ⟨by rfl, rfl⟩) hHeld ?_) | (refine tk 14 (oi := ⟨some 31, _, _, _, _, _⟩) (v := ?_) rfl (by kernel_rfl) (.inl ⟨by rfl, ?_⟩) hHeld ?_; rotate_left; focus (intro w hSw; (try dsimp only at hSw); go_simp; try with_reducible rfl))); simp only [PT]; (first | (refine tk 15 (oi := ⟨some 32, _, _, _, _, _⟩) (v := undef) rfl (by kernel_rfl) (.inr ⟨by rfl, rfl⟩) hHeld ?_) | (refine tk 15 (oi := ⟨some 32, _, _, _, _, _⟩) (v := ?_) rfl (by kernel_rfl) (.inl ⟨by rfl, ?_⟩) hHeld ?_; rotate_left; focus (intro w hSw; (try dsimp only at hSw); go_simp; try with_reducible rfl))); simp only [PT]; (first | (refine tk 16 (oi := ⟨some 33, _, _, _, _, _⟩) (v := undef) rfl (by kernel_rfl) (.inr ⟨by rfl, rfl⟩) hHeld ?_) | (refine tk 16 (oi := ⟨some 33, _, _, _, _, _⟩) (v := ?_) rfl (by kernel_rfl) (.inl ⟨by rfl, ?_⟩) hHeld ?_; rotate_left; focus (intro w hSw; (try dsimp only at hSw); go_simp; try with_reducible rfl))); simp only [PT]; (first | (refine tk 17 (oi := ⟨some 34, _, _, _, _, _⟩) (v := undef) rfl (by kernel_rfl) (.inr ⟨by rfl, rfl⟩) hHeld ?_) | (refine' tk 17 (oi := ⟨some 34, _, _, _, _, _⟩) (v := _) rfl (by kernel_rfl) (yields_str elB.1 (by kernel_rfl) (by kernel_rfl) (by rfl) _ rfl rfl (fun v h => h.2.2.1)) hHeld ?_)); simp only [PT]; (first | (refine tk 18 (oi := ⟨some 35, _, _, _, _, _⟩) (v := undef) rfl (by kernel_rfl) (.inr ⟨by rfl, rfl⟩) hHeld ?_) | (refine tk 18 (oi := ⟨some 35, _, _, _, _, _⟩) (v := ?_) rfl (by kernel_rfl) (.inl ⟨by rfl, ?_⟩) hHeld ?_; rotate_left; focus (intro w hSw; (try dsimp only at hSw); go_simp; try with_reducible rfl))); simp only [PT]; (first | (refine tk 19 (oi := ⟨some 36, _, _, _, _, _⟩) (v := undef) rfl (by kernel_rfl) (.inr ⟨by rfl, rfl⟩) hHeld ?_) | (refine tk 19 (oi := ⟨some 36, _, _, _, _, _⟩) (v := ?_) rfl (by kernel_rfl) (.inl ⟨by rfl, ?_⟩) hHeld ?_; rotate_left; focus (intro w hSw; (try dsimp only at hSw); go_simp; try with_reducible rfl))); simp only [PT]; (first | (refine tk 20 (oi := ⟨some 37, _, _, _, _, _⟩) (v := undef) rfl (by kernel_rfl) (.inr ⟨by rfl, rfl⟩) hHeld ?_) | (refine tk 20 (oi := ⟨some 37, _, _, _, _, _⟩) (v := ?_) rfl (by kernel_rfl) (.inl ⟨by rfl, ?_⟩) hHeld ?_; rotate_left; focus (intro w hSw; (try dsimp only at hSw); go_simp; try with_reducible rfl))); simp only [PT]; (first | (refine tk 21 (oi := ⟨some 38, _, _, _, _, _⟩) (v := undef) rfl (by kernel_rfl) (.inr ⟨by rfl, rfl⟩) hHeld ?_) | (refine tk 21 (oi := ⟨some 38, _, _, _, _, _⟩) (v := ?_) rfl (by kernel_rfl) (.inl ⟨by rfl, ?_⟩) hHeld ?_; rotate_left; focus (intro w hSw; (try dsimp only at hSw); go_simp; try with_reducible rfl))); simp only [PT]; (first | (refine tk 22 (oi := ⟨some 39, _, _, _, _, _⟩) (v := undef) rfl (by kernel_rfl) (.inr ⟨by rfl, rfl⟩) hHeld ?_) | (refine tk 22 (oi := ⟨some 39, _, _, _, _, _⟩) (v := ?_) rfl (by kernel_rfl) (.inl ⟨by rfl, ?_⟩) hHeld ?_; rotate_left; focus (intro w hSw; (try dsimp only at hSw); go_simp; try with_reducible rfl))); simp only [PT]; (first | (refine tk 23 (oi := ⟨some 40, _, _, _, _, _⟩) (v := undef) rfl (by kernel_rfl) (.inr ⟨by rfl, rfl⟩) hHeld ?_) | (refine' tk 23 (oi := ⟨some 40, _, _, _, _, _⟩) (v := _) rfl (by kernel_rfl) (yields_str elB.1 (by kernel_rfl) (by kernel_rfl) (by rfl) _ rfl rfl (fun v h => h.2.2.2)) hHeld ?_)); simp only [PT]; (first | (refine tk 24 (oi := ⟨some 41, _, _, _, _, _⟩) (v := undef) rfl (by kernel_rfl) (.inr ⟨by rfl, rfl⟩) hHeld ?_) | (refine tk 24 (oi := ⟨some 41, _, _, _, _, _⟩) (v := ?_) rfl (by kernel_rfl) (.inl ⟨by rfl, ?_⟩) hHeld ?_; rotate_left; focus (intro w hSw; (try dsimp only at hSw); go_simp; try with_reducible rfl))); simp only [PT]; (refine tk 25 (oi := ⟨some 42, _, _, _, _, _⟩) (v := ?_) rfl (by kernel_rfl) (.inl ⟨by rfl, ?_⟩) hHeld ?_; rotate_left; focus (intro w hSw; (try dsimp only at hSw); go_simp; try with_reducible rfl)); simp only [PT]; refine wpAnyH_done (by kernel_rfl) ?_ _
            go_wp2_with fail
            go_ret
            exact ⟨by rw [HF.out]; rfl, HB.out.drew⟩
        · have HF : Hid (decide (vals os = vals ps) = false) := Hd (by
            have hne : vals os ≠ vals ps := fun e => hc (by
              have h1 := HVo.out
              have h2 := HVp.out
              simp only [e] at h1
              rw [h1] at h2
              exact congrArg Prod.fst h2)
            simpa using hne)
          have hne : (o.code != p.code) = true := by simpa using hc
          go_wp2_with fail
          refine wp_region_held_drew (S := fun v => v.cell? ⟨b, off + k * 2, none⟩ = some (.int .i64 o.code) ∧ v.cell? ⟨b2, off2 + k * 2, none⟩ = some (.int .i64 p.code)) (by kernel_rfl) ?_ (fun hHeld => ?_); (focus (exact ⟨HQ.out.1, HQ.out.2.2.1⟩)); (refine tk 0 (oi := ⟨some 17, _, _, _, _, _⟩) (v := ?_) rfl (by kernel_rfl) (.inl ⟨by rfl, ?_⟩) hHeld ?_; rotate_left; focus (intro w hSw; (try dsimp only at hSw); go_simp; try with_reducible rfl)); simp only [PT]; (refine tk 1 (oi := ⟨some 18, _, _, _, _, _⟩) (v := ?_) rfl (by kernel_rfl) (.inl ⟨by rfl, ?_⟩) hHeld ?_; rotate_left; focus (intro w hSw; (try dsimp only at hSw); go_simp; try with_reducible rfl)); simp only [PT]; (refine tk 2 (oi := ⟨some 19, _, _, _, _, _⟩) (v := ?_) rfl (by kernel_rfl) (.inl ⟨by rfl, ?_⟩) hHeld ?_; rotate_left; focus (intro w hSw; (try dsimp only at hSw); go_simp; try with_reducible rfl)); simp only [PT]; (refine tk 3 (oi := ⟨some 20, _, _, _, _, _⟩) (v := ?_) rfl (by kernel_rfl) (.inl ⟨by rfl, ?_⟩) hHeld ?_; rotate_left; focus (intro w hSw; (try dsimp only at hSw); go_simp; try with_reducible rfl)); simp only [PT]; (refine tk 4 (oi := ⟨some 21, _, _, _, _, _⟩) (v := ?_) rfl (by kernel_rfl) (.inl ⟨by rfl, ?_⟩) hHeld ?_; rotate_left; focus (intro w hSw; (try dsimp only at hSw); go_simp; try with_reducible rfl)); simp only [PT]; (refine tk 5 (oi := ⟨some 22, _, _, _, _, _⟩) (v := ?_) rfl (by kernel_rfl) (.inl ⟨by rfl, ?_⟩) hHeld ?_; rotate_left; focus (intro w hSw; (try dsimp only at hSw); go_simp; try with_reducible rfl)); simp only [PT]; (refine tk 6 (oi := ⟨some 23, _, _, _, _, _⟩) (v := ?_) rfl (by kernel_rfl) (.inl ⟨by rfl, ?_⟩) hHeld ?_; rotate_left; focus (intro w hSw; (try dsimp only at hSw); go_simp; try with_reducible rfl)); simp only [PT]; (refine tk 7 (oi := ⟨some 24, _, _, _, _, _⟩) (v := ?_) rfl (by kernel_rfl) (.inl ⟨by rfl, ?_⟩) hHeld ?_; rotate_left; focus (intro w hSw; (try dsimp only at hSw); go_simp; try with_reducible rfl)); simp only [PT]; (refine tk 8 (oi := ⟨some 25, _, _, _, _, _⟩) (v := ?_) rfl (by kernel_rfl) (.inl ⟨by rfl, ?_⟩) hHeld ?_; rotate_left; focus (intro w hSw; (try dsimp only at hSw); go_simp; try with_reducible rfl)); simp only [PT]; (refine tk 9 (oi := ⟨some 26, _, _, _, _, _⟩) (v := ?_) rfl (by kernel_rfl) (.inl ⟨by rfl, ?_⟩) hHeld ?_; rotate_left; focus (intro w hSw; (try dsimp only at hSw); go_simp; try with_reducible rfl)); simp only [PT]; (refine tk 10 (oi := ⟨some 27, _, _, _, _, _⟩) (v := ?_) rfl (by kernel_rfl) (.inl ⟨by rfl, ?_⟩) hHeld ?_; rotate_left; focus (intro w hSw; (try dsimp only at hSw); go_simp; try with_reducible rfl)); simp only [PT]; (refine tk 11 (oi := ⟨some 28, _, _, _, _, _⟩) (v := ?_) rfl (by kernel_rfl) (.inl ⟨by rfl, ?_⟩) hHeld ?_; rotate_left; focus (intro w hSw; (try dsimp only at hSw); go_simp; try with_reducible rfl)); simp only [PT]; (first | (refine tk 12 (oi := ⟨some 29, _, _, _, _, _⟩) (v := undef) rfl (by kernel_rfl) (.inr ⟨by rfl, rfl⟩) hHeld ?_) | (refine tk 12 (oi := ⟨some 29, _, _, _, _, _⟩) (v := ?_) rfl (by kernel_rfl) (.inl ⟨by rfl, ?_⟩) hHeld ?_; rotate_left; focus (intro w hSw; (try dsimp only at hSw); go_simp; try with_reducible rfl))); simp only [PT]; (first | (refine tk 13 (oi := ⟨some 30, _, _, _, _, _⟩) (v := undef) rfl (by kernel_rfl) (.inr ⟨by rfl, rfl⟩) hHeld ?_) | (refine tk 13 (oi := ⟨some 30, _, _, _, _, _⟩) (v := ?_) rfl (by kernel_rfl) (.inl ⟨by rfl, ?_⟩) hHeld ?_; rotate_left; focus (intro w hSw; (try dsimp only at hSw); go_simp; try with_reducible rfl))); simp only [PT]; (first | (refine tk 14 (oi := ⟨some 31, _, _, _, _, _⟩) (v := undef) rfl (by kernel_rfl) (.inr ⟨by rfl, rfl⟩) hHeld ?_) | (refine tk 14 (oi := ⟨some 31, _, _, _, _, _⟩) (v := ?_) rfl (by kernel_rfl) (.inl ⟨by rfl, ?_⟩) hHeld ?_; rotate_left; focus (intro w hSw; (try dsimp only at hSw); go_simp; try with_reducible rfl))); simp only [PT]
          (first | (refine tk 15 (oi := ⟨some 32, _, _, _, _, _⟩) (v := undef) rfl (by kernel_rfl) (.inr ⟨by rfl, rfl⟩) hHeld ?_) | (refine tk 15 (oi := ⟨some 32, _, _, _, _, _⟩) (v := ?_) rfl (by kernel_rfl) (.inl ⟨by rfl, ?_⟩) hHeld ?_; rotate_left; focus (intro w hSw; (try dsimp only at hSw); go_simp; try with_reducible rfl))); simp only [PT]; (first | (refine tk 16 (oi := ⟨some 33, _, _, _, _, _⟩) (v := undef) rfl (by kernel_rfl) (.inr ⟨by rfl, rfl⟩) hHeld ?_) | (refine tk 16 (oi := ⟨some 33, _, _, _, _, _⟩) (v := ?_) rfl (by kernel_rfl) (.inl ⟨by rfl, ?_⟩) hHeld ?_; rotate_left; focus (intro w hSw; (try dsimp only at hSw); go_simp; try with_reducible rfl))); simp only [PT]; (first | (refine tk 17 (oi := ⟨some 34, _, _, _, _, _⟩) (v := undef) rfl (by kernel_rfl) (.inr ⟨by rfl, rfl⟩) hHeld ?_) | (refine tk 17 (oi := ⟨some 34, _, _, _, _, _⟩) (v := ?_) rfl (by kernel_rfl) (.inl ⟨by rfl, ?_⟩) hHeld ?_; rotate_left; focus (intro w hSw; (try dsimp only at hSw); go_simp; try with_reducible rfl))); simp only [PT]; (first | (refine tk 18 (oi := ⟨some 35, _, _, _, _, _⟩) (v := undef) rfl (by kernel_rfl) (.inr ⟨by rfl, rfl⟩) hHeld ?_) | (refine tk 18 (oi := ⟨some 35, _, _, _, _, _⟩) (v := ?_) rfl (by kernel_rfl) (.inl ⟨by rfl, ?_⟩) hHeld ?_; rotate_left; focus (intro w hSw; (try dsimp only at hSw); go_simp; try with_reducible rfl))); simp only [PT]; (first | (refine tk 19 (oi := ⟨some 36, _, _, _, _, _⟩) (v := undef) rfl (by kernel_rfl) (.inr ⟨by rfl, rfl⟩) hHeld ?_) | (refine tk 19 (oi := ⟨some 36, _, _, _, _, _⟩) (v := ?_) rfl (by kernel_rfl) (.inl ⟨by rfl, ?_⟩) hHeld ?_; rotate_left; focus (intro w hSw; (try dsimp only at hSw); go_simp; try with_reducible rfl))); simp only [PT]; (first | (refine tk 20 (oi := ⟨some 37, _, _, _, _, _⟩) (v := undef) rfl (by kernel_rfl) (.inr ⟨by rfl, rfl⟩) hHeld ?_) | (refine tk 20 (oi := ⟨some 37, _, _, _, _, _⟩) (v := ?_) rfl (by kernel_rfl) (.inl ⟨by rfl, ?_⟩) hHeld ?_; rotate_left; focus (intro w hSw; (try dsimp only at hSw); go_simp; try with_reducible rfl))); simp only [PT]; (first | (refine tk 21 (oi := ⟨some 38, _, _, _, _, _⟩) (v := undef) rfl (by kernel_rfl) (.inr ⟨by rfl, rfl⟩) hHeld ?_) | (refine tk 21 (oi := ⟨some 38, _, _, _, _, _⟩) (v := ?_) rfl (by kernel_rfl) (.inl ⟨by rfl, ?_⟩) hHeld ?_; rotate_left; focus (intro w hSw; (try dsimp only at hSw); go_simp; try with_reducible rfl))); simp only [PT]; (first | (refine tk 22 (oi := ⟨some 39, _, _, _, _, _⟩) (v := undef) rfl (by kernel_rfl) (.inr ⟨by rfl, rfl⟩) hHeld ?_) | (refine tk 22 (oi := ⟨some 39, _, _, _, _, _⟩) (v := ?_) rfl (by kernel_rfl) (.inl ⟨by rfl, ?_⟩) hHeld ?_; rotate_left; focus (intro w hSw; (try dsimp only at hSw); go_simp; try with_reducible rfl))); simp only [PT]; (first | (refine tk 23 (oi := ⟨some 40, _, _, _, _, _⟩) (v := undef) rfl (by kernel_rfl) (.inr ⟨by rfl, rfl⟩) hHeld ?_) | (refine tk 23 (oi := ⟨some 40, _, _, _, _, _⟩) (v := ?_) rfl (by kernel_rfl) (.inl ⟨by rfl, ?_⟩) hHeld ?_; rotate_left; focus (intro w hSw; (try dsimp only at hSw); go_simp; try with_reducible rfl))); simp only [PT]; (first | (refine tk 24 (oi := ⟨some 41, _, _, _, _, _⟩) (v := undef) rfl (by kernel_rfl) (.inr ⟨by rfl, rfl⟩) hHeld ?_) | (refine tk 24 (oi := ⟨some 41, _, _, _, _, _⟩) (v := ?_) rfl (by kernel_rfl) (.inl ⟨by rfl, ?_⟩) hHeld ?_; rotate_left; focus (intro w hSw; (try dsimp only at hSw); go_simp; try with_reducible rfl))); simp only [PT]; (refine tk 25 (oi := ⟨some 42, _, _, _, _, _⟩) (v := ?_) rfl (by kernel_rfl) (.inl ⟨by rfl, ?_⟩) hHeld ?_; rotate_left; focus (intro w hSw; (try dsimp only at hSw); go_simp; try with_reducible rfl)); simp only [PT]; refine wpAnyH_done (by kernel_rfl) ?_ _
          go_wp2_with fail
          go_ret
          exact ⟨by rw [HF.out]; rfl, HB.out.drew⟩
      · have HF : Hid (decide (vals os = vals ps) = true) := Hd (by
          have h := HT.out
          have e1 := HN.out
          have e2 := HN2.out
          rw [List.take_of_length_le (by rw [z0n]; omega), List.take_of_length_le (by rw [z0n]; omega)] at h
          simpa using h)
        go_wp2_with fail
        go_ret
        exact ⟨by rw [HF.out]; rfl, HB.out⟩
  · have HF : Hid (decide (vals os = vals ps) = false) := Hd (by
      have hnx : vals os ≠ vals ps := fun e => hlen (by
        have := congrArg List.length e
        rw [z0n, z0n] at this
        omega)
      simpa using hnx)
    clear hs hs2 hn hn2
    go_enter Try.func45, Try.ntmps45
    go_wp2_with fail
    go_ret
    exact ⟨by rw [HF.out]; rfl, Below.refl _ _⟩
theorem same1_any (o p : OptV) (w : World) (hs : Bs w o.ad o.n o.c o.l) (hs2 : Bs w p.ad p.n p.c p.l) :
    Calls Try.prog 74 #[.agg o.cells.toArray, .agg p.cells.toArray] w fun e w' => e = .returned (.bool (o.code == p.code && sameB o.l p.l)) ∧ Below w.heap.size w w' := by
  have hb : Below w.heap.size w ((w.alloc (.cells o.cells.toArray 90)).alloc (.cells p.cells.toArray 90)) := bup
  have HB := Hd hb
  have q0 : ((w.alloc (.cells o.cells.toArray 90)).alloc (.cells p.cells.toArray 90)).cell? ⟨w.heap.size, 0, none⟩ = some (.int .i64 o.code) := by simp [OptV.cells]
  have q1 : ((w.alloc (.cells o.cells.toArray 90)).alloc (.cells p.cells.toArray 90)).cell? ⟨w.heap.size, 1, none⟩ = some (.slice o.ad o.n o.c) := by simp [OptV.cells]
  have q2 : ((w.alloc (.cells o.cells.toArray 90)).alloc (.cells p.cells.toArray 90)).cell? ⟨w.heap.size + 1, 0, none⟩ = some (.int .i64 p.code) := by simp [OptV.cells]
  have q3 : ((w.alloc (.cells o.cells.toArray 90)).alloc (.cells p.cells.toArray 90)).cell? ⟨w.heap.size + 1, 1, none⟩ = some (.slice p.ad p.n p.c) := by simp [OptV.cells]
  have HS := Hd (hs.below hb)
  have HS2 := Hd (hs2.below hb)
  clear hb hs hs2
  by_cases hc : o.code = p.code
  · have hne : (o.code == p.code) = true := by simpa using hc
    have HH := Hd hne
    clear hc
    go_enter Try.func74, Try.ntmps74
    go_wp2_with (first
 | (go_at_call 43; (refine (bytesEqual_any o.ad o.n o.c o.l p.ad p.n p.c p.l _ HS.out HS2.out).mono ?_); rintro e w' ⟨rfl, rfl⟩))
    go_ret
    exact ⟨by rw [HH.out]; rfl, HB.out⟩
  · have hne : (o.code == p.code) = false := by simpa using hc
    have HH := Hd hne
    clear hc
    go_enter Try.func74, Try.ntmps74
    go_wp2_with fail
    go_ret
    exact ⟨by rw [HH.out]; rfl, HB.out⟩
theorem wpL_storeC {P : Program} {ops : Array Oper} {rest : List Oper} {o : Oper} {a : Act} {w : World} {Q : Exit → Act → World → Prop} (hgd : o.guard = none) (ty : TypeId) (x y : Operand) (ho : o.op = .store ty x y)
    (g : Nat) (cs : Array Value) (hx : a.eval x = .pointer (some ⟨g, 0, none⟩)) (hy : a.eval y = .agg cs) {T : TypeId} {old : Array Value} (hg : w.heap[g]? = some (.cells old T (0, 0))) (hi : (P.info? ty).map (·.size) = some cs.size) (hl : old.size = cs.size) (h1 : cs.all (·.oneCell') = true)
    (h : ∀ w1, w1.heap[g]? = some (.cells cs T (0, 0)) → w.grownBy w1 (some g) → wpList P ops Q rest (a.put o.dst undef) w1) : wpList P ops Q (o :: rest) a w :=
  wpList_store_row hgd ty x y ho g cs hx hy T _ hg hi hl h1 (h _ (setRow_heap w g _ _ T _ hg) ⟨rfl, rfl, rfl, by simp [World.setRow], fun k _ hk => setRow_other w g k _ (fun e => hk (by rw [e]))⟩)
theorem equalFunc_any (ad : Option Addr) (n c : Nat) (os : List OptV) (ad2 : Option Addr) (n2 c2 : Nat) (ps : List OptV) (w : World) (hs : Ops w ad n c os) (hs2 : Ops w ad2 n2 c2 ps) :
    Calls Try.prog 73 #[.slice ad n c, .slice ad2 n2 c2, .func (.func 74) #[] #[]] w fun e w' => e = .returned (.bool (decide (vals os = vals ps))) ∧ Below w.heap.size w w' := by
  have hn := hs.len
  have hn2 := hs2.len
  have hle := hs.le
  have HS := Hd hs
  have HS2 := Hd hs2
  have HN := Hd hn
  have HN2 := Hd hn2
  have HI : Hid ((Try.prog.info? 90).map (·.size) = some 2) := Hd (by kernel_rfl)
  by_cases hlen : n = n2
  · clear hs hs2 hn hn2
    subst hlen
    go_enter Try.func73, Try.ntmps73
    go_wp2_with fail
    go_loopw [17] (fun i wr => ∃ k : Nat, k ≤ n ∧ i = .int .i64 k ∧ Hid ((vals os).take k = (vals ps).take k) ∧ Below w.heap.size w wr) (fun i _ => n - (intOf i).toNat)
    case atStart => exact ⟨0, by omega, rfl, Hd rfl, Below.refl _ _⟩
    case round =>
      obtain ⟨k, hk, rfl, HT, hb⟩ := hrel
      have HB := Hd hb
      by_cases hlt : k < n
      · have hko : k < os.length := by have := HN.out; omega
        have hkp : k < ps.length := by have := HN2.out; omega
        obtain ⟨b, off, rfl, hbl, hat⟩ := (HS.out.below hb).at (j := k) hko
        obtain ⟨b2, off2, rfl, hbl2, hat2⟩ := (HS2.out.below hb).at (j := k) hkp
        obtain ⟨q1, q2, hbs⟩ := hat k hko
        obtain ⟨q3, q4, hbs2⟩ := hat2 k hkp
        obtain ⟨o, ho⟩ : ∃ o, o = os[k] := ⟨_, rfl⟩
        obtain ⟨p, hp⟩ : ∃ p, p = ps[k] := ⟨_, rfl⟩
        rw [← ho] at q1 q2 hbs
        rw [← hp] at q3 q4 hbs2
        have hk1 : k < (vals os).length := by rw [z0n]; omega
        have hk2 : k < (vals ps).length := by rw [z0n]; omega
        have HVo := Hd (show (vals os)[k] = (o.code, o.l) by rw [vals_get _ _ hko, ← ho]; rfl)
        have HVp := Hd (show (vals ps)[k] = (p.code, p.l) by rw [vals_get _ _ hkp, ← hp]; rfl)
        have HBS := Hd hbs
        have HBS2 := Hd hbs2
        have HR := Hd (ocell_range q1 q2)
        have HR2 := Hd (ocell_range q3 q4)
        clear hat hat2 ho hp hbs hbs2 q1 q2 q3 q4 hb
        by_cases hq : (o.code = p.code ∧ o.l = p.l)
        · have HD := Hd (show (o.code == p.code && sameB o.l p.l) = true by rw [hq.1, hq.2, sameB_self]; simp)
          have HT2 : Hid ((vals os).take (k + 1) = (vals ps).take (k + 1)) := Hd (by
            rw [List.take_add_one, List.take_add_one, HT.out, List.getElem?_eq_getElem hk1, List.getElem?_eq_getElem hk2, HVo.out, HVp.out, hq.1, hq.2])
          clear hq
          go_wp2_with (first
 | ((with_reducible refine sl 21 ?_); (refine z05 rfl 90 (.tmp 20) rfl b (off + k * 2) rfl o.cells _ HR.out Try.underlying90 rfl HI.out ?_); simp only [PT])
 | ((with_reducible show wpList _ _ _ (⟨none, .store _ _ (.tmp 21), _, _, _, _⟩ :: _) _ _); (refine wpL_storeC (T := 90) (old := #[.int .i64 0, .slice none 0 0]) rfl 90 (.tmp 8) (.tmp 21) rfl wr.heap.size o.cells.toArray rfl rfl (heap_alloc_last wr _) HI.out rfl (ocell_all o) ?_); intro w1 hg1 hgr1; have hb1 : Below wr.heap.size wr w1 := ((Below.refl wr.heap.size wr).alloc (Nat.le_refl _) _).grown hgr1 (by simp) (fun k e => by cases e; exact Nat.le_refl _); have HG1 := Hd hg1; have HB1 := Hd hb1; have hE__ := cU HB bup hb1; replace HB := ck HB hE__; clear hE__; clear hg1 hgr1 hb1; simp only [PT])
 | ((with_reducible refine sl 25 ?_); (refine z05 rfl 90 (.tmp 24) rfl b2 (off2 + k * 2) rfl p.cells _ (range_below HR2.out hbl2 HB1.out) Try.underlying90 rfl HI.out ?_); simp only [PT])
 | ((with_reducible refine sl 9 ?_); (refine wpL_newO p rfl rfl 90 rfl (.tmp 9) (.tmp 25) rfl #[.int .i64 0, .slice none 0 0] (by kernel_rfl) rfl (fun _ => rfl) (fun _ => rfl) ?_); intro w2 hg2 hb2; have HG2 : Hid (w2.heap[w1.heap.size]? = some (.cells p.cells.toArray 90 (0, 0))) := Hd hg2; have hE__ := cU HB bup hb2; replace HB := ck HB hE__; replace HG1 := ck HG1 hE__; replace HB1 := ck HB1 hE__; clear hE__; clear hg2 hb2; simp only [PT])
 | ((with_reducible refine sl 27 ?_); (refine z05 rfl 90 (.tmp 8) rfl wr.heap.size 0 rfl o.cells _ (z00 HG1.out) Try.underlying90 rfl HI.out ?_); simp only [PT])
 | ((with_reducible refine sl 28 ?_); (refine z05 rfl 90 (.tmp 9) rfl w1.heap.size 0 rfl p.cells _ (z00 HG2.out) Try.underlying90 rfl HI.out ?_); simp only [PT])
 | (go_at_call 74; (refine (same1_any o p _ (HBS.out.below HB1.out) (HBS2.out.below HB1.out)).mono ?_); intro e w5 hr5; rw [HD.out] at hr5; obtain ⟨rfl, hb5⟩ := hr5; have hE__ := cU HB bup hb5; replace HB := ck HB hE__; clear hE__; clear hb5))
          go_roundw
          case rel => exact ⟨k + 1, by omega, by go_num, HT2, HB.out⟩
          case measure => simp [intOf]; omega
        · have HD := Hd (show (o.code == p.code && sameB o.l p.l) = false by
            by_cases e : o.code = p.code
            · have e2 : ¬ o.l = p.l := fun h => hq ⟨e, h⟩
              simp [sameB, e2]
            · simp [e])
          have HF : Hid (decide (vals os = vals ps) = false) := Hd (by
            have hnx : vals os ≠ vals ps := fun e => by
              have h1 := HVo.out
              have h2 := HVp.out
              simp only [e] at h1
              rw [h1] at h2
              exact hq ⟨congrArg Prod.fst h2, congrArg Prod.snd h2⟩
            simpa using hnx)
          clear hq
          go_wp2_with (first
 | ((with_reducible refine sl 21 ?_); (refine z05 rfl 90 (.tmp 20) rfl b (off + k * 2) rfl o.cells _ HR.out Try.underlying90 rfl HI.out ?_); simp only [PT])
 | ((with_reducible show wpList _ _ _ (⟨none, .store _ _ (.tmp 21), _, _, _, _⟩ :: _) _ _); (refine wpL_storeC (T := 90) (old := #[.int .i64 0, .slice none 0 0]) rfl 90 (.tmp 8) (.tmp 21) rfl wr.heap.size o.cells.toArray rfl rfl (heap_alloc_last wr _) HI.out rfl (ocell_all o) ?_); intro w1 hg1 hgr1; have hb1 : Below wr.heap.size wr w1 := ((Below.refl wr.heap.size wr).alloc (Nat.le_refl _) _).grown hgr1 (by simp) (fun k e => by cases e; exact Nat.le_refl _); have HG1 := Hd hg1; have HB1 := Hd hb1; have hE__ := cU HB bup hb1; replace HB := ck HB hE__; clear hE__; clear hg1 hgr1 hb1; simp only [PT])
 | ((with_reducible refine sl 25 ?_); (refine z05 rfl 90 (.tmp 24) rfl b2 (off2 + k * 2) rfl p.cells _ (range_below HR2.out hbl2 HB1.out) Try.underlying90 rfl HI.out ?_); simp only [PT])
 | ((with_reducible refine sl 9 ?_); (refine wpL_newO p rfl rfl 90 rfl (.tmp 9) (.tmp 25) rfl #[.int .i64 0, .slice none 0 0] (by kernel_rfl) rfl (fun _ => rfl) (fun _ => rfl) ?_); intro w2 hg2 hb2; have HG2 : Hid (w2.heap[w1.heap.size]? = some (.cells p.cells.toArray 90 (0, 0))) := Hd hg2; have hE__ := cU HB bup hb2; replace HB := ck HB hE__; replace HG1 := ck HG1 hE__; replace HB1 := ck HB1 hE__; clear hE__; clear hg2 hb2; simp only [PT])
 | ((with_reducible refine sl 27 ?_); (refine z05 rfl 90 (.tmp 8) rfl wr.heap.size 0 rfl o.cells _ (z00 HG1.out) Try.underlying90 rfl HI.out ?_); simp only [PT])
 | ((with_reducible refine sl 28 ?_); (refine z05 rfl 90 (.tmp 9) rfl w1.heap.size 0 rfl p.cells _ (z00 HG2.out) Try.underlying90 rfl HI.out ?_); simp only [PT])
 | (go_at_call 74; (refine (same1_any o p _ (HBS.out.below HB1.out) (HBS2.out.below HB1.out)).mono ?_); intro e w5 hr5; rw [HD.out] at hr5; obtain ⟨rfl, hb5⟩ := hr5; have hE__ := cU HB bup hb5; replace HB := ck HB hE__; clear hE__; clear hb5))
          go_ret
          exact ⟨by rw [HF.out]; rfl, HB.out⟩
      · have HF : Hid (decide (vals os = vals ps) = true) := Hd (by
          have h := HT.out
          have e1 := HN.out
          have e2 := HN2.out
          rw [List.take_of_length_le (by rw [z0n]; omega), List.take_of_length_le (by rw [z0n]; omega)] at h
          simpa using h)
        go_wp2_with fail
        go_ret
        exact ⟨by rw [HF.out]; rfl, HB.out⟩
  · have HF : Hid (decide (vals os = vals ps) = false) := Hd (by
      have hnx : vals os ≠ vals ps := fun e => hlen (by
        have := congrArg List.length e
        rw [z0n, z0n] at this
        omega)
      simpa using hnx)
    clear hs hs2 hn hn2
    go_enter Try.func73, Try.ntmps73
    go_wp2_with fail
    go_ret
    exact ⟨by rw [HF.out]; rfl, Below.refl _ _⟩
theorem optSame_any (ad : Option Addr) (n c : Nat) (os : List OptV) (ad2 : Option Addr) (n2 c2 : Nat) (ps : List OptV) (w : World) (hs : Ops w ad n c os) (hs2 : Ops w ad2 n2 c2 ps) :
    Calls Try.prog 44 #[.slice ad n c, .slice ad2 n2 c2] w fun e w' => e = .returned (.bool (decide (vals os = vals ps))) ∧ Below w.heap.size w w' := by
  have HS := Hd hs
  have HS2 := Hd hs2
  have HB := Hd (Below.refl w.heap.size w)
  clear hs hs2
  go_enter Try.func44, Try.ntmps44
  go_wp2_with (first
 | (go_at_call 73; (refine (equalFunc_any ad n c os ad2 n2 c2 ps _ HS.out HS2.out).mono ?_); rintro e w5 ⟨rfl, hb5⟩; have hE__ := cU HB bup hb5; replace HB := ck HB hE__; clear hE__; clear hb5))
  go_ret
  exact ⟨rfl, HB.out⟩
structure PB where
  kind : Int
  big : Bool
  type : Nat
  link : Int
  snap : Nat
  iface : Int
  time : Nat
  len : Nat
  data : List UInt8
  names : List OV
  opts : List OV
def noneB : PB := ⟨0, false, 0, 0, 0, 0, 0, 0, [], [], []⟩
def sameP (a b : PB) : Bool := a.kind == b.kind && a.big == b.big && a.type == b.type && a.link == b.link && a.snap == b.snap && a.iface == b.iface && a.time == b.time && a.len == b.len && sameB a.data b.data && decide (a.names = b.names) && decide (a.opts = b.opts)
theorem sameP_iff (a b : PB) : sameP a b = true ↔ a = b := by
  obtain ⟨a1, a2, a3, a4, a5, a6, a7, a8, a9, a10, a11⟩ := a
  obtain ⟨b1, b2, b3, b4, b5, b6, b7, b8, b9, b10, b11⟩ := b
  simp [sameP, sameB, and_assoc]
def kindP (t : Nat) : Int := if t = 168627466 then 1 else if t = 1 then 2 else if t = 6 then 3 else if t = 3 then 4 else if t = 4 then 5 else if t = 5 then 6 else 7
def typeP (k : Int) : Nat := if k = 1 then 168627466 else if k = 2 then 1 else if k = 3 then 6 else if k = 4 then 3 else if k = 5 then 4 else if k = 6 then 5 else 0
def fitsP (x : PB) : Bool :=
  (!x.big || x.kind == 1) && (x.type == 0 || x.kind == 7) && (x.link == 0 || x.kind == 2) && (x.snap == 0 || x.kind == 2) &&
  ((x.iface == 0 && x.time == 0) || x.kind == 3 || x.kind == 6) && (x.len == 0 || x.kind == 3 || x.kind == 4) && (x.data.length == 0 || x.kind == 3 || x.kind == 4 || x.kind == 7) &&
  (x.names.length == 0 || x.kind == 5) && (x.opts.length == 0 || (x.kind != 4 && x.kind != 7))
def lastP (x : PB) : Bool :=
  (x.kind != 4 || x.data.length == x.len || (decide (x.data.length < x.len) && x.data.length % 4 == 0)) && (x.kind != 7 || (x.data.length % 4 == 0 && kindP x.type == 7))
def mayP (x : PB) : Bool :=
  decide (1 ≤ x.kind) && decide (x.kind ≤ 7) && fitsP x && decide (0 ≤ x.link) && decide (x.link ≤ 65535) && decide (0 ≤ x.iface) && decide (x.iface ≤ 4294967295) && (wrongO x.opts == 0) && (wrongO x.names == 0) && lastP x
def timeB (big : Bool) (n : Nat) : List UInt8 := putL (n / 4294967296) 4 big ++ putL (n % 4294967296) 4 big
def namesB (big : Bool) (l : List OV) : List UInt8 := if l.isEmpty then [0, 0, 0, 0] else putAll big l
def fieldsB (big : Bool) (x : PB) : List UInt8 :=
  if x.kind = 1 then putL 439041101 4 big ++ (putL 1 2 big ++ ([0, 0] ++ List.replicate 8 255))
  else if x.kind = 2 then putL x.link.toNat 2 big ++ ([0, 0] ++ putL x.snap 4 big)
  else if x.kind = 3 then putL x.iface.toNat 4 big ++ (timeB big x.time ++ (putL x.data.length 4 big ++ (putL x.len 4 big ++ padL x.data)))
  else if x.kind = 4 then putL x.len 4 big ++ padL x.data
  else if x.kind = 5 then namesB big x.names
  else if x.kind = 6 then putL x.iface.toNat 4 big ++ timeB big x.time
  else x.data
def bodyB (big : Bool) (x : PB) : List UInt8 := fieldsB big x ++ putAll big x.opts
def sizeB (x : PB) : Nat := 12 + (bodyB true x).length
def ordB (big : Bool) (x : PB) : Bool := if x.kind = 1 then x.big else big
def typeB (x : PB) : Nat := if x.kind = 7 then x.type else typeP x.kind
def bytesB (big : Bool) (x : PB) : List UInt8 :=
  putL (typeB x) 4 (ordB big x) ++ (putL (sizeB x) 4 (ordB big x) ++ (bodyB (ordB big x) x ++ putL (sizeB x) 4 (ordB big x)))
def rightP (x : PB) : Bool := mayP x && decide (sizeB x ≤ 1048576)
theorem z06 (n : Nat) (big : Bool) : (putL n 4 big).length = 4 := by rw [z1n]; rfl
theorem z0q (big : Bool) (l : List OV) : (putAll big l).length = sizeO l + (if l.isEmpty then 0 else 4) := by
  unfold putAll endO
  rw [List.length_append, putO_length]
  cases l <;> rfl
theorem z24 (big : Bool) (l : List OV) : (namesB big l).length = sizeO l + 4 := by
  unfold namesB
  cases l with
  | nil => rfl
  | cons o l => simp [z0q]
theorem fieldsB_length (big : Bool) (x : PB) : (fieldsB big x).length = (fieldsB true x).length := by
  unfold fieldsB timeB
  repeat' split
  all_goals simp [z06, z0m, z24]
theorem z32 (big : Bool) (x : PB) : (bodyB big x).length = (bodyB true x).length := by
  unfold bodyB
  rw [List.length_append, List.length_append, fieldsB_length big, z0q, z0q]
theorem z2p (big : Bool) (x : PB) : (bytesB big x).length = sizeB x := by
  unfold bytesB sizeB
  simp only [List.length_append, z06, z32 (ordB big x)]
  omega
theorem putL_mod4 (n : Nat) (big : Bool) : putL (n % 4294967296) 4 big = putL n 4 big := by
  have h : ∀ k, k < 4 → byteAt (n % 4294967296) k = byteAt n k := fun k hk => by
    apply UInt8.toNat_inj.1
    rw [z21, z21]
    match k, hk with
    | 0, _ => show n % 4294967296 / 1 % 256 = n / 1 % 256; omega
    | 1, _ => show n % 4294967296 / 256 % 256 = n / 256 % 256; omega
    | 2, _ => show n % 4294967296 / 65536 % 256 = n / 65536 % 256; omega
    | 3, _ => show n % 4294967296 / 16777216 % 256 = n / 16777216 % 256; omega
  have e : putLE (n % 4294967296) (sizeOf8 4) = putLE n (sizeOf8 4) := by
    unfold putLE
    refine List.map_congr_left fun i hi => h i ?_
    have : sizeOf8 4 = 4 := rfl
    rw [this] at hi
    simpa using hi
  unfold putL
  rw [e]
def w4 (big : Bool) (b : List UInt8) (k : Nat) : Nat := getN ((b.drop k).take 4) big
def w2 (big : Bool) (b : List UInt8) (k : Nat) : Nat := getN ((b.drop k).take 2) big
def openP (kind : Int) (t : Nat) (b : List UInt8) (big : Bool) : Option (PB × List UInt8) :=
  if kind = 1 then (if b.length < 16 then none else if w2 big b 4 = 1 then some ({ noneB with kind := 1, big := big }, b.drop 16) else none)
  else if kind = 2 then (if b.length < 8 then none else some ({ noneB with kind := 2, link := (w2 big b 0 : Int), snap := w4 big b 4 }, b.drop 8))
  else if kind = 3 then (if b.length < 20 then none else if b.length - 20 < w4 big b 12 + padN (w4 big b 12) then none else
    some ({ noneB with kind := 3, iface := (w4 big b 0 : Int), time := w4 big b 4 * 4294967296 + w4 big b 8, len := w4 big b 16, data := (b.drop 20).take (w4 big b 12) }, b.drop (20 + (w4 big b 12 + padN (w4 big b 12)))))
  else if kind = 4 then (if b.length < 4 then none else some ({ noneB with kind := 4, len := w4 big b 0, data := (b.drop 4).take (w4 big b 0) }, []))
  else if kind = 5 then (if (rowsO big b).2.2 = (0, 0) then some ({ noneB with kind := 5, names := (rowsO big b).1 }, b.drop (rowsO big b).2.1) else none)
  else if kind = 6 then (if b.length < 12 then none else some ({ noneB with kind := 6, iface := (w4 big b 0 : Int), time := w4 big b 4 * 4294967296 + w4 big b 8 }, b.drop 12))
  else some ({ noneB with kind := 7, type := t, data := b }, [])
def endP (big : Bool) (n : Nat) : Option (PB × List UInt8) → PB × Nat × Int
  | none => (noneB, 0, 3)
  | some (x, r) => if (readO big r).2 = (0, 0) then ({ x with opts := (readO big r).1 }, n, 0) else (noneB, 0, 3)
def getQ (big : Bool) (b : List UInt8) (t : Nat) : PB × Nat × Int :=
  if w4 big b 4 < 12 ∨ w4 big b 4 % 4 ≠ 0 then (noneB, 0, 3)
  else if 1048576 < w4 big b 4 then (noneB, 0, 4)
  else if b.length < w4 big b 4 then (noneB, 0, 2)
  else if w4 big b (w4 big b 4 - 4) ≠ w4 big b 4 then (noneB, 0, 3)
  else endP big (w4 big b 4) (openP (kindP t) t ((b.take (w4 big b 4 - 4)).drop 8) big)
def getP (big : Bool) (b : List UInt8) : PB × Nat × Int :=
  if b.length < 12 then (noneB, 0, 2)
  else if w4 big b 0 = 168627466 then
    (if w4 true b 8 = 439041101 then getQ true b (w4 big b 0) else if w4 false b 8 = 439041101 then getQ false b (w4 big b 0) else (noneB, 0, 3))
  else getQ big b (w4 big b 0)
theorem w4_lt (big : Bool) (b : List UInt8) (k : Nat) : w4 big b k < 4294967296 := by
  unfold w4 getN
  have h : ∀ m : List UInt8, m.length ≤ 4 → numBE m < 4294967296 := fun m hm =>
    Nat.lt_of_lt_of_le (numBE_lt m) (Nat.pow_le_pow_right (n := 256) (by omega) hm)
  split
  · exact h _ (by simp; omega)
  · exact h _ (by simp; omega)
theorem w2_lt (big : Bool) (b : List UInt8) (k : Nat) : w2 big b k < 65536 := by
  unfold w2 getN
  have h : ∀ m : List UInt8, m.length ≤ 2 → numBE m < 65536 := fun m hm =>
    Nat.lt_of_lt_of_le (numBE_lt m) (Nat.pow_le_pow_right (n := 256) (by omega) hm)
  split
  · exact h _ (by simp; omega)
  · exact h _ (by simp; omega)
theorem w4_at (big : Bool) (p q : List UInt8) (n k : Nat) (hn : n < 4294967296) (hk : p.length = k) : w4 big (p ++ (putL n 4 big ++ q)) k = n := by
  unfold w4
  rw [List.drop_left' hk, List.take_left' (z06 _ _), getN_putL]
  exact Nat.mod_eq_of_lt hn
theorem w4_zero (big : Bool) (q : List UInt8) (n : Nat) (hn : n < 4294967296) : w4 big (putL n 4 big ++ q) 0 = n := w4_at big [] q n 0 hn rfl
theorem w2_at (big : Bool) (p q : List UInt8) (n k : Nat) (hn : n < 65536) (hk : p.length = k) : w2 big (p ++ (putL n 2 big ++ q)) k = n := by
  unfold w2
  rw [List.drop_left' hk, List.take_left' (z0m _ _), getN_putL]
  exact Nat.mod_eq_of_lt hn
theorem readO_putAll (big : Bool) (l : List OV) (h : ∀ o ∈ l, okO o) : readO big (putAll big l) = (l, (0, 0)) := by
  have := readO_lay big 0 l h
  rwa [layP_zero] at this
theorem rowsO_names (big : Bool) (l : List OV) (h : ∀ o ∈ l, okO o) (t : List UInt8) : rowsO big (namesB big l ++ t) = (l, sizeO l + 4, (0, 0)) := by
  cases l with
  | nil =>
    unfold namesB rowsO rowsB
    rw [show (List.isEmpty ([] : List OV)) = true from rfl, if_pos rfl, show (([0, 0, 0, 0] : List UInt8) ++ t).length = (t.length + 3) + 1 by simp]
    rw [rowsS_end]
    rfl
  | cons o l =>
    have := rowsO_more big 0 (o :: l) h (by simp) t
    rw [layP_zero] at this
    exact this
theorem kindP_type (k : Int) (h1 : 1 ≤ k) (h2 : k ≤ 6) : kindP (typeP k) = k := by
  have : k = 1 ∨ k = 2 ∨ k = 3 ∨ k = 4 ∨ k = 5 ∨ k = 6 := by omega
  rcases this with rfl | rfl | rfl | rfl | rfl | rfl <;> rfl
theorem time_back (n : Nat) (h : n < 18446744073709551616) : n / 4294967296 * 4294967296 + n % 4294967296 = n := by omega
theorem z1c (x : PB) : mayP x = true ↔ (1 ≤ x.kind ∧ x.kind ≤ 7) ∧ fitsP x = true ∧ (0 ≤ x.link ∧ x.link ≤ 65535) ∧ (0 ≤ x.iface ∧ x.iface ≤ 4294967295) ∧ wrongO x.opts = 0 ∧ wrongO x.names = 0 ∧ lastP x = true := by
  simp [mayP, and_assoc]
def wfB (x : PB) : Prop := x.type < 4294967296 ∧ x.snap < 4294967296 ∧ x.time < 18446744073709551616 ∧ x.len < 4294967296
theorem open_back (big : Bool) (x : PB) (h : mayP x = true) (hw : wfB x) (hs : sizeB x ≤ 1048576) : openP x.kind x.type (bodyB big x) big = some ({ x with opts := [], big := if x.kind = 1 then big else x.big }, putAll big x.opts) := by
  obtain ⟨⟨h1, h7⟩, hf, ⟨hl0, hl1⟩, ⟨hi0, hi1⟩, ho, hn, hlast⟩ := (z1c x).1 h
  have hno := z2q.1 hn
  obtain ⟨kind, bg, type, link, snap, iface, time, len, data, names, opts⟩ := x
  obtain ⟨w1, w2', w3, w4'⟩ := hw
  simp only at *
  have hk : kind = 1 ∨ kind = 2 ∨ kind = 3 ∨ kind = 4 ∨ kind = 5 ∨ kind = 6 ∨ kind = 7 := by omega
  have hlen : (bodyB big ⟨kind, bg, type, link, snap, iface, time, len, data, names, opts⟩).length ≤ 1048576 := by
    rw [z32]; unfold sizeB at hs; omega
  rcases hk with rfl | rfl | rfl | rfl | rfl | rfl | rfl
  · simp [fitsP, and_assoc] at hf
    obtain ⟨rfl, rfl, rfl, rfl, rfl, rfl, rfl, rfl⟩ := hf
    have e : bodyB big ⟨1, bg, 0, 0, 0, 0, 0, 0, [], [], opts⟩ = putL 439041101 4 big ++ (putL 1 2 big ++ ([0, 0] ++ (List.replicate 8 255 ++ putAll big opts))) := by
      simp [bodyB, fieldsB, List.append_assoc]
    rw [e]
    have hd : (putL 439041101 4 big ++ (putL 1 2 big ++ (([0, 0] : List UInt8) ++ (List.replicate 8 255 ++ putAll big opts)))).drop 16 = putAll big opts := by
      rw [← List.append_assoc, ← List.append_assoc, ← List.append_assoc]
      exact List.drop_left' (by simp [z06, z0m])
    unfold openP
    rw [if_pos rfl, if_neg (by simp [z06, z0m]; omega), if_pos (w2_at big _ _ 1 4 (by omega) (z06 _ _)), hd]
    rfl
  · simp [fitsP, and_assoc] at hf
    obtain ⟨rfl, rfl, rfl, rfl, rfl, rfl, rfl⟩ := hf
    have e : bodyB big ⟨2, false, 0, link, snap, 0, 0, 0, [], [], opts⟩ = putL link.toNat 2 big ++ ([0, 0] ++ (putL snap 4 big ++ putAll big opts)) := by
      simp [bodyB, fieldsB, List.append_assoc]
    rw [e]
    have hd : (putL link.toNat 2 big ++ (([0, 0] : List UInt8) ++ (putL snap 4 big ++ putAll big opts))).drop 8 = putAll big opts := by
      rw [← List.append_assoc, ← List.append_assoc]
      exact List.drop_left' (by simp [z06, z0m])
    have h4 : w4 big (putL link.toNat 2 big ++ (([0, 0] : List UInt8) ++ (putL snap 4 big ++ putAll big opts))) 4 = snap := by
      rw [← List.append_assoc]
      exact w4_at big _ _ snap 4 w2' (by simp [z0m])
    unfold openP
    rw [if_neg (by decide), if_pos rfl, if_neg (by simp [z06, z0m]; omega), hd, h4, show w2 big (putL link.toNat 2 big ++ (([0, 0] : List UInt8) ++ (putL snap 4 big ++ putAll big opts))) 0 = link.toNat from w2_at big [] _ link.toNat 0 (by omega) rfl]
    simp [noneB, Int.toNat_of_nonneg hl0]
  · simp [fitsP, and_assoc] at hf
    obtain ⟨rfl, rfl, rfl, rfl, rfl⟩ := hf
    have e : bodyB big ⟨3, false, 0, 0, 0, iface, time, len, data, [], opts⟩ = putL iface.toNat 4 big ++ (putL (time / 4294967296) 4 big ++ (putL (time % 4294967296) 4 big ++ (putL data.length 4 big ++ (putL len 4 big ++ (padL data ++ putAll big opts))))) := by
      simp [bodyB, fieldsB, timeB, List.append_assoc]
    rw [e] at hlen ⊢
    have hl : data.length < 4294967296 := by
      simp only [List.length_append, z06, z0w] at hlen
      omega
    obtain ⟨b, hb⟩ : ∃ b, b = putL iface.toNat 4 big ++ (putL (time / 4294967296) 4 big ++ (putL (time % 4294967296) 4 big ++ (putL data.length 4 big ++ (putL len 4 big ++ (padL data ++ putAll big opts))))) := ⟨_, rfl⟩
    have q0 : w4 big b 0 = iface.toNat := by rw [hb]; exact w4_zero big _ _ (by omega)
    have q4 : w4 big b 4 = time / 4294967296 := by rw [hb]; exact w4_at big _ _ _ 4 (by omega) (z06 _ _)
    have q8 : w4 big b 8 = time % 4294967296 := by rw [hb, ← List.append_assoc]; exact w4_at big _ _ _ 8 (by omega) (by simp [z06])
    have q12 : w4 big b 12 = data.length := by rw [hb, ← List.append_assoc, ← List.append_assoc]; exact w4_at big _ _ _ 12 hl (by simp [z06])
    have q16 : w4 big b 16 = len := by rw [hb, ← List.append_assoc, ← List.append_assoc, ← List.append_assoc]; exact w4_at big _ _ _ 16 w4' (by simp [z06])
    have d20 : b.drop 20 = padL data ++ putAll big opts := by
      rw [hb, ← List.append_assoc, ← List.append_assoc, ← List.append_assoc, ← List.append_assoc]
      exact List.drop_left' (by simp [z06])
    have dall : b.drop (20 + (data.length + padN data.length)) = putAll big opts := by
      rw [← List.drop_drop, d20]
      exact List.drop_left' (by rw [z0w])
    have dt : (b.drop 20).take data.length = data := by
      rw [d20]
      unfold padL
      rw [List.append_assoc]
      exact List.take_left' rfl
    have bl : b.length = 20 + (data.length + padN data.length) + (putAll big opts).length := by
      rw [hb]; simp only [List.length_append, z06, z0w]; omega
    rw [← hb]
    unfold openP
    rw [if_neg (by decide), if_neg (by decide), if_pos rfl, if_neg (by omega), q12, if_neg (by omega), q0, q4, q8, q16, dall, dt, time_back time w3]
    simp [noneB, Int.toNat_of_nonneg hi0]
  · simp [fitsP, and_assoc] at hf
    obtain ⟨rfl, rfl, rfl, rfl, rfl, rfl, rfl, rfl⟩ := hf
    simp [lastP] at hlast
    have e : bodyB big ⟨4, false, 0, 0, 0, 0, 0, len, data, [], []⟩ = putL len 4 big ++ padL data := by
      simp [bodyB, fieldsB, putAll, putO, endO]
    rw [e]
    have q0 : w4 big (putL len 4 big ++ padL data) 0 = len := w4_zero big _ _ (by omega)
    have d4 : (putL len 4 big ++ padL data).drop 4 = padL data := List.drop_left' (z06 _ _)
    have dt : (padL data).take len = data := by
      rcases hlast with hlast | ⟨hl1, hl2⟩
      · unfold padL; exact List.take_left' hlast
      · unfold padL
        have : padN data.length = 0 := by unfold padN; omega
        rw [this, List.replicate_zero, List.append_nil]
        exact List.take_of_length_le (by omega)
    unfold openP
    rw [if_neg (by decide), if_neg (by decide), if_neg (by decide), if_pos rfl, if_neg (by simp [z06]), q0, d4, dt]
    simp [noneB, putAll, putO, endO]
  · simp [fitsP, and_assoc] at hf
    obtain ⟨rfl, rfl, rfl, rfl, rfl, rfl, rfl, rfl⟩ := hf
    have e : bodyB big ⟨5, false, 0, 0, 0, 0, 0, 0, [], names, opts⟩ = namesB big names ++ putAll big opts := by simp [bodyB, fieldsB]
    rw [e]
    have hr := rowsO_names big names hno (putAll big opts)
    have hd : (namesB big names ++ putAll big opts).drop (sizeO names + 4) = putAll big opts := List.drop_left' (z24 _ _)
    unfold openP
    rw [if_neg (by decide), if_neg (by decide), if_neg (by decide), if_neg (by decide), if_pos rfl, hr, if_pos rfl, hd]
    simp [noneB]
  · simp [fitsP, and_assoc] at hf
    obtain ⟨rfl, rfl, rfl, rfl, rfl, rfl, rfl⟩ := hf
    have e : bodyB big ⟨6, false, 0, 0, 0, iface, time, 0, [], [], opts⟩ = putL iface.toNat 4 big ++ (putL (time / 4294967296) 4 big ++ (putL (time % 4294967296) 4 big ++ putAll big opts)) := by
      simp [bodyB, fieldsB, timeB, List.append_assoc]
    rw [e]
    obtain ⟨b, hb⟩ : ∃ b, b = putL iface.toNat 4 big ++ (putL (time / 4294967296) 4 big ++ (putL (time % 4294967296) 4 big ++ putAll big opts)) := ⟨_, rfl⟩
    have q0 : w4 big b 0 = iface.toNat := by rw [hb]; exact w4_zero big _ _ (by omega)
    have q4 : w4 big b 4 = time / 4294967296 := by rw [hb]; exact w4_at big _ _ _ 4 (by omega) (z06 _ _)
    have q8 : w4 big b 8 = time % 4294967296 := by rw [hb, ← List.append_assoc]; exact w4_at big _ _ _ 8 (by omega) (by simp [z06])
    have d12 : b.drop 12 = putAll big opts := by
      rw [hb, ← List.append_assoc, ← List.append_assoc]
      exact List.drop_left' (by simp [z06])
    have bl : 12 ≤ b.length := by
      rw [hb]; simp only [List.length_append, z06]; omega
    rw [← hb]
    unfold openP
    rw [if_neg (by decide), if_neg (by decide), if_neg (by decide), if_neg (by decide), if_neg (by decide), if_pos rfl, if_neg (by omega), q0, q4, q8, d12, time_back time w3]
    simp [noneB, Int.toNat_of_nonneg hi0]
  · simp [fitsP, and_assoc] at hf
    obtain ⟨rfl, rfl, rfl, rfl, rfl, rfl, rfl, rfl⟩ := hf
    have e : bodyB big ⟨7, false, type, 0, 0, 0, 0, 0, data, [], []⟩ = data := by simp [bodyB, fieldsB, putAll, putO, endO]
    rw [e]
    unfold openP
    simp [noneB, putAll, putO, endO]
theorem fieldsB_mod (big : Bool) (x : PB) (h : mayP x = true) : (fieldsB big x).length % 4 = 0 := by
  obtain ⟨⟨h1, h7⟩, hf, _, _, ho, hn, hlast⟩ := (z1c x).1 h
  unfold fieldsB timeB
  split
  · simp [z06, z0m]
  · split
    · simp [z06, z0m]
    · split
      · simp only [List.length_append, z06, z0w]
        have := padN_mod x.data.length
        omega
      · split
        · simp only [List.length_append, z06, z0w]
          have := padN_mod x.data.length
          omega
        · split
          · rw [z24]; have := sizeO_mod x.names; omega
          · split
            · simp only [List.length_append, z06]
            · have hk : x.kind = 7 := by omega
              simp [lastP, hk] at hlast
              exact hlast.1
theorem sizeB_mod (x : PB) (h : mayP x = true) : sizeB x % 4 = 0 := by
  have h1 := fieldsB_mod true x h
  have h2 := sizeO_mod x.opts
  unfold sizeB bodyB
  rw [List.length_append, z0q]
  split <;> omega
theorem sizeB_ge (x : PB) : 12 ≤ sizeB x := by unfold sizeB; omega
theorem w4_take (big : Bool) (b : List UInt8) (k n : Nat) (h : k + 4 ≤ n) : w4 big (b.take n) k = w4 big b k := by
  unfold w4
  rw [List.drop_take, List.take_take, Nat.min_eq_left (by omega)]
theorem order_type (g big : Bool) : putL 168627466 4 g = putL 168627466 4 big := by cases g <;> cases big <;> rfl
theorem type_not (x : PB) (h : mayP x = true) (hk : x.kind ≠ 1) : typeB x ≠ 168627466 := by
  obtain ⟨⟨h1, h7⟩, hf, _, _, ho, hn, hlast⟩ := (z1c x).1 h
  unfold typeB
  split
  · rename_i h7'
    simp [lastP, h7'] at hlast
    intro e
    rw [e] at hlast
    exact absurd hlast.2 (by decide)
  · have : x.kind = 2 ∨ x.kind = 3 ∨ x.kind = 4 ∨ x.kind = 5 ∨ x.kind = 6 := by omega
    rcases this with e | e | e | e | e <;> rw [e] <;> decide
theorem type_lt (x : PB) (h : mayP x = true) (hw : wfB x) : typeB x < 4294967296 := by
  unfold typeB
  split
  · exact hw.1
  · unfold typeP
    repeat' split
    all_goals omega
theorem kind_back (x : PB) (h : mayP x = true) : kindP (typeB x) = x.kind := by
  obtain ⟨⟨h1, h7⟩, hf, _, _, ho, hn, hlast⟩ := (z1c x).1 h
  unfold typeB
  split
  · rename_i h7'
    simp [lastP, h7'] at hlast
    rw [h7', hlast.2]
  · exact kindP_type _ h1 (by omega)
theorem endP_some (big : Bool) (n : Nat) (x : PB) (r : List UInt8) : endP big n (some (x, r)) = if (readO big r).2 = (0, 0) then ({ x with opts := (readO big r).1 }, n, 0) else (noneB, 0, 3) := rfl
theorem get_head (x : PB) (h : mayP x = true) (hw : wfB x) (hs : sizeB x ≤ 1048576) (big : Bool) (b : List UInt8) (hl : 12 ≤ b.length) (h8 : b.take 8 = (bytesB big x).take 8) (h12 : x.kind = 1 → b.take 12 = (bytesB big x).take 12) :
    getP big b = getQ (ordB big x) b (typeB x) ∧ w4 (ordB big x) b 4 = sizeB x := by
  have e4 : w4 (ordB big x) b 4 = sizeB x := by
    rw [← w4_take _ b 4 8 (by omega), h8, w4_take _ _ 4 8 (by omega)]
    exact w4_at _ _ _ _ 4 (by omega) (z06 _ _)
  refine ⟨?_, e4⟩
  have e0 : w4 big b 0 = typeB x := by
    rw [← w4_take _ b 0 8 (by omega), h8, w4_take _ _ 0 8 (by omega)]
    by_cases hk : x.kind = 1
    · have ht : typeB x = 168627466 := by unfold typeB typeP; rw [if_neg (by omega), if_pos hk]
      unfold bytesB
      rw [ht, order_type (ordB big x) big]
      exact w4_zero _ _ _ (by omega)
    · have hg : ordB big x = big := by unfold ordB; rw [if_neg hk]
      unfold bytesB
      rw [hg]
      exact w4_zero _ _ _ (type_lt x h hw)
  unfold getP
  rw [if_neg (by omega), e0]
  by_cases hk : x.kind = 1
  · have ht : typeB x = 168627466 := by unfold typeB typeP; rw [if_neg (by omega), if_pos hk]
    have hb : ∀ g, w4 g b 8 = getN (putL 439041101 4 (ordB big x)) g := fun g => by
      rw [← w4_take _ b 8 12 (by omega), h12 hk, w4_take _ _ 8 12 (by omega)]
      unfold bytesB w4 bodyB fieldsB
      rw [if_pos hk, ← List.append_assoc (putL (typeB x) 4 _), List.drop_left' (by simp [z06])]
      simp only [List.append_assoc]
      rw [List.take_left' (z06 _ _)]
    rw [if_pos ht, hb, hb]
    cases ordB big x
    · rw [if_neg (by decide), if_pos (by decide)]
    · rw [if_pos (by decide)]
  · rw [if_neg (type_not x h hk)]
    unfold ordB
    rw [if_neg hk]
theorem openP_type (k : Int) (t t' : Nat) (b : List UInt8) (big : Bool) (h1 : 1 ≤ k) (h6 : k ≤ 6) : openP k t b big = openP k t' b big := by
  have : k = 1 ∨ k = 2 ∨ k = 3 ∨ k = 4 ∨ k = 5 ∨ k = 6 := by omega
  rcases this with rfl | rfl | rfl | rfl | rfl | rfl <;> rfl
theorem get_back (x : PB) (h : mayP x = true) (hw : wfB x) (hs : sizeB x ≤ 1048576) (big : Bool) (more : List UInt8) : getP big (bytesB big x ++ more) = (x, sizeB x, 0) := by
  obtain ⟨⟨h1, h7⟩, hf, _, _, ho, hn, hlast⟩ := (z1c x).1 h
  have hlen := z2p big x
  have hge := sizeB_ge x
  obtain ⟨q1, q2⟩ := get_head x h hw hs big (bytesB big x ++ more) (by rw [List.length_append]; omega) (List.take_append_of_le_length (by omega)) (fun _ => List.take_append_of_le_length (by omega))
  obtain ⟨g, hg⟩ : ∃ g, g = ordB big x := ⟨_, rfl⟩
  rw [← hg] at q1 q2
  have hbl : (bodyB g x).length + 12 = sizeB x := by rw [z32]; unfold sizeB; omega
  have e : bytesB big x ++ more = putL (typeB x) 4 g ++ (putL (sizeB x) 4 g ++ (bodyB g x ++ (putL (sizeB x) 4 g ++ more))) := by
    unfold bytesB
    rw [← hg]
    simp only [List.append_assoc]
  have el : w4 g (bytesB big x ++ more) (sizeB x - 4) = sizeB x := by
    rw [e, ← List.append_assoc, ← List.append_assoc]
    exact w4_at g _ _ _ _ (by omega) (by simp only [List.length_append, z06]; omega)
  have eb : ((bytesB big x ++ more).take (sizeB x - 4)).drop 8 = bodyB g x := by
    rw [e, List.drop_take, ← List.append_assoc, List.drop_left' (by simp [z06])]
    exact List.take_left' (by omega)
  have ek : openP (kindP (typeB x)) (typeB x) (bodyB g x) g = openP x.kind x.type (bodyB g x) g := by
    rw [kind_back x h]
    by_cases hk : x.kind = 7
    · unfold typeB; rw [if_pos hk]
    · exact openP_type _ _ _ _ _ h1 (by omega)
  rw [q1]
  unfold getQ
  rw [q2, if_neg (by have := sizeB_mod x h; omega), if_neg (by omega), if_neg (by rw [List.length_append]; omega), el, if_neg (by simp), eb, ek, open_back g x h hw hs]
  rw [endP_some, readO_putAll g x.opts (z2q.1 ho), if_pos rfl]
  refine Prod.ext ?_ rfl
  obtain ⟨kind, bg, type, link, snap, iface, time, len, data, names, opts⟩ := x
  simp only [ordB] at hg
  simp only [PB.mk.injEq, true_and, and_true]
  split
  · rename_i hk; rw [hg, if_pos hk]
  · rfl
theorem bytesB_section (x : PB) (hk : x.kind = 1) (b1 b2 : Bool) : bytesB b1 x = bytesB b2 x := by
  unfold bytesB ordB
  rw [if_pos hk, if_pos hk]
theorem rowsS_ok (big : Bool) : ∀ (f : Nat) (s : List UInt8) (at_ : Nat) (acc : List OV), s.length ≤ f → (∀ o ∈ acc, okO o) → (rowsS big f s at_ acc).2.2.2 = (0, 0) →
    (∀ o ∈ (rowsS big f s at_ acc).1, okO o) ∧ sizeO (rowsS big f s at_ acc).1 + cond (rowsS big f s at_ acc).2.2.1 4 0 + at_ = sizeO acc + (rowsS big f s at_ acc).2.1
  | 0, s, at_, acc, hs, ha, h => ⟨ha, by simp [rowsS]⟩
  | f + 1, s, at_, acc, hs, ha, h => by
    simp only [rowsS] at h ⊢
    split at h
    · rename_i h0; rw [if_pos h0]; exact ⟨ha, by simp⟩
    · rename_i h0
      rw [if_neg h0]
      split at h
      · simp at h
      · rename_i h1
        rw [if_neg h1]
        split at h
        · rename_i h2; rw [if_pos h2]; refine ⟨ha, ?_⟩; simp; omega
        · rename_i h2
          rw [if_neg h2]
          split at h
          · simp at h
          · rename_i h3
            rw [if_neg h3]
            split at h
            · simp at h
            · rename_i h4
              rw [if_neg h4]
              have hc : codeOf big s ≤ 65535 := by
                have := w2_lt big s 0
                unfold w2 at this
                unfold codeOf
                rw [List.drop_zero] at this
                omega
              have hz : sizeOf2 big s ≤ 65535 := by
                have := w2_lt big s 2
                unfold w2 at this
                unfold sizeOf2
                omega
              have hl : ((s.drop 4).take (sizeOf2 big s)).length = sizeOf2 big s := by rw [List.length_take, List.length_drop]; omega
              have ih := rowsS_ok big f (s.drop (4 + sizeOf2 big s + padN (sizeOf2 big s))) (at_ + (4 + sizeOf2 big s + padN (sizeOf2 big s))) (acc ++ [((codeOf big s : Int), (s.drop 4).take (sizeOf2 big s))]) (by rw [List.length_drop]; omega) (fun o ho => by
                rcases List.mem_append.1 ho with ho | ho
                · exact ha o ho
                · simp at ho
                  subst ho
                  exact ⟨by show (1 : Int) ≤ (codeOf big s : Int); omega, by show (codeOf big s : Int) ≤ 65535; omega, by show ((s.drop 4).take (sizeOf2 big s)).length ≤ 65535; omega⟩) h
              refine ⟨ih.1, ?_⟩
              have h5 := ih.2
              rw [sizeO_append] at h5
              have h6 : sizeO [((codeOf big s : Int), (s.drop 4).take (sizeOf2 big s))] = 4 + sizeOf2 big s + padN (sizeOf2 big s) := by
                simp only [sizeO, List.map_cons, List.map_nil, List.sum_cons, List.sum_nil, lenO, hl]
                omega
              rw [h6] at h5
              omega
theorem readO_ok (big : Bool) (r : List UInt8) (h : (readO big r).2 = (0, 0)) : (∀ o ∈ (readO big r).1, okO o) ∧ sizeO (readO big r).1 ≤ r.length := by
  unfold readO readR at h ⊢
  split at h
  · rename_i h0
    rw [if_pos h0]
    split at h
    · simp at h
    · rename_i h1
      rw [if_neg h1]
      have ha := rowsS_at big r.length r 0 [] (Nat.le_refl _) h0
      have hk := rowsS_ok big r.length r 0 [] (Nat.le_refl _) (by simp) h0
      refine ⟨hk.1, ?_⟩
      show sizeO (rowsB big r).1 ≤ r.length
      have h2 := hk.2
      have h3 := ha.1
      have h4 : sizeO ([] : List OV) = 0 := rfl
      unfold rowsB
      omega
  · rename_i h0
    exact absurd h h0
theorem rowsO_ok (big : Bool) (r : List UInt8) (h : (rowsO big r).2.2 = (0, 0)) : (∀ o ∈ (rowsO big r).1, okO o) ∧ sizeO (rowsO big r).1 + 4 = (rowsO big r).2.1 ∧ (rowsO big r).2.1 ≤ r.length := by
  unfold rowsO rowsR at h ⊢
  split at h
  · rename_i h0
    rw [if_pos h0]
    split at h
    · rename_i h1
      rw [if_pos h1]
      have ha := rowsS_at big r.length r 0 [] (Nat.le_refl _) h0
      have hk := rowsS_ok big r.length r 0 [] (Nat.le_refl _) (by simp) h0
      refine ⟨hk.1, ?_⟩
      have h2 := hk.2
      have h3 := ha.1
      have h4 : sizeO ([] : List OV) = 0 := rfl
      show sizeO (rowsB big r).1 + 4 = (rowsB big r).2.1 ∧ (rowsB big r).2.1 ≤ r.length
      unfold rowsB at h1 ⊢
      rw [h1] at h2
      simp only [cond_true] at h2
      exact ⟨by omega, by omega⟩
    · simp at h
  · rename_i h0
    exact absurd h h0
theorem putAll_le (big : Bool) (l : List OV) : (putAll big l).length ≤ sizeO l + 4 := by rw [z0q]; split <;> omega
theorem open_ok (big : Bool) (t : Nat) (ht : t < 4294967296) (b r : List UInt8) (x : PB) (hm : b.length % 4 = 0) (hb : b.length ≤ 1048576) (h : openP (kindP t) t b big = some (x, r)) (l : List OV) (hl : ∀ o ∈ l, okO o) (hs : sizeO l ≤ r.length) (hr0 : r = [] → l = []) :
    mayP { x with opts := l } = true ∧ wfB { x with opts := l } ∧ sizeB { x with opts := l } ≤ b.length + 16 := by
  have hp := putAll_le true l
  have ho := z2q.2 hl
  have hz : wrongO [] = 0 := rfl
  unfold openP at h
  split at h
  · split at h
    · cases h
    · split at h
      · rename_i hk h16 hv
        simp only [Option.some.injEq, Prod.mk.injEq] at h
        obtain ⟨rfl, rfl⟩ := h
        rw [List.length_drop] at hs
        refine ⟨(z1c _).2 ⟨⟨by simp, by simp⟩, by simp [fitsP, noneB], by simp [noneB], by simp [noneB], ho, by simp [noneB, wrongO], by simp [lastP]⟩, by simp [wfB, noneB], ?_⟩
        simp only [sizeB, bodyB, fieldsB, noneB, if_true, List.length_append, z06, z0m, List.length_replicate, List.length_cons, List.length_nil]
        omega
      · cases h
  · split at h
    · split at h
      · cases h
      · rename_i hk h8
        simp only [Option.some.injEq, Prod.mk.injEq] at h
        obtain ⟨rfl, rfl⟩ := h
        rw [List.length_drop] at hs
        have a1 := w2_lt big b 0
        have a2 := w4_lt big b 4
        refine ⟨(z1c _).2 ⟨⟨by simp, by simp⟩, by simp [fitsP, noneB], by simp; omega, by simp [noneB], ho, by simp [noneB, wrongO], by simp [lastP]⟩, by simp [wfB, noneB]; omega, ?_⟩
        simp [sizeB, bodyB, fieldsB, noneB, z06, z0m]
        omega
    · split at h
      · split at h
        · cases h
        · split at h
          · cases h
          · rename_i hk h20 hlen
            simp only [Option.some.injEq, Prod.mk.injEq] at h
            obtain ⟨rfl, rfl⟩ := h
            rw [List.length_drop] at hs
            have a0 := w4_lt big b 0
            have a4 := w4_lt big b 4
            have a8 := w4_lt big b 8
            have a12 := w4_lt big b 12
            have a16 := w4_lt big b 16
            have hd : ((b.drop 20).take (w4 big b 12)).length = w4 big b 12 := by rw [List.length_take, List.length_drop]; omega
            refine ⟨(z1c _).2 ⟨⟨by simp, by simp⟩, by simp [fitsP, noneB], by simp [noneB], by simp; omega, ho, by simp [noneB, wrongO], by simp [lastP]⟩, by simp [wfB, noneB]; omega, ?_⟩
            simp only [sizeB, bodyB, fieldsB, timeB, noneB, List.length_append, z06, z0w, hd]
            simp
            simp only [z06, z0w, hd]
            omega
      · split at h
        · split at h
          · cases h
          · rename_i hk h4
            simp only [Option.some.injEq, Prod.mk.injEq] at h
            obtain ⟨rfl, rfl⟩ := h
            obtain rfl := hr0 rfl
            have a0 := w4_lt big b 0
            have hd : ((b.drop 4).take (w4 big b 0)).length = min (w4 big b 0) (b.length - 4) := by rw [List.length_take, List.length_drop]
            refine ⟨(z1c _).2 ⟨⟨by simp, by simp⟩, by simp [fitsP, noneB], by simp [noneB], by simp [noneB], hz, by simp [noneB, wrongO], ?_⟩, by simp [wfB, noneB]; omega, ?_⟩
            · simp [lastP]
              omega
            · simp [sizeB, bodyB, fieldsB, noneB, z06, z0w, putAll, putO, endO]
              unfold padN
              omega
        · split at h
          · split at h
            · rename_i hk hrow
              simp only [Option.some.injEq, Prod.mk.injEq] at h
              obtain ⟨rfl, rfl⟩ := h
              rw [List.length_drop] at hs
              obtain ⟨k1, k2, k3⟩ := rowsO_ok big b hrow
              have hn := z2q.2 k1
              refine ⟨(z1c _).2 ⟨⟨by simp, by simp⟩, by simp [fitsP, noneB], by simp [noneB], by simp [noneB], ho, hn, by simp [lastP]⟩, by simp [wfB, noneB], ?_⟩
              simp [sizeB, bodyB, fieldsB, noneB, z24]
              omega
            · cases h
          · split at h
            · split at h
              · cases h
              · rename_i hk h12
                simp only [Option.some.injEq, Prod.mk.injEq] at h
                obtain ⟨rfl, rfl⟩ := h
                rw [List.length_drop] at hs
                have a0 := w4_lt big b 0
                have a4 := w4_lt big b 4
                have a8 := w4_lt big b 8
                refine ⟨(z1c _).2 ⟨⟨by simp, by simp⟩, by simp [fitsP, noneB], by simp [noneB], by simp; omega, ho, by simp [noneB, wrongO], by simp [lastP]⟩, by simp [wfB, noneB]; omega, ?_⟩
                simp [sizeB, bodyB, fieldsB, timeB, noneB, z06]
                omega
            · rename_i k1 k2 k3 k4 k5 k6
              simp only [Option.some.injEq, Prod.mk.injEq] at h
              obtain ⟨rfl, rfl⟩ := h
              obtain rfl := hr0 rfl
              have hk7 : kindP t = 7 := by
                unfold kindP at *
                repeat' split at k1
                all_goals simp_all
              refine ⟨(z1c _).2 ⟨⟨by simp, by simp⟩, by simp [fitsP, noneB], by simp [noneB], by simp [noneB], hz, by simp [noneB, wrongO], ?_⟩, by simp [wfB, noneB]; omega, ?_⟩
              · simp [lastP, hk7]
                omega
              · simp [sizeB, bodyB, fieldsB, noneB, putAll, putO, endO]
                omega
theorem endP_ok {big : Bool} {n : Nat} {o : Option (PB × List UInt8)} (h : (endP big n o).2.2 = 0) : ∃ x r, o = some (x, r) ∧ (readO big r).2 = (0, 0) ∧ endP big n o = ({ x with opts := (readO big r).1 }, n, 0) := by
  cases o with
  | none => simp [endP] at h
  | some p =>
    obtain ⟨x, r⟩ := p
    unfold endP at h ⊢
    by_cases hr : (readO big r).2 = (0, 0)
    · exact ⟨x, r, rfl, hr, by simp only [if_pos hr]⟩
    · simp only [if_neg hr] at h
      cases h
theorem getQ_ok (big : Bool) (b : List UInt8) (t : Nat) (ht : t < 4294967296) (h : (getQ big b t).2.2 = 0) : mayP (getQ big b t).1 = true ∧ wfB (getQ big b t).1 ∧ sizeB (getQ big b t).1 ≤ b.length + 16 ∧ (getQ big b t).2.1 ≤ b.length ∧ 12 ≤ (getQ big b t).2.1 ∧ (getQ big b t).2.1 % 4 = 0 := by
  unfold getQ at h ⊢
  split at h
  · cases h
  · rename_i h1
    rw [if_neg h1]
    split at h
    · cases h
    · rename_i h2
      rw [if_neg h2]
      split at h
      · cases h
      · rename_i h3
        rw [if_neg h3]
        split at h
        · cases h
        · rename_i h4
          rw [if_neg h4]
          obtain ⟨x, r, ho, hr, he⟩ := endP_ok h
          rw [he]
          have hbl : ((b.take (w4 big b 4 - 4)).drop 8).length = w4 big b 4 - 12 := by rw [List.length_drop, List.length_take]; omega
          have hk := readO_ok big r hr
          obtain ⟨m1, m2, m3⟩ := open_ok big t ht _ r x (by rw [hbl]; omega) (by rw [hbl]; omega) ho _ hk.1 hk.2 (fun e => by rw [e]; rfl)
          rw [hbl] at m3
          exact ⟨m1, m2, by show sizeB { x with opts := (readO big r).1 } ≤ b.length + 16; omega, by show w4 big b 4 ≤ b.length; omega, by show 12 ≤ w4 big b 4; omega, by show w4 big b 4 % 4 = 0; omega⟩
theorem get_ok (big : Bool) (b : List UInt8) (h : (getP big b).2.2 = 0) : mayP (getP big b).1 = true ∧ wfB (getP big b).1 ∧ sizeB (getP big b).1 ≤ b.length + 16 ∧ (getP big b).2.1 ≤ b.length ∧ 12 ≤ (getP big b).2.1 ∧ (getP big b).2.1 % 4 = 0 := by
  have ht := w4_lt big b 0
  unfold getP at h ⊢
  split at h
  · cases h
  · rename_i h1
    rw [if_neg h1]
    split at h
    · rename_i h2
      rw [if_pos h2]
      split at h
      · rename_i h3
        rw [if_pos h3]
        exact getQ_ok _ _ _ ht h
      · rename_i h3
        rw [if_neg h3]
        split at h
        · rename_i h4
          rw [if_pos h4]
          exact getQ_ok _ _ _ ht h
        · cases h
    · rename_i h2
      rw [if_neg h2]
      exact getQ_ok _ _ _ ht h
theorem size_parts (x : PB) (h : mayP x = true) : sizeO x.names ≤ sizeB x ∧ sizeO x.opts ≤ sizeB x ∧ x.data.length ≤ sizeB x := by
  obtain ⟨⟨h1, h7⟩, hf, _⟩ := (z1c x).1 h
  obtain ⟨kind, bg, type, link, snap, iface, time, len, data, names, opts⟩ := x
  simp only at *
  have hk : kind = 1 ∨ kind = 2 ∨ kind = 3 ∨ kind = 4 ∨ kind = 5 ∨ kind = 6 ∨ kind = 7 := by omega
  have hO : ∀ n : Nat, sizeO opts ≤ 12 + (n + (putAll true opts).length) := fun n => by rw [z0q]; omega
  rcases hk with rfl | rfl | rfl | rfl | rfl | rfl | rfl
  all_goals
    simp [fitsP, and_assoc] at hf
    simp only [sizeB, bodyB, List.length_append]
    refine ⟨?_, hO _, ?_⟩
  all_goals
    simp [hf, sizeO, fieldsB, z0w, z06, z24]
  all_goals first | (simp only [z0w, sizeO]; omega) | omega
theorem z1f {P : Program} {w : World} {ops : Array Oper} {rest : List Oper} {o : Oper} {a : Act} {Q : Exit → Act → World → Prop} (hgd : Region.wanted o (yielded ops a.tmps) = true) (T : TypeId) (x : Operand) (ho : o.op = .box T x) (cs : Array Value) (hx : a.eval x = .agg cs)
    (h : ∀ w1, w1.heap[w.heap.size]? = some (.cells cs T (0, 0)) → Below w.heap.size w w1 → wpList P ops Q rest (a.put o.dst (.pointer (some ⟨w.heap.size, 0, none⟩))) w1) : wpList P ops Q (o :: rest) a w := by
  refine z23 hgd (v := .pointer (some ⟨w.heap.size, 0, none⟩)) (w' := w.alloc (.cells cs T)) ?_ (h _ (heap_alloc_last w _) ((Below.refl _ _).alloc (Nat.le_refl _) _))
  simp [execOp, ho, Instr.box, newVar, newRow, Value.cells, hx]
theorem z2r {P : Program} {w : World} {ops : Array Oper} {rest : List Oper} {o : Oper} {a : Act} {Q : Exit → Act → World → Prop} (hgd : Region.wanted o (yielded ops a.tmps) = true) (T : TypeId) (ho : o.op = .alloc T) (zs : Array Value) (n : Nat) (hi : (P.info? T).map (fun i => (i.zero, i.size)) = some (some (.agg zs), n))
    (h : ∀ w1, w1.heap[w.heap.size]? = some (.cells zs T (0, 0)) → Below w.heap.size w w1 → wpList P ops Q rest (a.put o.dst (.pointer (some ⟨w.heap.size, 0, none⟩))) w1) : wpList P ops Q (o :: rest) a w := by
  obtain ⟨hz0, hsz⟩ := zero_of_info hi
  refine z23 hgd (v := .pointer (some ⟨w.heap.size, 0, none⟩)) (w' := w.alloc (.cells zs T)) ?_ (h _ (heap_alloc_last w _) ((Below.refl _ _).alloc (Nat.le_refl _) _))
  simp [execOp, ho, Instr.alloc, hz0, newVar, newRow, Value.cells]
theorem z3c {P : Program} {w : World} {ops : Array Oper} {rest : List Oper} {o1 o2 : Oper} {a : Act} {Q : Exit → Act → World → Prop} (hg1 : o1.guard = none) (hg2 : o2.guard = none) (T : TypeId) (ho1 : o1.op = .alloc T) (x y : Operand) (ho2 : o2.op = .store T x y)
    (cs zs : Array Value) (hi : (P.info? T).map (fun i => (i.zero, i.size)) = some (some (.agg zs), cs.size)) (hz : zs.size = cs.size) (h1 : cs.all (·.oneCell') = true)
    (hx : ∀ p, (a.put o1.dst p).eval x = p) (hy : ∀ p, (a.put o1.dst p).eval y = .agg cs)
    (h : ∀ w1, w1.heap[w.heap.size]? = some (.cells cs T (0, 0)) → Below w.heap.size w w1 → wpList P ops Q rest ((a.put o1.dst (.pointer (some ⟨w.heap.size, 0, none⟩))).put o2.dst undef) w1) :
    wpList P ops Q (o1 :: o2 :: rest) a w :=
  wpL_new hg1 hg2 T ho1 x y ho2 cs zs hi hz h1 hx hy (h _ (heap_alloc_last w _) ((Below.refl _ _).alloc (Nat.le_refl _) _))
theorem z1w {P : Program} {fn : Func} {R : Ending → World → Prop} {a : Act} {w : World} {t4 : Tmp} {T : TypeId} {g : Nat} {cs : List Value} {d : TypeDesc}
    (h : fn.results = #[.cell t4 T]) (hp : a.tmps.getD t4 undef = .pointer (some ⟨g, 0, none⟩)) (hc : w.rangeAt g 0 cs) (hu : P.underlying T = some d) (hd : d.isRow = true) (hi : (P.info? T).map (·.size) = some cs.length)
    (hdf : a.defers = []) (hR : R (.returned (.agg cs.toArray)) w) : bodyPost P fn R .ret a w := by
  refine bodyPost_ret ?_ hdf hR
  have hp' : a.tmps[t4]?.getD undef = .pointer (some ⟨g, 0, none⟩) := by simpa using hp
  simp [results, h, hp', asAddr, run_loadVar_mid w g 0 T cs d hc hu hd hi]
theorem z04 {P : Program} {fn : Func} {R : Ending → World → Prop} {a : Act} {w : World} {t1 t2 t4 : Tmp} {T : TypeId} {g : Nat} {cs : List Value} {d : TypeDesc}
    (h : fn.results = #[.cell t4 T, .tmp t1, .tmp t2]) (hp : a.tmps.getD t4 undef = .pointer (some ⟨g, 0, none⟩)) (hc : w.rangeAt g 0 cs) (hu : P.underlying T = some d) (hd : d.isRow = true) (hi : (P.info? T).map (·.size) = some cs.length)
    (hdf : a.defers = []) (hR : R (.returned (.tuple #[.agg cs.toArray, a.tmps.getD t1 undef, a.tmps.getD t2 undef])) w) : bodyPost P fn R .ret a w := by
  refine bodyPost_ret ?_ hdf hR
  have hp' : a.tmps[t4]?.getD undef = .pointer (some ⟨g, 0, none⟩) := by simpa using hp
  simp [results, h, hp', asAddr, run_loadVar_mid w g 0 T cs d hc hu hd hi]
theorem frz {w : World} {g : Nat} {cs : Array Value} {T : TypeId} (h : w.heap[g]? = some (.cells cs T (0, 0))) (j : Nat) : w.frozen? ⟨g, j, none⟩ = false := by
  simp [World.frozen?, h]
theorem cells11 {w : World} {g : Nat} {c0 c1 c2 c3 c4 c5 c6 c7 c8 c9 c10 : Value} {T : TypeId} {fz : Nat × Nat} (h : w.heap[g]? = some (.cells #[c0, c1, c2, c3, c4, c5, c6, c7, c8, c9, c10] T fz)) :
    w.cell? ⟨g, 0, none⟩ = some c0 ∧ w.cell? ⟨g, 1, none⟩ = some c1 ∧ w.cell? ⟨g, 2, none⟩ = some c2 ∧ w.cell? ⟨g, 3, none⟩ = some c3 ∧ w.cell? ⟨g, 4, none⟩ = some c4 ∧ w.cell? ⟨g, 5, none⟩ = some c5 ∧ w.cell? ⟨g, 6, none⟩ = some c6 ∧ w.cell? ⟨g, 7, none⟩ = some c7 ∧ w.cell? ⟨g, 8, none⟩ = some c8 ∧ w.cell? ⟨g, 9, none⟩ = some c9 ∧ w.cell? ⟨g, 10, none⟩ = some c10 := by
  refine ⟨?_, ?_, ?_, ?_, ?_, ?_, ?_, ?_, ?_, ?_, ?_⟩ <;> (rw [z1u h]; rfl)
theorem z1e {w : World} {g j : Nat} {v : Value} {cs : Array Value} {T : TypeId} {fz : Nat × Nat} (h : w.heap[g]? = some (.cells cs T fz)) : (w.setCell ⟨g, j, none⟩ v).heap[g]? = some (.cells (cs.setIfInBounds j v) T fz) := by
  simp only [World.setCell, Array.getElem?_modify, h]
  simp
theorem z0p {w : World} {g j k : Nat} {v : Value} {ob : Obj} (hne : k ≠ g) (h : w.heap[k]? = some ob) : (w.setCell ⟨g, j, none⟩ v).heap[k]? = some ob := by
  rw [Below.heap_setCell _ _ _ _ hne]
  exact h
theorem z3a {w : World} {b : Nat} {cs : List Value} {arr : Array Value} {ty : TypeId} {fz : Nat × Nat} (h : w.heap[b]? = some (.cells arr ty fz)) (e : arr = cs.toArray) : w.rangeAt b 0 cs := by
  subst e
  exact z00 h
theorem z02 {P : Program} {ops : Array Oper} {rest : List Oper} {o : Oper} {a : Act} {w : World} {Q : Exit → Act → World → Prop} (hgd : o.guard = none) (ty : TypeId) (x y : Operand) (ho : o.op = .store ty x y)
    (g : Nat) (cs : Array Value) (hx : a.eval x = .pointer (some ⟨g, 0, none⟩)) (hy : a.eval y = .agg cs) {T : TypeId} {old : Array Value} (hg : w.heap[g]? = some (.cells old T (0, 0))) (hi : (P.info? ty).map (·.size) = some cs.size) (hl : old.size = cs.size) (h1 : cs.all (·.oneCell') = true)
    (h : ∀ w1, w1.heap[g]? = some (.cells cs T (0, 0)) → w.grownBy w1 (some g) → wpList P ops Q rest (a.put o.dst undef) w1) : wpList P ops Q (o :: rest) a w :=
  wpList_store_row hgd ty x y ho g cs hx hy T _ hg hi hl h1 (h _ (setRow_heap w g _ _ T _ hg) ⟨rfl, rfl, rfl, by simp [World.setRow], fun k _ hk => setRow_other w g k _ (fun e => hk (by rw [e]))⟩)
structure BlkV where
  kind : Int
  big : Bool
  type : Nat
  link : Int
  snap : Nat
  iface : Int
  time : Nat
  len : Nat
  dad : Option Addr
  dn : Nat
  dc : Nat
  dl : List UInt8
  nad : Option Addr
  nn : Nat
  nc : Nat
  ns : List OptV
  oad : Option Addr
  on : Nat
  oc : Nat
  os : List OptV
def BlkV.cells (v : BlkV) : List Value := [.int .i64 v.kind, .bool v.big, .int .u32 (v.type : Int), .int .i64 v.link, .int .u32 (v.snap : Int), .int .i64 v.iface, .int .u64 (v.time : Int), .int .u32 (v.len : Int), .slice v.dad v.dn v.dc, .slice v.nad v.nn v.nc, .slice v.oad v.on v.oc]
def BlkV.val (v : BlkV) : PB := ⟨v.kind, v.big, v.type, v.link, v.snap, v.iface, v.time, v.len, v.dl, vals v.ns, vals v.os⟩
def Blk (w : World) (v : BlkV) : Prop := Bs w v.dad v.dn v.dc v.dl ∧ Ops w v.nad v.nn v.nc v.ns ∧ Ops w v.oad v.on v.oc v.os
theorem Blk.below {w w' : World} {v : BlkV} (h : Blk w v) (hb : Below w.heap.size w w') : Blk w' v := ⟨h.1.below hb, h.2.1.below hb, h.2.2.below hb⟩
instance {w w' : World} {v : BlkV} : Ck (Blk w v) w' w (Blk w' v) := ⟨fun h hE => h.below hE⟩
theorem Blk.lens {w : World} {v : BlkV} (h : Blk w v) : v.dn = v.dl.length ∧ v.nn = v.ns.length ∧ v.on = v.os.length := ⟨h.1.len, h.2.1.len, h.2.2.len⟩
theorem z0h (v : BlkV) : v.cells.toArray.all (·.oneCell') = true := by
  simp only [BlkV.cells, List.all_toArray, List.all_cons, List.all_nil, Bool.and_true, Bool.and_eq_true]
  exact ⟨rfl, rfl, rfl, rfl, rfl, rfl, rfl, rfl, rfl, rfl, rfl⟩
theorem z03 {w : World} {g : Nat} {v : BlkV} {T : TypeId} {fz : Nat × Nat} (h : w.heap[g]? = some (.cells v.cells.toArray T fz)) :
    w.cell? ⟨g, 0, none⟩ = some (.int .i64 v.kind) ∧ w.cell? ⟨g, 1, none⟩ = some (.bool v.big) ∧ w.cell? ⟨g, 2, none⟩ = some (.int .u32 (v.type : Int)) ∧ w.cell? ⟨g, 3, none⟩ = some (.int .i64 v.link) ∧ w.cell? ⟨g, 4, none⟩ = some (.int .u32 (v.snap : Int)) ∧ w.cell? ⟨g, 5, none⟩ = some (.int .i64 v.iface) ∧
    w.cell? ⟨g, 6, none⟩ = some (.int .u64 (v.time : Int)) ∧ w.cell? ⟨g, 7, none⟩ = some (.int .u32 (v.len : Int)) ∧ w.cell? ⟨g, 8, none⟩ = some (.slice v.dad v.dn v.dc) ∧ w.cell? ⟨g, 9, none⟩ = some (.slice v.nad v.nn v.nc) ∧ w.cell? ⟨g, 10, none⟩ = some (.slice v.oad v.on v.oc) := by
  refine ⟨?_, ?_, ?_, ?_, ?_, ?_, ?_, ?_, ?_, ?_, ?_⟩ <;> (rw [z1u h]; rfl)
theorem kind_cases {k : Int} (h1 : 1 ≤ k) (h7 : k ≤ 7) : k = 1 ∨ k = 2 ∨ k = 3 ∨ k = 4 ∨ k = 5 ∨ k = 6 ∨ k = 7 := by omega
theorem z3j (k : Int) (w : World) : Calls Try.prog 46 #[.int .i64 k] w fun e w' => e = .returned (.int .u32 ((typeP k : Nat) : Int)) ∧ Below w.heap.size w w' := by
  have hk : k < 1 ∨ k = 1 ∨ k = 2 ∨ k = 3 ∨ k = 4 ∨ k = 5 ∨ k = 6 ∨ 7 ≤ k := by omega
  rcases hk with hk | rfl | rfl | rfl | rfl | rfl | rfl | hk
  · have e : typeP k = 0 := by unfold typeP; simp only [show ¬ k = 1 by omega, show ¬ k = 2 by omega, show ¬ k = 3 by omega, show ¬ k = 4 by omega, show ¬ k = 5 by omega, show ¬ k = 6 by omega, if_false]
    rw [e]
    go_enter Try.func46, Try.ntmps46
    go_wp2_with fail
    go_ret
    exact ⟨rfl, bup⟩
  iterate 6
    · go_enter Try.func46, Try.ntmps46
      go_wp2_with fail
      go_ret
      exact ⟨rfl, bup⟩
  · have e : typeP k = 0 := by unfold typeP; simp only [show ¬ k = 1 by omega, show ¬ k = 2 by omega, show ¬ k = 3 by omega, show ¬ k = 4 by omega, show ¬ k = 5 by omega, show ¬ k = 6 by omega, if_false]
    rw [e]
    have h1 : ¬ k < 1 := by omega
    go_enter Try.func46, Try.ntmps46
    go_wp2_with fail
    go_ret
    exact ⟨rfl, bup⟩
theorem z2j (t : Nat) (w : World) : Calls Try.prog 58 #[.int .u32 (t : Int)] w fun e w' => e = .returned (.int .i64 (kindP t)) ∧ Below w.heap.size w w' := by
  have HB := Hd (Below.refl w.heap.size w)
  go_enter Try.func58, Try.ntmps58
  go_wp2_with fail
  go_loopw [3] (fun i wr => ∃ k : Int, 1 ≤ k ∧ k ≤ 7 ∧ i = .int .i64 k ∧ Hid (∀ j : Int, 1 ≤ j → j < k → typeP j ≠ t) ∧ Below w.heap.size w wr) (fun i _ => (7 - intOf i).toNat)
  case atStart => exact ⟨1, by omega, by omega, rfl, Hd (fun j h1 h2 => absurd h1 (by omega)), HB.out⟩
  case round =>
    obtain ⟨k, h1, h7, rfl, HK, hb⟩ := hrel
    clear HB
    have HB := Hd hb
    clear hb
    by_cases hlt : k < 7
    · obtain ⟨T, hT⟩ : ∃ T, T = typeP k := ⟨_, rfl⟩
      have HT := Hd hT
      by_cases he : T = t
      · have HE : Hid (kindP t = k) := Hd (by rw [← he, hT]; exact kindP_type k h1 (by omega))
        clear hT HK
        subst he
        go_wp2_with (first
 | (go_at_call 46; (refine (z3j k _).mono ?_); intro e w5 hr; rw [← HT.out] at hr; obtain ⟨rfl, hb5⟩ := hr; have hE__ := cU HB bup hb5; replace HB := ck HB hE__; clear hE__; clear hb5))
        go_ret
        exact ⟨by rw [HE.out]; rfl, HB.out⟩
      · have HE : Hid (∀ j : Int, 1 ≤ j → j < k + 1 → typeP j ≠ t) := Hd (fun j h1 h2 => by
          by_cases e : j < k
          · exact HK.out j h1 e
          · obtain rfl : j = k := by omega
            rw [← hT]; exact he)
        clear hT HK
        have hne : ((T : Int) == (t : Int)) = false := by simp; omega
        have hne2 : ¬ ((T : Int) = (t : Int)) := by omega
        go_wp2_with (first
 | (go_at_call 46; (refine (z3j k _).mono ?_); intro e w5 hr; rw [← HT.out] at hr; obtain ⟨rfl, hb5⟩ := hr; have hE__ := cU HB bup hb5; replace HB := ck HB hE__; clear hE__; clear hb5))
        go_roundw
        case rel => exact ⟨k + 1, by omega, by omega, by go_num, HE, HB.out⟩
        case measure => simp [intOf]; omega
    · have HE : Hid (kindP t = 7) := Hd (by
        have h := fun j h1 h2 => HK.out j h1 (show j < k from Int.lt_of_lt_of_le h2 (show (7 : Int) ≤ k by omega))
        have g1 := h 1 (by omega) (by omega)
        have g2 := h 2 (by omega) (by omega)
        have g3 := h 3 (by omega) (by omega)
        have g4 := h 4 (by omega) (by omega)
        have g5 := h 5 (by omega) (by omega)
        have g6 := h 6 (by omega) (by omega)
        change (168627466 : Nat) ≠ t at g1
        change (1 : Nat) ≠ t at g2
        change (6 : Nat) ≠ t at g3
        change (3 : Nat) ≠ t at g4
        change (4 : Nat) ≠ t at g5
        change (5 : Nat) ≠ t at g6
        unfold kindP
        rw [if_neg (fun e => g1 e.symm), if_neg (fun e => g2 e.symm), if_neg (fun e => g3 e.symm), if_neg (fun e => g4 e.symm), if_neg (fun e => g5 e.symm), if_neg (fun e => g6 e.symm)])
      go_wp2_with fail
      go_ret
      exact ⟨by rw [HE.out]; rfl, HB.out⟩
theorem refKind_any (t : Nat) (ht : t < 4294967296) (w : World) : Calls Try.prog 51 #[.int .u32 (t : Int)] w fun e w' => e = .returned (.int .i64 (kindP t)) ∧ Below w.heap.size w w' := by
  have hc : t = 168627466 ∨ t = 1 ∨ t = 6 ∨ t = 3 ∨ t = 4 ∨ t = 5 ∨ (t ≠ 168627466 ∧ t ≠ 1 ∧ t ≠ 6 ∧ t ≠ 3 ∧ t ≠ 4 ∧ t ≠ 5) := by omega
  rcases hc with rfl | rfl | rfl | rfl | rfl | rfl | ⟨g1, g2, g3, g4, g5, g6⟩
  iterate 6
    · go_enter Try.func51, Try.ntmps51
      go_wp2_with fail
      go_ret
      exact ⟨rfl, bup⟩
  · have HE : Hid (kindP t = 7) := Hd (by unfold kindP; rw [if_neg g1, if_neg g2, if_neg g3, if_neg g4, if_neg g5, if_neg g6])
    have n1 : ¬ (t : Int) = 168627466 := by omega
    have n2 : ¬ (t : Int) = 1 := by omega
    have n3 : ¬ (t : Int) = 6 := by omega
    by_cases h3 : (3 : Int) ≤ (t : Int)
    · have h5 : ¬ (t : Int) ≤ 5 := by omega
      clear g1 g2 g3 g4 g5 g6
      go_enter Try.func51, Try.ntmps51
      go_wp2_with fail
      go_ret
      exact ⟨by rw [HE.out]; rfl, bup⟩
    · clear g1 g2 g3 g4 g5 g6
      go_enter Try.func51, Try.ntmps51
      go_wp2_with fail
      go_ret
      exact ⟨by rw [HE.out]; rfl, bup⟩
end Go.Proofs.Ytmfplinbbcoahaa
