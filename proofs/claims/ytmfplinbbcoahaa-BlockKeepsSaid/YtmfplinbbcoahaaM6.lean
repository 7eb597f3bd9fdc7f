/-
  Joined by program (merge.py): Opt10, Opt11.
-/
import Derived.Test.YtmfplinbbcoahaaM5
/-
  Chapter 25: Rows, and the document's Read, walked.
-/
namespace Go.Proofs.Ytmfplinbbcoahaa
open Go.RowKit Go.Sort
set_option linter.unusedVariables false
set_option linter.unusedSimpArgs false

theorem spot_err {w : World} {g : Nat} {p : Nat × Int} {T : TypeId} (h : w.heap[g]? = some (.cells (spotC p).toArray T (0, 0))) : w.cell? ⟨g, 1, none⟩ = some (.int .i64 p.2) := by simp [World.cell?, h, spotC]

set_option maxRecDepth 100000 in
set_option maxHeartbeats 2000000 in
theorem rowsO_any (ad : Option Addr) (n c : Nat) (l : List UInt8) (big : Bool) (w : World) (hs : Bs w ad n c l) (hsz : n ≤ 1000000000) :
    Calls Try.prog 83 #[.slice ad n c, .bool big] w fun e w' => ∃ ad' n' c' os, e = .returned (.tuple #[.slice ad' n' c', .int .i64 ((rowsO big l).2.1 : Int), .agg (spotC (rowsO big l).2.2).toArray]) ∧ OwnOps 90 w.heap.size w' ad' n' c' os ∧ vals os = (rowsO big l).1 ∧ Below w.heap.size w w' := by
  have hn := hs.len
  obtain ⟨Y, hY⟩ : ∃ Y, Y = rowsO big l := ⟨_, rfl⟩
  obtain ⟨X, hX⟩ : ∃ X, X = rowsB big l := ⟨_, rfl⟩
  have hY2 : Y = rowsR X := by rw [hY, hX]; rfl
  rw [← hY]
  obtain ⟨xl, xn, xe, xs⟩ := X
  have HX := Lib.hid hX.symm
  have HS := Lib.hid hs
  have HN := Lib.hid hn
  have HI : Hid ((Try.prog.info? 49).map (·.size) = some 2) := Lib.hid (by kernel_rfl)
  have HY : Hid (Y = if xs = (0, 0) then (if xe = true then (xl, xn, (0, 0)) else ([], 0, (xn, 2))) else ([], 0, xs)) := Lib.hid hY2
  clear hs hn hX hY hY2
  by_cases hz : xs = (0, 0)
  · cases xe
    · have HE := Lib.hid ((HY.out.trans (if_pos hz)).trans (if_neg (by simp)))
      subst hz
      clear HY
      go_enter Try.func83, Try.ntmps83
      go_wp2_with (first
        | (go_at_call 84; go_must (refine (rows_any ad n c l big _ (HS.out.below bup) hsz).mono ?_); intro e w5 hr5; rw [HX.out] at hr5; obtain ⟨ad5, n5, c5, os, rfl, how, hvs, hb5⟩ := hr5; have HW := Lib.hid (how.base (base' := w.heap.size + 1) (by simp)); have HV := Lib.hid hvs; have HG := Lib.hid ((hb5.block w.heap.size (by simp)).trans (heap_alloc_last w (.cells (spotC (0, 0)).toArray 49))); have HB := Lib.hid (show Below w.heap.size w w5 from Below.trans bup (hb5.mono (by simp))); have HGF := Lib.hid (lt_of_block HG.out); clear how hvs hb5)
        | ((with_reducible show wpList _ _ _ (⟨none, .store _ _ (.tmp 18), _, _, _, _⟩ :: _) _ _); go_must (refine wpL_storeS (T := 49) (q := (0, 0)) rfl 49 (.tmp 10) (.tmp 18) rfl w5.heap.size (0, 0) rfl rfl (heap_alloc_last w5 _) HI.out ?_); intro w6 hg6 hgr6; have hb6 : Below w5.heap.size w5 w6 := ((Below.refl w5.heap.size w5).alloc (Nat.le_refl _) _).grown hgr6 (by simp) (fun k e => by cases e; exact Nat.le_refl _); have HF := Lib.hid hg6; replace HW := ckk HW bup hb6; replace HG := ckk HG bup hb6; replace HB := ckk HB bup hb6; clear hg6 hgr6 hb6; simp only [PT])
        | ((with_reducible refine sl 19 ?_); go_must (refine wpL_load rfl 49 (.tmp 10) rfl w5.heap.size 0 rfl (spotC (0, 0)) _ (range_block HF.out) Try.underlying49 rfl HI.out ?_); simp only [PT])
        | ((with_reducible refine sl 21 ?_); go_must (refine wpL_eqS (0, 0) (0, 0) true (by rfl) rfl (.tmp 19) (.tmp 20) rfl rfl rfl ?_); simp only [PT])
        | ((with_reducible show wpList _ _ _ (⟨none, .store _ _ (.tmp 27), _, _, _, _⟩ :: _) _ _); go_must (refine wpL_storeS (T := 49) (q := (0, 0)) rfl 49 (.tmp 10) (.tmp 27) rfl w5.heap.size (xn, 2) rfl rfl HF.out HI.out ?_); intro w7 hg7 hgr7; have HG7 := Lib.hid ((hgr7.block w.heap.size (lt_of_block HG.out) (by have := HGF.out; intro e; injection e with e; omega)).trans HG.out); have HB7 := Lib.hid (HB.out.grown hgr7 HB.out.size (fun k e => by have := HGF.out; cases e; omega)); clear HF HG HB HW; have HF := Lib.hid hg7; have HG := HG7; have HB := HB7; clear HG7 HB7 hg7 hgr7; simp only [PT])
        | ((with_reducible refine sl 28 ?_); go_must (refine wpL_load rfl 49 (.tmp 10) rfl w5.heap.size 0 rfl (spotC (xn, 2)) _ (range_block HF.out) Try.underlying49 rfl HI.out ?_); simp only [PT])
        | ((with_reducible refine sl 30 ?_); go_must (refine wpL_neS (xn, 2) (0, 0) true (by simp) rfl (.tmp 28) (.tmp 29) rfl rfl rfl ?_); simp only [PT]))
      refine wp_region_held_drew (S := fun v => v.rangeAt w5.heap.size 0 (spotC (xn, 2))) (by kernel_rfl) ?_ (fun hHeld => ?_)
      focus (first | exact range_block HF8.out | exact range_block HF.out)
      refine' tk 0 (oi := ⟨some 31, _, _, _, _, _⟩) (v := _) rfl (by kernel_rfl) (yieldsIf_load_mid (by rfl) _ _ rfl _ _ rfl (spotC (xn, 2)) _ (fun v hv => hv) (Try.underlying49) rfl (HI.out)) hHeld ?_
      simp only [PT]
      refine tk 1 (oi := ⟨some 4, _, _, _, _, _⟩) (v := ?_) rfl (by kernel_rfl) (.inl ⟨by rfl, ?_⟩) hHeld ?_; rotate_left; focus (intro w hSw; (try dsimp only at hSw); go_simp; try with_reducible rfl)
      simp only [PT]
      refine tk 2 (oi := ⟨some 5, _, _, _, _, _⟩) (v := ?_) rfl (by kernel_rfl) (.inl ⟨by rfl, ?_⟩) hHeld ?_; rotate_left; focus (intro w hSw; (try dsimp only at hSw); go_simp; try with_reducible rfl)
      simp only [PT]
      refine wpAnyH_ready (rs := [3]) (by kernel_rfl) (by simp) ?_
      refine (AllReadyH.cons (o := ⟨none, _, _, _, _, _⟩) rfl (fun K hK => ?_) AllReadyH.nil)
      (go_must (refine step_storeS (T := 49) (q := (0, 0)) rfl 49 (.tmp 6) (.tmp 31) rfl w.heap.size (xn, 2) rfl rfl HG.out HI.out ?_); intro w8 hg8 hgr8; have HG8 := Lib.hid hg8; have HF8 := Lib.hid ((hgr8.block w5.heap.size (lt_of_block HF.out) (by have := HGF.out; intro e; injection e with e; omega)).trans HF.out); have HB8 := Lib.hid ((show Below w.heap.size w _ from Below.trans HB.out (Below.drew (Below.refl _ _))).grown hgr8 HB.out.size (fun k e => by cases e; exact Nat.le_refl _)); clear hg8 hgr8)
      refine hK.out _ _ ?_ (fun hHeld => ?_)
      focus (first | exact range_block HF8.out | exact range_block HF.out)
      clear hK K
      try simp only [PT]
      refine wpAnyH_done (by kernel_rfl) ?_ _
      all_goals
        go_wp2_with fail
        (try simp only [Exit.inBlock, Exit.then, Exit.noGoto_ret])
        refine bodyPost_cell3 (cs := spotC (xn, 2)) rfl rfl (range_block HG8.out) Try.underlying49 rfl HI.out rfl ?_
        exact ⟨none, 0, 0, [], by rw [HE.out]; rfl, OwnOps.nil _ _ _, by rw [HE.out]; rfl, HB8.out⟩
    · have HE := Lib.hid ((HY.out.trans (if_pos hz)).trans (if_pos rfl))
      subst hz
      clear HY
      go_enter Try.func83, Try.ntmps83
      go_wp2_with (first
        | (go_at_call 84; go_must (refine (rows_any ad n c l big _ (HS.out.below bup) hsz).mono ?_); intro e w5 hr5; rw [HX.out] at hr5; obtain ⟨ad5, n5, c5, os, rfl, how, hvs, hb5⟩ := hr5; have HW := Lib.hid (how.base (base' := w.heap.size + 1) (by simp)); have HV := Lib.hid hvs; have HG := Lib.hid ((hb5.block w.heap.size (by simp)).trans (heap_alloc_last w (.cells (spotC (0, 0)).toArray 49))); have HB := Lib.hid (show Below w.heap.size w w5 from Below.trans bup (hb5.mono (by simp))); have HGF := Lib.hid (lt_of_block HG.out); clear how hvs hb5)
        | ((with_reducible show wpList _ _ _ (⟨none, .store _ _ (.tmp 18), _, _, _, _⟩ :: _) _ _); go_must (refine wpL_storeS (T := 49) (q := (0, 0)) rfl 49 (.tmp 10) (.tmp 18) rfl w5.heap.size (0, 0) rfl rfl (heap_alloc_last w5 _) HI.out ?_); intro w6 hg6 hgr6; have hb6 : Below w5.heap.size w5 w6 := ((Below.refl w5.heap.size w5).alloc (Nat.le_refl _) _).grown hgr6 (by simp) (fun k e => by cases e; exact Nat.le_refl _); have HF := Lib.hid hg6; replace HW := ckk HW bup hb6; replace HG := ckk HG bup hb6; replace HB := ckk HB bup hb6; clear hg6 hgr6 hb6; simp only [PT])
        | ((with_reducible refine sl 19 ?_); go_must (refine wpL_load rfl 49 (.tmp 10) rfl w5.heap.size 0 rfl (spotC (0, 0)) _ (range_block HF.out) Try.underlying49 rfl HI.out ?_); simp only [PT])
        | ((with_reducible refine sl 21 ?_); go_must (refine wpL_eqS (0, 0) (0, 0) true (by rfl) rfl (.tmp 19) (.tmp 20) rfl rfl rfl ?_); simp only [PT])
        | ((with_reducible refine sl 28 ?_); go_must (refine wpL_load rfl 49 (.tmp 10) rfl w5.heap.size 0 rfl (spotC (0, 0)) _ (range_block HF.out) Try.underlying49 rfl HI.out ?_); simp only [PT])
        | ((with_reducible refine sl 30 ?_); go_must (refine wpL_neS (0, 0) (0, 0) false (by rfl) rfl (.tmp 28) (.tmp 29) rfl rfl rfl ?_); simp only [PT]))
      refine wp_region_held_drew (S := fun v => v.rangeAt w5.heap.size 0 (spotC (0, 0))) (by kernel_rfl) ?_ (fun hHeld => ?_)
      focus (first | exact range_block HF8.out | exact range_block HF.out)
      refine tk 0 (oi := ⟨some 32, _, _, _, _, _⟩) (v := ?_) rfl (by kernel_rfl) (.inl ⟨by rfl, ?_⟩) hHeld ?_; rotate_left; focus (intro w hSw; (try dsimp only at hSw); go_simp; try with_reducible rfl)
      simp only [PT]
      refine tk 1 (oi := ⟨some 33, _, _, _, _, _⟩) (v := ?_) rfl (by kernel_rfl) (.inl ⟨by rfl, ?_⟩) hHeld ?_; rotate_left; focus (intro w hSw; (try dsimp only at hSw); go_simp; try with_reducible rfl)
      simp only [PT]
      refine' tk 2 (oi := ⟨some 34, _, _, _, _, _⟩) (v := _) rfl (by kernel_rfl) (yieldsIf_load_mid (by rfl) _ _ rfl _ _ rfl (spotC (0, 0)) _ (fun v hv => hv) (Try.underlying49) rfl (HI.out)) hHeld ?_
      simp only [PT]
      refine tk 3 (oi := ⟨some 4, _, _, _, _, _⟩) (v := ?_) rfl (by kernel_rfl) (.inl ⟨by rfl, ?_⟩) hHeld ?_; rotate_left; focus (intro w hSw; (try dsimp only at hSw); go_simp; try with_reducible rfl)
      simp only [PT]
      refine tk 4 (oi := ⟨some 5, _, _, _, _, _⟩) (v := ?_) rfl (by kernel_rfl) (.inl ⟨by rfl, ?_⟩) hHeld ?_; rotate_left; focus (intro w hSw; (try dsimp only at hSw); go_simp; try with_reducible rfl)
      simp only [PT]
      refine wpAnyH_ready (rs := [5]) (by kernel_rfl) (by simp) ?_
      refine (AllReadyH.cons (o := ⟨none, _, _, _, _, _⟩) rfl (fun K hK => ?_) AllReadyH.nil)
      (go_must (refine step_storeS (T := 49) (q := (0, 0)) rfl 49 (.tmp 6) (.tmp 34) rfl w.heap.size (0, 0) rfl rfl HG.out HI.out ?_); intro w8 hg8 hgr8; have HG8 := Lib.hid hg8; have HF8 := Lib.hid ((hgr8.block w5.heap.size (lt_of_block HF.out) (by have := HGF.out; intro e; injection e with e; omega)).trans HF.out); have HB8 := Lib.hid ((show Below w.heap.size w _ from Below.trans HB.out (Below.drew (Below.refl _ _))).grown hgr8 HB.out.size (fun k e => by cases e; exact Nat.le_refl _)); have HW8 := Lib.hid ((show OwnOps _ _ _ _ _ _ _ from HW.out.keep (Below.drew (Below.refl _ _))).other hgr8 (by omega)); clear hg8 hgr8)
      refine hK.out _ _ ?_ (fun hHeld => ?_)
      focus (first | exact range_block HF8.out | exact range_block HF.out)
      clear hK K
      try simp only [PT]
      refine wpAnyH_done (by kernel_rfl) ?_ _
      all_goals
        go_wp2_with fail
        (try simp only [Exit.inBlock, Exit.then, Exit.noGoto_ret])
        refine bodyPost_cell3 (cs := spotC (0, 0)) rfl rfl (range_block HG8.out) Try.underlying49 rfl HI.out rfl ?_
        exact ⟨ad5, n5, c5, os, by rw [HE.out]; rfl, HW8.out.base (by omega), by rw [HE.out]; exact HV.out, HB8.out⟩
  · have HE := Lib.hid (HY.out.trans (if_neg hz))
    have HZ1 := Lib.hid (show false = decide (xs = (0, 0)) by simp [hz])
    have HZ2 := Lib.hid (show true = !decide (xs = (0, 0)) by simp [hz])
    clear HY hz
    go_enter Try.func83, Try.ntmps83
    go_wp2_with (first
      | (go_at_call 84; go_must (refine (rows_any ad n c l big _ (HS.out.below bup) hsz).mono ?_); intro e w5 hr5; rw [HX.out] at hr5; obtain ⟨ad5, n5, c5, os, rfl, how, hvs, hb5⟩ := hr5; have HW := Lib.hid (how.base (base' := w.heap.size + 1) (by simp)); have HV := Lib.hid hvs; have HG := Lib.hid ((hb5.block w.heap.size (by simp)).trans (heap_alloc_last w (.cells (spotC (0, 0)).toArray 49))); have HB := Lib.hid (show Below w.heap.size w w5 from Below.trans bup (hb5.mono (by simp))); have HGF := Lib.hid (lt_of_block HG.out); clear how hvs hb5)
      | ((with_reducible show wpList _ _ _ (⟨none, .store _ _ (.tmp 18), _, _, _, _⟩ :: _) _ _); go_must (refine wpL_storeS (T := 49) (q := (0, 0)) rfl 49 (.tmp 10) (.tmp 18) rfl w5.heap.size xs rfl rfl (heap_alloc_last w5 _) HI.out ?_); intro w6 hg6 hgr6; have hb6 : Below w5.heap.size w5 w6 := ((Below.refl w5.heap.size w5).alloc (Nat.le_refl _) _).grown hgr6 (by simp) (fun k e => by cases e; exact Nat.le_refl _); have HF := Lib.hid hg6; replace HW := ckk HW bup hb6; replace HG := ckk HG bup hb6; replace HB := ckk HB bup hb6; clear hg6 hgr6 hb6; simp only [PT])
      | ((with_reducible refine sl 19 ?_); go_must (refine wpL_load rfl 49 (.tmp 10) rfl w5.heap.size 0 rfl (spotC xs) _ (range_block HF.out) Try.underlying49 rfl HI.out ?_); simp only [PT])
      | ((with_reducible refine sl 21 ?_); go_must (refine wpL_eqS xs (0, 0) false (HZ1.out) rfl (.tmp 19) (.tmp 20) rfl rfl rfl ?_); simp only [PT])
      | ((with_reducible refine sl 28 ?_); go_must (refine wpL_load rfl 49 (.tmp 10) rfl w5.heap.size 0 rfl (spotC xs) _ (range_block HF.out) Try.underlying49 rfl HI.out ?_); simp only [PT])
      | ((with_reducible refine sl 30 ?_); go_must (refine wpL_neS xs (0, 0) true (HZ2.out) rfl (.tmp 28) (.tmp 29) rfl rfl rfl ?_); simp only [PT]))
    refine wp_region_held_drew (S := fun v => v.rangeAt w5.heap.size 0 (spotC xs)) (by kernel_rfl) ?_ (fun hHeld => ?_)
    focus (first | exact range_block HF8.out | exact range_block HF.out)
    refine' tk 0 (oi := ⟨some 31, _, _, _, _, _⟩) (v := _) rfl (by kernel_rfl) (yieldsIf_load_mid (by rfl) _ _ rfl _ _ rfl (spotC xs) _ (fun v hv => hv) (Try.underlying49) rfl (HI.out)) hHeld ?_
    simp only [PT]
    refine tk 1 (oi := ⟨some 4, _, _, _, _, _⟩) (v := ?_) rfl (by kernel_rfl) (.inl ⟨by rfl, ?_⟩) hHeld ?_; rotate_left; focus (intro w hSw; (try dsimp only at hSw); go_simp; try with_reducible rfl)
    simp only [PT]
    refine tk 2 (oi := ⟨some 5, _, _, _, _, _⟩) (v := ?_) rfl (by kernel_rfl) (.inl ⟨by rfl, ?_⟩) hHeld ?_; rotate_left; focus (intro w hSw; (try dsimp only at hSw); go_simp; try with_reducible rfl)
    simp only [PT]
    refine wpAnyH_ready (rs := [3]) (by kernel_rfl) (by simp) ?_
    refine (AllReadyH.cons (o := ⟨none, _, _, _, _, _⟩) rfl (fun K hK => ?_) AllReadyH.nil)
    (go_must (refine step_storeS (T := 49) (q := (0, 0)) rfl 49 (.tmp 6) (.tmp 31) rfl w.heap.size xs rfl rfl HG.out HI.out ?_); intro w8 hg8 hgr8; have HG8 := Lib.hid hg8; have HF8 := Lib.hid ((hgr8.block w5.heap.size (lt_of_block HF.out) (by have := HGF.out; intro e; injection e with e; omega)).trans HF.out); have HB8 := Lib.hid ((show Below w.heap.size w _ from Below.trans HB.out (Below.drew (Below.refl _ _))).grown hgr8 HB.out.size (fun k e => by cases e; exact Nat.le_refl _)); clear hg8 hgr8)
    refine hK.out _ _ ?_ (fun hHeld => ?_)
    focus (first | exact range_block HF8.out | exact range_block HF.out)
    clear hK K
    try simp only [PT]
    refine wpAnyH_done (by kernel_rfl) ?_ _
    all_goals
      go_wp2_with fail
      (try simp only [Exit.inBlock, Exit.then, Exit.noGoto_ret])
      refine bodyPost_cell3 (cs := spotC xs) rfl rfl (range_block HG8.out) Try.underlying49 rfl HI.out rfl ?_
      exact ⟨none, 0, 0, [], by rw [HE.out]; rfl, OwnOps.nil _ _ _, by rw [HE.out]; rfl, HB8.out⟩

set_option maxRecDepth 100000 in
set_option maxHeartbeats 2000000 in
theorem refRead_any (ad : Option Addr) (n c : Nat) (l : List UInt8) (big : Bool) (w : World) (hs : Bs w ad n c l) (hsz : n ≤ 1000000000) :
    Calls Try.prog 63 #[.slice ad n c, .bool big] w fun e w' => ∃ ad' n' c' os, e = .returned (.tuple #[.slice ad' n' c', .agg (spotC (readO big l).2).toArray]) ∧ OwnOps 90 w.heap.size w' ad' n' c' os ∧ vals os = (readO big l).1 ∧ Below w.heap.size w w' := by
  have hn := hs.len
  obtain ⟨Y, hY⟩ : ∃ Y, Y = readO big l := ⟨_, rfl⟩
  obtain ⟨X, hX⟩ : ∃ X, X = rowsB big l := ⟨_, rfl⟩
  have hY2 : Y = readR n X := by rw [hY, hX, hn]; rfl
  rw [← hY]
  obtain ⟨xl, xn, xe, xs⟩ := X
  have HX := Lib.hid hX.symm
  have HS := Lib.hid hs
  have HN := Lib.hid hn
  have HI : Hid ((Try.prog.info? 49).map (·.size) = some 2) := Lib.hid (by kernel_rfl)
  have HY : Hid (Y = if xs = (0, 0) then (if xn < n then ([], (xn, 3)) else (xl, (0, 0))) else ([], xs)) := Lib.hid hY2
  have HQ : Hid (xs = (0, 0) ∨ xs.2 ≠ 0) := Lib.hid (by
    rcases rowsS_spot big l.length l 0 [] with h | ⟨h, _⟩
    · exact .inl (by have := congrArg (fun r : RR => r.2.2.2) hX; exact this.trans h)
    · refine .inr fun e => ?_
      have e2 : (rowsS big l.length l 0 []).2.2.2.2 = xs.2 := (congrArg (fun r : RR => r.2.2.2.2) hX).symm
      rw [e2, e] at h
      omega)
  clear hs hn hX hY hY2
  rcases HQ.out with hz | hz
  · by_cases hlt : xn < n
    · have HE := Lib.hid ((HY.out.trans (if_pos hz)).trans (if_pos hlt))
      subst hz
      clear HY HQ
      go_enter Try.func63, Try.ntmps63
      go_wp2_with (first
        | (go_at_call 87; go_must (refine (refRows_any ad n c l big _ (HS.out.below bup) hsz).mono ?_); intro e w5 hr5; rw [HX.out] at hr5; obtain ⟨ad5, n5, c5, os, rfl, how, hvs, hb5⟩ := hr5; have HW := Lib.hid (how.base (base' := w.heap.size + 1) (by simp)); have HV := Lib.hid hvs; have HG := Lib.hid ((hb5.block w.heap.size (by simp)).trans (heap_alloc_last w (.cells (spotC (0, 0)).toArray 49))); have HB := Lib.hid (show Below w.heap.size w w5 from Below.trans bup (hb5.mono (by simp))); have HGF := Lib.hid (lt_of_block HG.out); clear how hvs hb5)
        | ((with_reducible show wpList _ _ _ (⟨none, .store _ _ (.tmp 17), _, _, _, _⟩ :: _) _ _); go_must (refine wpL_storeS (T := 49) (q := (0, 0)) rfl 49 (.tmp 9) (.tmp 17) rfl w5.heap.size ((0, 0) : Nat × Int) rfl rfl (heap_alloc_last w5 _) HI.out ?_); intro w6 hg6 hgr6; have hb6 : Below w5.heap.size w5 w6 := ((Below.refl w5.heap.size w5).alloc (Nat.le_refl _) _).grown hgr6 (by simp) (fun k e => by cases e; exact Nat.le_refl _); have HF := Lib.hid hg6; have qf := spot_err HF.out; replace HW := ckk HW bup hb6; replace HG := ckk HG bup hb6; replace HB := ckk HB bup hb6; clear hg6 hgr6 hb6; simp only [PT])
        | ((with_reducible show wpList _ _ _ (⟨none, .store _ _ (.tmp 27), _, _, _, _⟩ :: _) _ _); go_must (refine wpL_storeS (T := 49) (q := (0, 0)) rfl 49 (.tmp 5) (.tmp 27) rfl w.heap.size (xn, 3) rfl rfl HG.out HI.out ?_); intro w8 hg8 hgr8; have HG8 := Lib.hid hg8; have HB8 := Lib.hid (HB.out.grown hgr8 HB.out.size (fun k e => by cases e; exact Nat.le_refl _)); clear hg8 hgr8; simp only [PT]))
      (try simp only [Exit.inBlock, Exit.then, Exit.noGoto_ret])
      refine bodyPost_cell2 (cs := spotC (xn, 3)) rfl rfl (range_block HG8.out) Try.underlying49 rfl HI.out rfl ?_
      exact ⟨none, 0, 0, by rw [HE.out]; rfl, [], OwnOps.nil _ _ _, by rw [HE.out]; rfl, HB8.out⟩
    · have HE := Lib.hid ((HY.out.trans (if_pos hz)).trans (if_neg hlt))
      subst hz
      clear HY HQ
      go_enter Try.func63, Try.ntmps63
      go_wp2_with (first
        | (go_at_call 87; go_must (refine (refRows_any ad n c l big _ (HS.out.below bup) hsz).mono ?_); intro e w5 hr5; rw [HX.out] at hr5; obtain ⟨ad5, n5, c5, os, rfl, how, hvs, hb5⟩ := hr5; have HW := Lib.hid (how.base (base' := w.heap.size + 1) (by simp)); have HV := Lib.hid hvs; have HG := Lib.hid ((hb5.block w.heap.size (by simp)).trans (heap_alloc_last w (.cells (spotC (0, 0)).toArray 49))); have HB := Lib.hid (show Below w.heap.size w w5 from Below.trans bup (hb5.mono (by simp))); have HGF := Lib.hid (lt_of_block HG.out); clear how hvs hb5)
        | ((with_reducible show wpList _ _ _ (⟨none, .store _ _ (.tmp 17), _, _, _, _⟩ :: _) _ _); go_must (refine wpL_storeS (T := 49) (q := (0, 0)) rfl 49 (.tmp 9) (.tmp 17) rfl w5.heap.size ((0, 0) : Nat × Int) rfl rfl (heap_alloc_last w5 _) HI.out ?_); intro w6 hg6 hgr6; have hb6 : Below w5.heap.size w5 w6 := ((Below.refl w5.heap.size w5).alloc (Nat.le_refl _) _).grown hgr6 (by simp) (fun k e => by cases e; exact Nat.le_refl _); have HF := Lib.hid hg6; have qf := spot_err HF.out; replace HW := ckk HW bup hb6; replace HG := ckk HG bup hb6; replace HB := ckk HB bup hb6; clear hg6 hgr6 hb6; simp only [PT]))
      refine wp_region_held_drew (S := fun v => v.rangeAt w5.heap.size 0 (spotC (0, 0))) (by kernel_rfl) ?_ (fun hHeld => ?_)
      focus (first | exact range_block HF8.out | exact range_block HF.out)
      refine tk 0 (oi := ⟨some 28, _, _, _, _, _⟩) (v := ?_) rfl (by kernel_rfl) (.inl ⟨by rfl, ?_⟩) hHeld ?_; rotate_left; focus (intro w hSw; (try dsimp only at hSw); go_simp; try with_reducible rfl)
      simp only [PT]
      refine' tk 1 (oi := ⟨some 29, _, _, _, _, _⟩) (v := _) rfl (by kernel_rfl) (yieldsIf_load_mid (by rfl) _ _ rfl _ _ rfl (spotC (0, 0)) _ (fun v hv => hv) (Try.underlying49) rfl (HI.out)) hHeld ?_
      simp only [PT]
      refine tk 2 (oi := ⟨some 4, _, _, _, _, _⟩) (v := ?_) rfl (by kernel_rfl) (.inl ⟨by rfl, ?_⟩) hHeld ?_; rotate_left; focus (intro w hSw; (try dsimp only at hSw); go_simp; try with_reducible rfl)
      simp only [PT]
      refine wpAnyH_ready (rs := [3]) (by kernel_rfl) (by simp) ?_
      refine (AllReadyH.cons (o := ⟨none, _, _, _, _, _⟩) rfl (fun K hK => ?_) AllReadyH.nil)
      (go_must (refine step_storeS (T := 49) (q := (0, 0)) rfl 49 (.tmp 5) (.tmp 29) rfl w.heap.size (0, 0) rfl rfl HG.out HI.out ?_); intro w8 hg8 hgr8; have HG8 := Lib.hid hg8; have HF8 := Lib.hid ((hgr8.block w5.heap.size (lt_of_block HF.out) (by have := HGF.out; intro e; injection e with e; omega)).trans HF.out); have HB8 := Lib.hid ((show Below w.heap.size w _ from Below.trans HB.out (Below.drew (Below.refl _ _))).grown hgr8 HB.out.size (fun k e => by cases e; exact Nat.le_refl _)); have HW8 := Lib.hid ((show OwnOps _ _ _ _ _ _ _ from HW.out.keep (Below.drew (Below.refl _ _))).other hgr8 (by omega)); clear hg8 hgr8)
      refine hK.out _ _ ?_ (fun hHeld => ?_)
      focus (first | exact range_block HF8.out | exact range_block HF.out)
      clear hK K
      try simp only [PT]
      refine wpAnyH_done (by kernel_rfl) ?_ _
      all_goals
        go_wp2_with fail
        (try simp only [Exit.inBlock, Exit.then, Exit.noGoto_ret])
        refine bodyPost_cell2 (cs := spotC (0, 0)) rfl rfl (range_block HG8.out) Try.underlying49 rfl HI.out rfl ?_
        exact ⟨ad5, n5, c5, os, by rw [HE.out]; rfl, HW8.out.base (by omega), by rw [HE.out]; exact HV.out, HB8.out⟩
  · have HE := Lib.hid (HY.out.trans (if_neg (fun e => hz (by rw [e]))))
    clear HY HQ
    go_enter Try.func63, Try.ntmps63
    go_wp2_with (first
      | (go_at_call 87; go_must (refine (refRows_any ad n c l big _ (HS.out.below bup) hsz).mono ?_); intro e w5 hr5; rw [HX.out] at hr5; obtain ⟨ad5, n5, c5, os, rfl, how, hvs, hb5⟩ := hr5; have HW := Lib.hid (how.base (base' := w.heap.size + 1) (by simp)); have HV := Lib.hid hvs; have HG := Lib.hid ((hb5.block w.heap.size (by simp)).trans (heap_alloc_last w (.cells (spotC (0, 0)).toArray 49))); have HB := Lib.hid (show Below w.heap.size w w5 from Below.trans bup (hb5.mono (by simp))); have HGF := Lib.hid (lt_of_block HG.out); clear how hvs hb5)
      | ((with_reducible show wpList _ _ _ (⟨none, .store _ _ (.tmp 17), _, _, _, _⟩ :: _) _ _); go_must (refine wpL_storeS (T := 49) (q := (0, 0)) rfl 49 (.tmp 9) (.tmp 17) rfl w5.heap.size xs rfl rfl (heap_alloc_last w5 _) HI.out ?_); intro w6 hg6 hgr6; have hb6 : Below w5.heap.size w5 w6 := ((Below.refl w5.heap.size w5).alloc (Nat.le_refl _) _).grown hgr6 (by simp) (fun k e => by cases e; exact Nat.le_refl _); have HF := Lib.hid hg6; have qf := spot_err HF.out; replace HW := ckk HW bup hb6; replace HG := ckk HG bup hb6; replace HB := ckk HB bup hb6; clear hg6 hgr6 hb6; simp only [PT]))
    refine wp_region_held_drew (S := fun v => v.rangeAt w5.heap.size 0 (spotC xs)) (by kernel_rfl) ?_ (fun hHeld => ?_)
    focus (first | exact range_block HF8.out | exact range_block HF.out)
    refine' tk 0 (oi := ⟨some 21, _, _, _, _, _⟩) (v := _) rfl (by kernel_rfl) (yieldsIf_load_mid (by rfl) _ _ rfl _ _ rfl (spotC xs) _ (fun v hv => hv) (Try.underlying49) rfl (HI.out)) hHeld ?_
    simp only [PT]
    refine tk 1 (oi := ⟨some 4, _, _, _, _, _⟩) (v := ?_) rfl (by kernel_rfl) (.inl ⟨by rfl, ?_⟩) hHeld ?_; rotate_left; focus (intro w hSw; (try dsimp only at hSw); go_simp; try with_reducible rfl)
    simp only [PT]
    refine wpAnyH_ready (rs := [2]) (by kernel_rfl) (by simp) ?_
    refine (AllReadyH.cons (o := ⟨none, _, _, _, _, _⟩) rfl (fun K hK => ?_) AllReadyH.nil)
    (go_must (refine step_storeS (T := 49) (q := (0, 0)) rfl 49 (.tmp 5) (.tmp 21) rfl w.heap.size xs rfl rfl HG.out HI.out ?_); intro w8 hg8 hgr8; have HG8 := Lib.hid hg8; have HF8 := Lib.hid ((hgr8.block w5.heap.size (lt_of_block HF.out) (by have := HGF.out; intro e; injection e with e; omega)).trans HF.out); have HB8 := Lib.hid ((show Below w.heap.size w _ from Below.trans HB.out (Below.drew (Below.refl _ _))).grown hgr8 HB.out.size (fun k e => by cases e; exact Nat.le_refl _)); clear hg8 hgr8)
    refine hK.out _ _ ?_ (fun hHeld => ?_)
    focus (first | exact range_block HF8.out | exact range_block HF.out)
    clear hK K
    try simp only [PT]
    refine wpAnyH_done (by kernel_rfl) ?_ _
    all_goals
      go_wp2_with fail
      (try simp only [Exit.inBlock, Exit.then, Exit.noGoto_ret])
      refine bodyPost_cell2 (cs := spotC xs) rfl rfl (range_block HG8.out) Try.underlying49 rfl HI.out rfl ?_
      exact ⟨none, 0, 0, [], by rw [HE.out]; rfl, OwnOps.nil _ _ _, by rw [HE.out]; rfl, HB8.out⟩
end Go.Proofs.Ytmfplinbbcoahaa
/-
  Chapter 25: lists compared by the document, walked.
-/
namespace Go.Proofs.Ytmfplinbbcoahaa
open Go.RowKit Go.Sort
set_option linter.unusedVariables false
set_option linter.unusedSimpArgs false

theorem yields_str {P : Program} {ops : Array Oper} {o : Oper} {a : Act} {S : World → Prop} {src dst e : TypeId} (hs : P.underlying src = some (.slice e)) (he : P.underlying e = some (.int .u8)) (hd : P.underlying dst = some .string)
    (hg : Region.wanted o (yielded ops a.tmps) = true) (x : Operand) (hop : o.op = Op.convert src dst x) {ad : Option Addr} {n c : Nat} {l : List UInt8} (hx : a.eval x = .slice ad n c) (hb : ∀ v, S v → Bs v ad n c l) : YieldsIf P ops S o (.string (strOf l)) a := by
  refine Or.inl ⟨hg, fun w hw => ?_⟩
  simp only [execOp, hop, hx, Sem.run_bind, run_str hs he hd (hb w hw), Result.andThen_ok, Sem.run_pure]

set_option maxRecDepth 100000 in
set_option maxHeartbeats 2000000 in
theorem refSame_any (ad : Option Addr) (n c : Nat) (os : List OptV) (ad2 : Option Addr) (n2 c2 : Nat) (ps : List OptV) (w : World) (hs : Ops w ad n c os) (hs2 : Ops w ad2 n2 c2 ps) :
    Calls Try.prog 45 #[.slice ad n c, .slice ad2 n2 c2] w fun e w' => e = .returned (.bool (decide (vals os = vals ps))) ∧ Below w.heap.size w w' := by
  have hn := hs.len
  have hn2 := hs2.len
  have hle := hs.le
  have HS := Lib.hid hs
  have HS2 := Lib.hid hs2
  have HN := Lib.hid hn
  have HN2 := Lib.hid hn2
  by_cases hlen : n = n2
  · have HL := Lib.hid hlen
    clear hs hs2 hn hn2
    subst hlen
    go_enter Try.func45, Try.ntmps45
    go_wp2_with fail
    go_loopw [5] (fun i wr => ∃ k : Nat, k ≤ n ∧ i = .int .i64 k ∧ Hid ((vals os).take k = (vals ps).take k) ∧ Below w.heap.size w wr) (fun i _ => n - (intOf i).toNat)
    case atStart => exact ⟨0, by omega, rfl, Lib.hid rfl, Below.refl _ _⟩
    case round =>
      obtain ⟨k, hk, rfl, HT, hb⟩ := hrel
      have HB := Lib.hid hb
      by_cases hlt : k < n
      · have hn := HN.out
        have hn2 := HN2.out
        obtain ⟨b, off, rfl, hbl, hat⟩ := (HS.out.below hb).at (j := k) (by omega)
        obtain ⟨b2, off2, rfl, hbl2, hat2⟩ := (HS2.out.below hb).at (j := k) (by omega)
        obtain ⟨q1, q2, hbs⟩ := hat k (by omega)
        obtain ⟨q3, q4, hbs2⟩ := hat2 k (by omega)
        obtain ⟨o, ho⟩ : ∃ o, o = os[k]'(by omega) := ⟨_, rfl⟩
        obtain ⟨p, hp⟩ : ∃ p, p = ps[k]'(by omega) := ⟨_, rfl⟩
        rw [← ho] at q1 q2 hbs
        rw [← hp] at q3 q4 hbs2
        have hk1 : k < (vals os).length := by rw [vals_length]; omega
        have hk2 : k < (vals ps).length := by rw [vals_length]; omega
        have HVo := Lib.hid (show (vals os)[k] = (o.code, o.l) by rw [vals_get _ _ (by omega), ← ho]; rfl)
        have HVp := Lib.hid (show (vals ps)[k] = (p.code, p.l) by rw [vals_get _ _ (by omega), ← hp]; rfl)
        have HBS := Lib.hid hbs
        have HBS2 := Lib.hid hbs2
        have HQ := Lib.hid (And.intro q1 (And.intro q2 (And.intro q3 q4)))
        clear hat hat2 ho hp hbs hbs2 hn hn2 q1 q2 q3 q4 hb
        by_cases hc : o.code = p.code
        · by_cases hv : sameB o.l p.l = true
          · have hne : (o.code != p.code) = false := by simpa using hc
            have hve : ((strOf o.l).toList == (strOf p.l).toList) = true := by
              rw [strOf_toList, strOf_toList]
              simpa [sameB] using hv
            have HT2 : Hid ((vals os).take (k + 1) = (vals ps).take (k + 1)) := Lib.hid (by
              rw [List.take_add_one, List.take_add_one, HT.out, List.getElem?_eq_getElem hk1, List.getElem?_eq_getElem hk2, HVo.out, HVp.out, hc, show o.l = p.l by simpa [sameB] using hv])
            go_wp2_with fail
            refine wp_region_held_drew (S := fun v => (v.cell? ⟨b, off + k * 2, none⟩ = some (.int .i64 o.code) ∧ v.cell? ⟨b2, off2 + k * 2, none⟩ = some (.int .i64 p.code)) ∧ (v.cell? ⟨b, off + k * 2 + 1, none⟩ = some (.slice o.ad o.n o.c) ∧ v.cell? ⟨b2, off2 + k * 2 + 1, none⟩ = some (.slice p.ad p.n p.c)) ∧ Bs v o.ad o.n o.c o.l ∧ Bs v p.ad p.n p.c p.l) (by kernel_rfl) ?_ (fun hHeld => ?_)
            focus (exact ⟨⟨HQ.out.1, HQ.out.2.2.1⟩, ⟨HQ.out.2.1, HQ.out.2.2.2⟩, HBS.out.below (Below.drew (Below.refl _ _)), HBS2.out.below (Below.drew (Below.refl _ _))⟩)
            refine tk 0 (oi := ⟨some 17, _, _, _, _, _⟩) (v := ?_) rfl (by kernel_rfl) (.inl ⟨by rfl, ?_⟩) hHeld ?_; rotate_left; focus (intro w hSw; (try dsimp only at hSw); go_simp; try with_reducible rfl)
            simp only [PT]
            refine tk 1 (oi := ⟨some 18, _, _, _, _, _⟩) (v := ?_) rfl (by kernel_rfl) (.inl ⟨by rfl, ?_⟩) hHeld ?_; rotate_left; focus (intro w hSw; (try dsimp only at hSw); go_simp; try with_reducible rfl)
            simp only [PT]
            refine tk 2 (oi := ⟨some 19, _, _, _, _, _⟩) (v := ?_) rfl (by kernel_rfl) (.inl ⟨by rfl, ?_⟩) hHeld ?_; rotate_left; focus (intro w hSw; (try dsimp only at hSw); go_simp; try with_reducible rfl)
            simp only [PT]
            refine tk 3 (oi := ⟨some 20, _, _, _, _, _⟩) (v := ?_) rfl (by kernel_rfl) (.inl ⟨by rfl, ?_⟩) hHeld ?_; rotate_left; focus (intro w hSw; (try dsimp only at hSw); go_simp; try with_reducible rfl)
            simp only [PT]
            refine tk 4 (oi := ⟨some 21, _, _, _, _, _⟩) (v := ?_) rfl (by kernel_rfl) (.inl ⟨by rfl, ?_⟩) hHeld ?_; rotate_left; focus (intro w hSw; (try dsimp only at hSw); go_simp; try with_reducible rfl)
            simp only [PT]
            refine tk 5 (oi := ⟨some 22, _, _, _, _, _⟩) (v := ?_) rfl (by kernel_rfl) (.inl ⟨by rfl, ?_⟩) hHeld ?_; rotate_left; focus (intro w hSw; (try dsimp only at hSw); go_simp; try with_reducible rfl)
            simp only [PT]
            refine tk 6 (oi := ⟨some 23, _, _, _, _, _⟩) (v := ?_) rfl (by kernel_rfl) (.inl ⟨by rfl, ?_⟩) hHeld ?_; rotate_left; focus (intro w hSw; (try dsimp only at hSw); go_simp; try with_reducible rfl)
            simp only [PT]
            refine tk 7 (oi := ⟨some 24, _, _, _, _, _⟩) (v := ?_) rfl (by kernel_rfl) (.inl ⟨by rfl, ?_⟩) hHeld ?_; rotate_left; focus (intro w hSw; (try dsimp only at hSw); go_simp; try with_reducible rfl)
            simp only [PT]
            refine tk 8 (oi := ⟨some 25, _, _, _, _, _⟩) (v := ?_) rfl (by kernel_rfl) (.inl ⟨by rfl, ?_⟩) hHeld ?_; rotate_left; focus (intro w hSw; (try dsimp only at hSw); go_simp; try with_reducible rfl)
            simp only [PT]
            refine tk 9 (oi := ⟨some 26, _, _, _, _, _⟩) (v := ?_) rfl (by kernel_rfl) (.inl ⟨by rfl, ?_⟩) hHeld ?_; rotate_left; focus (intro w hSw; (try dsimp only at hSw); go_simp; try with_reducible rfl)
            simp only [PT]
            refine tk 10 (oi := ⟨some 27, _, _, _, _, _⟩) (v := ?_) rfl (by kernel_rfl) (.inl ⟨by rfl, ?_⟩) hHeld ?_; rotate_left; focus (intro w hSw; (try dsimp only at hSw); go_simp; try with_reducible rfl)
            simp only [PT]
            refine tk 11 (oi := ⟨some 28, _, _, _, _, _⟩) (v := ?_) rfl (by kernel_rfl) (.inl ⟨by rfl, ?_⟩) hHeld ?_; rotate_left; focus (intro w hSw; (try dsimp only at hSw); go_simp; try with_reducible rfl)
            simp only [PT]
            first | (refine tk 12 (oi := ⟨some 29, _, _, _, _, _⟩) (v := undef) rfl (by kernel_rfl) (.inr ⟨by rfl, rfl⟩) hHeld ?_) | (refine tk 12 (oi := ⟨some 29, _, _, _, _, _⟩) (v := ?_) rfl (by kernel_rfl) (.inl ⟨by rfl, ?_⟩) hHeld ?_; rotate_left; focus (intro w hSw; (try dsimp only at hSw); go_simp; try with_reducible rfl))
            simp only [PT]
            first | (refine tk 13 (oi := ⟨some 30, _, _, _, _, _⟩) (v := undef) rfl (by kernel_rfl) (.inr ⟨by rfl, rfl⟩) hHeld ?_) | (refine tk 13 (oi := ⟨some 30, _, _, _, _, _⟩) (v := ?_) rfl (by kernel_rfl) (.inl ⟨by rfl, ?_⟩) hHeld ?_; rotate_left; focus (intro w hSw; (try dsimp only at hSw); go_simp; try with_reducible rfl))
            simp only [PT]
            first | (refine tk 14 (oi := ⟨some 31, _, _, _, _, _⟩) (v := undef) rfl (by kernel_rfl) (.inr ⟨by rfl, rfl⟩) hHeld ?_) | (refine tk 14 (oi := ⟨some 31, _, _, _, _, _⟩) (v := ?_) rfl (by kernel_rfl) (.inl ⟨by rfl, ?_⟩) hHeld ?_; rotate_left; focus (intro w hSw; (try dsimp only at hSw); go_simp; try with_reducible rfl))
            simp only [PT]
            first | (refine tk 15 (oi := ⟨some 32, _, _, _, _, _⟩) (v := undef) rfl (by kernel_rfl) (.inr ⟨by rfl, rfl⟩) hHeld ?_) | (refine tk 15 (oi := ⟨some 32, _, _, _, _, _⟩) (v := ?_) rfl (by kernel_rfl) (.inl ⟨by rfl, ?_⟩) hHeld ?_; rotate_left; focus (intro w hSw; (try dsimp only at hSw); go_simp; try with_reducible rfl))
            simp only [PT]
            first | (refine tk 16 (oi := ⟨some 33, _, _, _, _, _⟩) (v := undef) rfl (by kernel_rfl) (.inr ⟨by rfl, rfl⟩) hHeld ?_) | (refine tk 16 (oi := ⟨some 33, _, _, _, _, _⟩) (v := ?_) rfl (by kernel_rfl) (.inl ⟨by rfl, ?_⟩) hHeld ?_; rotate_left; focus (intro w hSw; (try dsimp only at hSw); go_simp; try with_reducible rfl))
            simp only [PT]
            first | (refine tk 17 (oi := ⟨some 34, _, _, _, _, _⟩) (v := undef) rfl (by kernel_rfl) (.inr ⟨by rfl, rfl⟩) hHeld ?_) | (refine' tk 17 (oi := ⟨some 34, _, _, _, _, _⟩) (v := _) rfl (by kernel_rfl) (yields_str elB.1 (by kernel_rfl) (by kernel_rfl) (by rfl) _ rfl rfl (fun v h => h.2.2.1)) hHeld ?_)
            simp only [PT]
            first | (refine tk 18 (oi := ⟨some 35, _, _, _, _, _⟩) (v := undef) rfl (by kernel_rfl) (.inr ⟨by rfl, rfl⟩) hHeld ?_) | (refine tk 18 (oi := ⟨some 35, _, _, _, _, _⟩) (v := ?_) rfl (by kernel_rfl) (.inl ⟨by rfl, ?_⟩) hHeld ?_; rotate_left; focus (intro w hSw; (try dsimp only at hSw); go_simp; try with_reducible rfl))
            simp only [PT]
            first | (refine tk 19 (oi := ⟨some 36, _, _, _, _, _⟩) (v := undef) rfl (by kernel_rfl) (.inr ⟨by rfl, rfl⟩) hHeld ?_) | (refine tk 19 (oi := ⟨some 36, _, _, _, _, _⟩) (v := ?_) rfl (by kernel_rfl) (.inl ⟨by rfl, ?_⟩) hHeld ?_; rotate_left; focus (intro w hSw; (try dsimp only at hSw); go_simp; try with_reducible rfl))
            simp only [PT]
            first | (refine tk 20 (oi := ⟨some 37, _, _, _, _, _⟩) (v := undef) rfl (by kernel_rfl) (.inr ⟨by rfl, rfl⟩) hHeld ?_) | (refine tk 20 (oi := ⟨some 37, _, _, _, _, _⟩) (v := ?_) rfl (by kernel_rfl) (.inl ⟨by rfl, ?_⟩) hHeld ?_; rotate_left; focus (intro w hSw; (try dsimp only at hSw); go_simp; try with_reducible rfl))
            simp only [PT]
            first | (refine tk 21 (oi := ⟨some 38, _, _, _, _, _⟩) (v := undef) rfl (by kernel_rfl) (.inr ⟨by rfl, rfl⟩) hHeld ?_) | (refine tk 21 (oi := ⟨some 38, _, _, _, _, _⟩) (v := ?_) rfl (by kernel_rfl) (.inl ⟨by rfl, ?_⟩) hHeld ?_; rotate_left; focus (intro w hSw; (try dsimp only at hSw); go_simp; try with_reducible rfl))
            simp only [PT]
            first | (refine tk 22 (oi := ⟨some 39, _, _, _, _, _⟩) (v := undef) rfl (by kernel_rfl) (.inr ⟨by rfl, rfl⟩) hHeld ?_) | (refine tk 22 (oi := ⟨some 39, _, _, _, _, _⟩) (v := ?_) rfl (by kernel_rfl) (.inl ⟨by rfl, ?_⟩) hHeld ?_; rotate_left; focus (intro w hSw; (try dsimp only at hSw); go_simp; try with_reducible rfl))
            simp only [PT]
            first | (refine tk 23 (oi := ⟨some 40, _, _, _, _, _⟩) (v := undef) rfl (by kernel_rfl) (.inr ⟨by rfl, rfl⟩) hHeld ?_) | (refine' tk 23 (oi := ⟨some 40, _, _, _, _, _⟩) (v := _) rfl (by kernel_rfl) (yields_str elB.1 (by kernel_rfl) (by kernel_rfl) (by rfl) _ rfl rfl (fun v h => h.2.2.2)) hHeld ?_)
            simp only [PT]
            first | (refine tk 24 (oi := ⟨some 41, _, _, _, _, _⟩) (v := undef) rfl (by kernel_rfl) (.inr ⟨by rfl, rfl⟩) hHeld ?_) | (refine tk 24 (oi := ⟨some 41, _, _, _, _, _⟩) (v := ?_) rfl (by kernel_rfl) (.inl ⟨by rfl, ?_⟩) hHeld ?_; rotate_left; focus (intro w hSw; (try dsimp only at hSw); go_simp; try with_reducible rfl))
            simp only [PT]
            refine tk 25 (oi := ⟨some 42, _, _, _, _, _⟩) (v := ?_) rfl (by kernel_rfl) (.inl ⟨by rfl, ?_⟩) hHeld ?_; rotate_left; focus (intro w hSw; (try dsimp only at hSw); go_simp; try with_reducible rfl)
            simp only [PT]
            refine wpAnyH_done (by kernel_rfl) ?_ _
            go_wp2_with fail
            go_roundw
            case rel => exact ⟨k + 1, by omega, by go_num, HT2, HB.out.drew⟩
            case measure => simp [intOf]; omega
          · have hne : (o.code != p.code) = false := by simpa using hc
            have hve : ((strOf o.l).toList == (strOf p.l).toList) = false := by
              rw [strOf_toList, strOf_toList]
              simpa [sameB] using hv
            have HF : Hid (decide (vals os = vals ps) = false) := Lib.hid (by
              have hnx : vals os ≠ vals ps := fun e => by
                have h1 := HVo.out
                have h2 := HVp.out
                simp only [e] at h1
                rw [h1] at h2
                exact hv (by rw [show o.l = p.l from congrArg Prod.snd h2]; exact sameB_self _)
              simpa using hnx)
            go_wp2_with fail
            refine wp_region_held_drew (S := fun v => (v.cell? ⟨b, off + k * 2, none⟩ = some (.int .i64 o.code) ∧ v.cell? ⟨b2, off2 + k * 2, none⟩ = some (.int .i64 p.code)) ∧ (v.cell? ⟨b, off + k * 2 + 1, none⟩ = some (.slice o.ad o.n o.c) ∧ v.cell? ⟨b2, off2 + k * 2 + 1, none⟩ = some (.slice p.ad p.n p.c)) ∧ Bs v o.ad o.n o.c o.l ∧ Bs v p.ad p.n p.c p.l) (by kernel_rfl) ?_ (fun hHeld => ?_)
            focus (exact ⟨⟨HQ.out.1, HQ.out.2.2.1⟩, ⟨HQ.out.2.1, HQ.out.2.2.2⟩, HBS.out.below (Below.drew (Below.refl _ _)), HBS2.out.below (Below.drew (Below.refl _ _))⟩)
            refine tk 0 (oi := ⟨some 17, _, _, _, _, _⟩) (v := ?_) rfl (by kernel_rfl) (.inl ⟨by rfl, ?_⟩) hHeld ?_; rotate_left; focus (intro w hSw; (try dsimp only at hSw); go_simp; try with_reducible rfl)
            simp only [PT]
            refine tk 1 (oi := ⟨some 18, _, _, _, _, _⟩) (v := ?_) rfl (by kernel_rfl) (.inl ⟨by rfl, ?_⟩) hHeld ?_; rotate_left; focus (intro w hSw; (try dsimp only at hSw); go_simp; try with_reducible rfl)
            simp only [PT]
            refine tk 2 (oi := ⟨some 19, _, _, _, _, _⟩) (v := ?_) rfl (by kernel_rfl) (.inl ⟨by rfl, ?_⟩) hHeld ?_; rotate_left; focus (intro w hSw; (try dsimp only at hSw); go_simp; try with_reducible rfl)
            simp only [PT]
            refine tk 3 (oi := ⟨some 20, _, _, _, _, _⟩) (v := ?_) rfl (by kernel_rfl) (.inl ⟨by rfl, ?_⟩) hHeld ?_; rotate_left; focus (intro w hSw; (try dsimp only at hSw); go_simp; try with_reducible rfl)
            simp only [PT]
            refine tk 4 (oi := ⟨some 21, _, _, _, _, _⟩) (v := ?_) rfl (by kernel_rfl) (.inl ⟨by rfl, ?_⟩) hHeld ?_; rotate_left; focus (intro w hSw; (try dsimp only at hSw); go_simp; try with_reducible rfl)
            simp only [PT]
            refine tk 5 (oi := ⟨some 22, _, _, _, _, _⟩) (v := ?_) rfl (by kernel_rfl) (.inl ⟨by rfl, ?_⟩) hHeld ?_; rotate_left; focus (intro w hSw; (try dsimp only at hSw); go_simp; try with_reducible rfl)
            simp only [PT]
            refine tk 6 (oi := ⟨some 23, _, _, _, _, _⟩) (v := ?_) rfl (by kernel_rfl) (.inl ⟨by rfl, ?_⟩) hHeld ?_; rotate_left; focus (intro w hSw; (try dsimp only at hSw); go_simp; try with_reducible rfl)
            simp only [PT]
            refine tk 7 (oi := ⟨some 24, _, _, _, _, _⟩) (v := ?_) rfl (by kernel_rfl) (.inl ⟨by rfl, ?_⟩) hHeld ?_; rotate_left; focus (intro w hSw; (try dsimp only at hSw); go_simp; try with_reducible rfl)
            simp only [PT]
            refine tk 8 (oi := ⟨some 25, _, _, _, _, _⟩) (v := ?_) rfl (by kernel_rfl) (.inl ⟨by rfl, ?_⟩) hHeld ?_; rotate_left; focus (intro w hSw; (try dsimp only at hSw); go_simp; try with_reducible rfl)
            simp only [PT]
            refine tk 9 (oi := ⟨some 26, _, _, _, _, _⟩) (v := ?_) rfl (by kernel_rfl) (.inl ⟨by rfl, ?_⟩) hHeld ?_; rotate_left; focus (intro w hSw; (try dsimp only at hSw); go_simp; try with_reducible rfl)
            simp only [PT]
            refine tk 10 (oi := ⟨some 27, _, _, _, _, _⟩) (v := ?_) rfl (by kernel_rfl) (.inl ⟨by rfl, ?_⟩) hHeld ?_; rotate_left; focus (intro w hSw; (try dsimp only at hSw); go_simp; try with_reducible rfl)
            simp only [PT]
            refine tk 11 (oi := ⟨some 28, _, _, _, _, _⟩) (v := ?_) rfl (by kernel_rfl) (.inl ⟨by rfl, ?_⟩) hHeld ?_; rotate_left; focus (intro w hSw; (try dsimp only at hSw); go_simp; try with_reducible rfl)
            simp only [PT]
            first | (refine tk 12 (oi := ⟨some 29, _, _, _, _, _⟩) (v := undef) rfl (by kernel_rfl) (.inr ⟨by rfl, rfl⟩) hHeld ?_) | (refine tk 12 (oi := ⟨some 29, _, _, _, _, _⟩) (v := ?_) rfl (by kernel_rfl) (.inl ⟨by rfl, ?_⟩) hHeld ?_; rotate_left; focus (intro w hSw; (try dsimp only at hSw); go_simp; try with_reducible rfl))
            simp only [PT]
            first | (refine tk 13 (oi := ⟨some 30, _, _, _, _, _⟩) (v := undef) rfl (by kernel_rfl) (.inr ⟨by rfl, rfl⟩) hHeld ?_) | (refine tk 13 (oi := ⟨some 30, _, _, _, _, _⟩) (v := ?_) rfl (by kernel_rfl) (.inl ⟨by rfl, ?_⟩) hHeld ?_; rotate_left; focus (intro w hSw; (try dsimp only at hSw); go_simp; try with_reducible rfl))
            simp only [PT]
            first | (refine tk 14 (oi := ⟨some 31, _, _, _, _, _⟩) (v := undef) rfl (by kernel_rfl) (.inr ⟨by rfl, rfl⟩) hHeld ?_) | (refine tk 14 (oi := ⟨some 31, _, _, _, _, _⟩) (v := ?_) rfl (by kernel_rfl) (.inl ⟨by rfl, ?_⟩) hHeld ?_; rotate_left; focus (intro w hSw; (try dsimp only at hSw); go_simp; try with_reducible rfl))
            simp only [PT]
            first | (refine tk 15 (oi := ⟨some 32, _, _, _, _, _⟩) (v := undef) rfl (by kernel_rfl) (.inr ⟨by rfl, rfl⟩) hHeld ?_) | (refine tk 15 (oi := ⟨some 32, _, _, _, _, _⟩) (v := ?_) rfl (by kernel_rfl) (.inl ⟨by rfl, ?_⟩) hHeld ?_; rotate_left; focus (intro w hSw; (try dsimp only at hSw); go_simp; try with_reducible rfl))
            simp only [PT]
            first | (refine tk 16 (oi := ⟨some 33, _, _, _, _, _⟩) (v := undef) rfl (by kernel_rfl) (.inr ⟨by rfl, rfl⟩) hHeld ?_) | (refine tk 16 (oi := ⟨some 33, _, _, _, _, _⟩) (v := ?_) rfl (by kernel_rfl) (.inl ⟨by rfl, ?_⟩) hHeld ?_; rotate_left; focus (intro w hSw; (try dsimp only at hSw); go_simp; try with_reducible rfl))
            simp only [PT]
            first | (refine tk 17 (oi := ⟨some 34, _, _, _, _, _⟩) (v := undef) rfl (by kernel_rfl) (.inr ⟨by rfl, rfl⟩) hHeld ?_) | (refine' tk 17 (oi := ⟨some 34, _, _, _, _, _⟩) (v := _) rfl (by kernel_rfl) (yields_str elB.1 (by kernel_rfl) (by kernel_rfl) (by rfl) _ rfl rfl (fun v h => h.2.2.1)) hHeld ?_)
            simp only [PT]
            first | (refine tk 18 (oi := ⟨some 35, _, _, _, _, _⟩) (v := undef) rfl (by kernel_rfl) (.inr ⟨by rfl, rfl⟩) hHeld ?_) | (refine tk 18 (oi := ⟨some 35, _, _, _, _, _⟩) (v := ?_) rfl (by kernel_rfl) (.inl ⟨by rfl, ?_⟩) hHeld ?_; rotate_left; focus (intro w hSw; (try dsimp only at hSw); go_simp; try with_reducible rfl))
            simp only [PT]
            first | (refine tk 19 (oi := ⟨some 36, _, _, _, _, _⟩) (v := undef) rfl (by kernel_rfl) (.inr ⟨by rfl, rfl⟩) hHeld ?_) | (refine tk 19 (oi := ⟨some 36, _, _, _, _, _⟩) (v := ?_) rfl (by kernel_rfl) (.inl ⟨by rfl, ?_⟩) hHeld ?_; rotate_left; focus (intro w hSw; (try dsimp only at hSw); go_simp; try with_reducible rfl))
            simp only [PT]
            first | (refine tk 20 (oi := ⟨some 37, _, _, _, _, _⟩) (v := undef) rfl (by kernel_rfl) (.inr ⟨by rfl, rfl⟩) hHeld ?_) | (refine tk 20 (oi := ⟨some 37, _, _, _, _, _⟩) (v := ?_) rfl (by kernel_rfl) (.inl ⟨by rfl, ?_⟩) hHeld ?_; rotate_left; focus (intro w hSw; (try dsimp only at hSw); go_simp; try with_reducible rfl))
            simp only [PT]
            first | (refine tk 21 (oi := ⟨some 38, _, _, _, _, _⟩) (v := undef) rfl (by kernel_rfl) (.inr ⟨by rfl, rfl⟩) hHeld ?_) | (refine tk 21 (oi := ⟨some 38, _, _, _, _, _⟩) (v := ?_) rfl (by kernel_rfl) (.inl ⟨by rfl, ?_⟩) hHeld ?_; rotate_left; focus (intro w hSw; (try dsimp only at hSw); go_simp; try with_reducible rfl))
            simp only [PT]
            first | (refine tk 22 (oi := ⟨some 39, _, _, _, _, _⟩) (v := undef) rfl (by kernel_rfl) (.inr ⟨by rfl, rfl⟩) hHeld ?_) | (refine tk 22 (oi := ⟨some 39, _, _, _, _, _⟩) (v := ?_) rfl (by kernel_rfl) (.inl ⟨by rfl, ?_⟩) hHeld ?_; rotate_left; focus (intro w hSw; (try dsimp only at hSw); go_simp; try with_reducible rfl))
            simp only [PT]
            first | (refine tk 23 (oi := ⟨some 40, _, _, _, _, _⟩) (v := undef) rfl (by kernel_rfl) (.inr ⟨by rfl, rfl⟩) hHeld ?_) | (refine' tk 23 (oi := ⟨some 40, _, _, _, _, _⟩) (v := _) rfl (by kernel_rfl) (yields_str elB.1 (by kernel_rfl) (by kernel_rfl) (by rfl) _ rfl rfl (fun v h => h.2.2.2)) hHeld ?_)
            simp only [PT]
            first | (refine tk 24 (oi := ⟨some 41, _, _, _, _, _⟩) (v := undef) rfl (by kernel_rfl) (.inr ⟨by rfl, rfl⟩) hHeld ?_) | (refine tk 24 (oi := ⟨some 41, _, _, _, _, _⟩) (v := ?_) rfl (by kernel_rfl) (.inl ⟨by rfl, ?_⟩) hHeld ?_; rotate_left; focus (intro w hSw; (try dsimp only at hSw); go_simp; try with_reducible rfl))
            simp only [PT]
            refine tk 25 (oi := ⟨some 42, _, _, _, _, _⟩) (v := ?_) rfl (by kernel_rfl) (.inl ⟨by rfl, ?_⟩) hHeld ?_; rotate_left; focus (intro w hSw; (try dsimp only at hSw); go_simp; try with_reducible rfl)
            simp only [PT]
            refine wpAnyH_done (by kernel_rfl) ?_ _
            go_wp2_with fail
            go_ret
            exact ⟨by rw [HF.out]; rfl, HB.out.drew⟩
        · have HF : Hid (decide (vals os = vals ps) = false) := Lib.hid (by
            have hne : vals os ≠ vals ps := fun e => hc (by
              have h1 := HVo.out
              have h2 := HVp.out
              simp only [e] at h1
              rw [h1] at h2
              exact congrArg Prod.fst h2)
            simpa using hne)
          have hne : (o.code != p.code) = true := by simpa using hc
          go_wp2_with fail
          refine wp_region_held_drew (S := fun v => v.cell? ⟨b, off + k * 2, none⟩ = some (.int .i64 o.code) ∧ v.cell? ⟨b2, off2 + k * 2, none⟩ = some (.int .i64 p.code)) (by kernel_rfl) ?_ (fun hHeld => ?_)
          focus (exact ⟨HQ.out.1, HQ.out.2.2.1⟩)
          refine tk 0 (oi := ⟨some 17, _, _, _, _, _⟩) (v := ?_) rfl (by kernel_rfl) (.inl ⟨by rfl, ?_⟩) hHeld ?_; rotate_left; focus (intro w hSw; (try dsimp only at hSw); go_simp; try with_reducible rfl)
          simp only [PT]
          refine tk 1 (oi := ⟨some 18, _, _, _, _, _⟩) (v := ?_) rfl (by kernel_rfl) (.inl ⟨by rfl, ?_⟩) hHeld ?_; rotate_left; focus (intro w hSw; (try dsimp only at hSw); go_simp; try with_reducible rfl)
          simp only [PT]
          refine tk 2 (oi := ⟨some 19, _, _, _, _, _⟩) (v := ?_) rfl (by kernel_rfl) (.inl ⟨by rfl, ?_⟩) hHeld ?_; rotate_left; focus (intro w hSw; (try dsimp only at hSw); go_simp; try with_reducible rfl)
          simp only [PT]
          refine tk 3 (oi := ⟨some 20, _, _, _, _, _⟩) (v := ?_) rfl (by kernel_rfl) (.inl ⟨by rfl, ?_⟩) hHeld ?_; rotate_left; focus (intro w hSw; (try dsimp only at hSw); go_simp; try with_reducible rfl)
          simp only [PT]
          refine tk 4 (oi := ⟨some 21, _, _, _, _, _⟩) (v := ?_) rfl (by kernel_rfl) (.inl ⟨by rfl, ?_⟩) hHeld ?_; rotate_left; focus (intro w hSw; (try dsimp only at hSw); go_simp; try with_reducible rfl)
          simp only [PT]
          refine tk 5 (oi := ⟨some 22, _, _, _, _, _⟩) (v := ?_) rfl (by kernel_rfl) (.inl ⟨by rfl, ?_⟩) hHeld ?_; rotate_left; focus (intro w hSw; (try dsimp only at hSw); go_simp; try with_reducible rfl)
          simp only [PT]
          refine tk 6 (oi := ⟨some 23, _, _, _, _, _⟩) (v := ?_) rfl (by kernel_rfl) (.inl ⟨by rfl, ?_⟩) hHeld ?_; rotate_left; focus (intro w hSw; (try dsimp only at hSw); go_simp; try with_reducible rfl)
          simp only [PT]
          refine tk 7 (oi := ⟨some 24, _, _, _, _, _⟩) (v := ?_) rfl (by kernel_rfl) (.inl ⟨by rfl, ?_⟩) hHeld ?_; rotate_left; focus (intro w hSw; (try dsimp only at hSw); go_simp; try with_reducible rfl)
          simp only [PT]
          refine tk 8 (oi := ⟨some 25, _, _, _, _, _⟩) (v := ?_) rfl (by kernel_rfl) (.inl ⟨by rfl, ?_⟩) hHeld ?_; rotate_left; focus (intro w hSw; (try dsimp only at hSw); go_simp; try with_reducible rfl)
          simp only [PT]
          refine tk 9 (oi := ⟨some 26, _, _, _, _, _⟩) (v := ?_) rfl (by kernel_rfl) (.inl ⟨by rfl, ?_⟩) hHeld ?_; rotate_left; focus (intro w hSw; (try dsimp only at hSw); go_simp; try with_reducible rfl)
          simp only [PT]
          refine tk 10 (oi := ⟨some 27, _, _, _, _, _⟩) (v := ?_) rfl (by kernel_rfl) (.inl ⟨by rfl, ?_⟩) hHeld ?_; rotate_left; focus (intro w hSw; (try dsimp only at hSw); go_simp; try with_reducible rfl)
          simp only [PT]
          refine tk 11 (oi := ⟨some 28, _, _, _, _, _⟩) (v := ?_) rfl (by kernel_rfl) (.inl ⟨by rfl, ?_⟩) hHeld ?_; rotate_left; focus (intro w hSw; (try dsimp only at hSw); go_simp; try with_reducible rfl)
          simp only [PT]
          first | (refine tk 12 (oi := ⟨some 29, _, _, _, _, _⟩) (v := undef) rfl (by kernel_rfl) (.inr ⟨by rfl, rfl⟩) hHeld ?_) | (refine tk 12 (oi := ⟨some 29, _, _, _, _, _⟩) (v := ?_) rfl (by kernel_rfl) (.inl ⟨by rfl, ?_⟩) hHeld ?_; rotate_left; focus (intro w hSw; (try dsimp only at hSw); go_simp; try with_reducible rfl))
          simp only [PT]
          first | (refine tk 13 (oi := ⟨some 30, _, _, _, _, _⟩) (v := undef) rfl (by kernel_rfl) (.inr ⟨by rfl, rfl⟩) hHeld ?_) | (refine tk 13 (oi := ⟨some 30, _, _, _, _, _⟩) (v := ?_) rfl (by kernel_rfl) (.inl ⟨by rfl, ?_⟩) hHeld ?_; rotate_left; focus (intro w hSw; (try dsimp only at hSw); go_simp; try with_reducible rfl))
          simp only [PT]
          first | (refine tk 14 (oi := ⟨some 31, _, _, _, _, _⟩) (v := undef) rfl (by kernel_rfl) (.inr ⟨by rfl, rfl⟩) hHeld ?_) | (refine tk 14 (oi := ⟨some 31, _, _, _, _, _⟩) (v := ?_) rfl (by kernel_rfl) (.inl ⟨by rfl, ?_⟩) hHeld ?_; rotate_left; focus (intro w hSw; (try dsimp only at hSw); go_simp; try with_reducible rfl))
          simp only [PT]
          first | (refine tk 15 (oi := ⟨some 32, _, _, _, _, _⟩) (v := undef) rfl (by kernel_rfl) (.inr ⟨by rfl, rfl⟩) hHeld ?_) | (refine tk 15 (oi := ⟨some 32, _, _, _, _, _⟩) (v := ?_) rfl (by kernel_rfl) (.inl ⟨by rfl, ?_⟩) hHeld ?_; rotate_left; focus (intro w hSw; (try dsimp only at hSw); go_simp; try with_reducible rfl))
          simp only [PT]
          first | (refine tk 16 (oi := ⟨some 33, _, _, _, _, _⟩) (v := undef) rfl (by kernel_rfl) (.inr ⟨by rfl, rfl⟩) hHeld ?_) | (refine tk 16 (oi := ⟨some 33, _, _, _, _, _⟩) (v := ?_) rfl (by kernel_rfl) (.inl ⟨by rfl, ?_⟩) hHeld ?_; rotate_left; focus (intro w hSw; (try dsimp only at hSw); go_simp; try with_reducible rfl))
          simp only [PT]
          first | (refine tk 17 (oi := ⟨some 34, _, _, _, _, _⟩) (v := undef) rfl (by kernel_rfl) (.inr ⟨by rfl, rfl⟩) hHeld ?_) | (refine tk 17 (oi := ⟨some 34, _, _, _, _, _⟩) (v := ?_) rfl (by kernel_rfl) (.inl ⟨by rfl, ?_⟩) hHeld ?_; rotate_left; focus (intro w hSw; (try dsimp only at hSw); go_simp; try with_reducible rfl))
          simp only [PT]
          first | (refine tk 18 (oi := ⟨some 35, _, _, _, _, _⟩) (v := undef) rfl (by kernel_rfl) (.inr ⟨by rfl, rfl⟩) hHeld ?_) | (refine tk 18 (oi := ⟨some 35, _, _, _, _, _⟩) (v := ?_) rfl (by kernel_rfl) (.inl ⟨by rfl, ?_⟩) hHeld ?_; rotate_left; focus (intro w hSw; (try dsimp only at hSw); go_simp; try with_reducible rfl))
          simp only [PT]
          first | (refine tk 19 (oi := ⟨some 36, _, _, _, _, _⟩) (v := undef) rfl (by kernel_rfl) (.inr ⟨by rfl, rfl⟩) hHeld ?_) | (refine tk 19 (oi := ⟨some 36, _, _, _, _, _⟩) (v := ?_) rfl (by kernel_rfl) (.inl ⟨by rfl, ?_⟩) hHeld ?_; rotate_left; focus (intro w hSw; (try dsimp only at hSw); go_simp; try with_reducible rfl))
          simp only [PT]
          first | (refine tk 20 (oi := ⟨some 37, _, _, _, _, _⟩) (v := undef) rfl (by kernel_rfl) (.inr ⟨by rfl, rfl⟩) hHeld ?_) | (refine tk 20 (oi := ⟨some 37, _, _, _, _, _⟩) (v := ?_) rfl (by kernel_rfl) (.inl ⟨by rfl, ?_⟩) hHeld ?_; rotate_left; focus (intro w hSw; (try dsimp only at hSw); go_simp; try with_reducible rfl))
          simp only [PT]
          first | (refine tk 21 (oi := ⟨some 38, _, _, _, _, _⟩) (v := undef) rfl (by kernel_rfl) (.inr ⟨by rfl, rfl⟩) hHeld ?_) | (refine tk 21 (oi := ⟨some 38, _, _, _, _, _⟩) (v := ?_) rfl (by kernel_rfl) (.inl ⟨by rfl, ?_⟩) hHeld ?_; rotate_left; focus (intro w hSw; (try dsimp only at hSw); go_simp; try with_reducible rfl))
          simp only [PT]
          first | (refine tk 22 (oi := ⟨some 39, _, _, _, _, _⟩) (v := undef) rfl (by kernel_rfl) (.inr ⟨by rfl, rfl⟩) hHeld ?_) | (refine tk 22 (oi := ⟨some 39, _, _, _, _, _⟩) (v := ?_) rfl (by kernel_rfl) (.inl ⟨by rfl, ?_⟩) hHeld ?_; rotate_left; focus (intro w hSw; (try dsimp only at hSw); go_simp; try with_reducible rfl))
          simp only [PT]
          first | (refine tk 23 (oi := ⟨some 40, _, _, _, _, _⟩) (v := undef) rfl (by kernel_rfl) (.inr ⟨by rfl, rfl⟩) hHeld ?_) | (refine tk 23 (oi := ⟨some 40, _, _, _, _, _⟩) (v := ?_) rfl (by kernel_rfl) (.inl ⟨by rfl, ?_⟩) hHeld ?_; rotate_left; focus (intro w hSw; (try dsimp only at hSw); go_simp; try with_reducible rfl))
          simp only [PT]
          first | (refine tk 24 (oi := ⟨some 41, _, _, _, _, _⟩) (v := undef) rfl (by kernel_rfl) (.inr ⟨by rfl, rfl⟩) hHeld ?_) | (refine tk 24 (oi := ⟨some 41, _, _, _, _, _⟩) (v := ?_) rfl (by kernel_rfl) (.inl ⟨by rfl, ?_⟩) hHeld ?_; rotate_left; focus (intro w hSw; (try dsimp only at hSw); go_simp; try with_reducible rfl))
          simp only [PT]
          refine tk 25 (oi := ⟨some 42, _, _, _, _, _⟩) (v := ?_) rfl (by kernel_rfl) (.inl ⟨by rfl, ?_⟩) hHeld ?_; rotate_left; focus (intro w hSw; (try dsimp only at hSw); go_simp; try with_reducible rfl)
          simp only [PT]
          refine wpAnyH_done (by kernel_rfl) ?_ _
          go_wp2_with fail
          go_ret
          exact ⟨by rw [HF.out]; rfl, HB.out.drew⟩
      · have HF : Hid (decide (vals os = vals ps) = true) := Lib.hid (by
          have h := HT.out
          have e1 := HN.out
          have e2 := HN2.out
          rw [List.take_of_length_le (by rw [vals_length]; omega), List.take_of_length_le (by rw [vals_length]; omega)] at h
          simpa using h)
        go_wp2_with fail
        go_ret
        exact ⟨by rw [HF.out]; rfl, HB.out⟩
  · have HF : Hid (decide (vals os = vals ps) = false) := Lib.hid (by
      have hnx : vals os ≠ vals ps := fun e => hlen (by
        have := congrArg List.length e
        rw [vals_length, vals_length] at this
        omega)
      simpa using hnx)
    clear hs hs2 hn hn2
    go_enter Try.func45, Try.ntmps45
    go_wp2_with fail
    go_ret
    exact ⟨by rw [HF.out]; rfl, Below.refl _ _⟩
end Go.Proofs.Ytmfplinbbcoahaa
