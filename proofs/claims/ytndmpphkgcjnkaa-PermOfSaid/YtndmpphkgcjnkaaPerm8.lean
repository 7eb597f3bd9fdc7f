/-
  Chapter 16: the laws PermOf, PermWhole, PermKeeps, walked.
-/
import Derived.Test.YtndmpphkgcjnkaaPerm7
namespace Go.Proofs.Ytndmpphkgcjnkaa
open Go.RowKit Go.Sort
set_option linter.unusedVariables false

theorem retI_at {size : Nat} {l : List Nat} {w : World} {e : Ending} {w' : World} (h : RetI size l w e w') (hs : 0 < size) : ∃ g c, e = .returned (.slice (some ⟨g, 0, none⟩) size c) ∧ w.heap.size ≤ g ∧ g < w'.heap.size ∧ w'.ownsRow w.heap.size 3 1 (.slice (some ⟨g, 0, none⟩) size c) size (NV l) ∧ Below w.heap.size w w' := by
  obtain ⟨ad, c, he, ho, hb⟩ := h
  rcases own_form ho with ⟨_, h0, _⟩ | ⟨g, rfl, h1, h2⟩
  · omega
  · exact ⟨g, c, he, h1, h2, ho, hb⟩
theorem allN_length (a b s : Nat) : (allN a b s).length = s := by simp [allN]

set_option maxRecDepth 100000 in
set_option maxHeartbeats 2000000 in
theorem of_walk (kb : List UInt8) (hkb : kb.length = 16) (s : ByteArray) (hs : s.size ≤ 9223372036854775807) (n : Nat) (hn : n ≤ 65535) (w : World) :
    Calls Try.prog 5 #[.agg (BV kb).toArray, .string s, .int .u16 (n : Int)] w fun e w' => e = .returned (.bool true) ∧ Below w.heap.size w w' := by
  obtain ⟨w1, hw1⟩ : ∃ w1, w1 = w.alloc (.cells (BV kb).toArray 28) := ⟨_, rfl⟩
  have HB := Lib.hid (show Below w.heap.size w w1 by rw [hw1]; exact (by repeat (first | exact Below.refl _ _ | refine Below.drew ?_ | refine Below.trans ?_ (below_drewN _ _ _) | refine Below.alloc ?_ (by first | exact Nat.le_refl _ | (simp; done) | (simp; omega)) _)))
  have HR := Lib.hid (show w1.rangeAt w.heap.size 0 (BV kb) by rw [hw1]; exact range_last rfl)
  have HZ := Lib.hid (show w1.heap.size = w.heap.size + 1 by rw [hw1]; simp)
  have HW := Lib.hid hw1
  have HI : Hid ((Try.prog.info? 28).map (·.size) = some (BV kb).length) := Lib.hid (by rw [BV_length, hkb]; kernel_rfl)
  have HB1 := Lib.hid (Below.refl w1.heap.size w1)
  clear hw1
  by_cases hsz : (300 : Int) < (s.size : Int)
  · go_enter Try.func5, Try.ntmps5
    go_wp2_with (first
      | (go_at_call 9; (try rw [← HW.out]); go_must (refine (awake_any _).mono ?_); rintro e w6 ⟨rfl, hb2⟩; (first | (have HB1' := cB HB1 (by repeat (first | exact Below.refl _ _ | refine Below.drew ?_ | refine Below.trans ?_ (below_drewN _ _ _) | refine Below.alloc ?_ (by first | exact Nat.le_refl _ | (simp; done) | (simp; omega)) _)) hb2; clear HB1; have HB1 := HB1'; clear HB1') | (have HB1' := cO HB1 (by repeat (first | exact Below.refl _ _ | refine Below.drew ?_ | refine Below.trans ?_ (below_drewN _ _ _) | refine Below.alloc ?_ (by first | exact Nat.le_refl _ | (simp; done) | (simp; omega)) _)) hb2; clear HB1; have HB1 := HB1'; clear HB1') | (have HB1' := cK HB1 (by repeat (first | exact Below.refl _ _ | refine Below.drew ?_ | refine Below.trans ?_ (below_drewN _ _ _) | refine Below.alloc ?_ (by first | exact Nat.le_refl _ | (simp; done) | (simp; omega)) _)) hb2; clear HB1; have HB1 := HB1'; clear HB1') | (have HB1' := cP HB1 (by repeat (first | exact Below.refl _ _ | refine Below.drew ?_ | refine Below.trans ?_ (below_drewN _ _ _) | refine Below.alloc ?_ (by first | exact Nat.le_refl _ | (simp; done) | (simp; omega)) _)) hb2; clear HB1; have HB1 := HB1'; clear HB1')); clear hb2))
    go_ret
    exact ⟨rfl, HB.out.trans (HB1.out.mono HB.out.size)⟩
  · have hs2 : s.size ≤ 300 := by omega
    obtain ⟨m, hm⟩ : ∃ m : Nat, (n : Int) % 300 = (m : Int) := ⟨n % 300, by omega⟩
    have hmb : m ≤ 65535 := by omega
    obtain ⟨s1, s2, s3, s4⟩ := nextP_spec (m : Int) (by omega)
    have hl := low_le (m : Int)
    obtain ⟨P, hP⟩ : ∃ P, P = nextP (m : Int) := ⟨_, rfl⟩
    rw [← hP] at s1 s2 s3
    have hP2 : 2 ≤ P := by omega
    have HP := Lib.hid hP
    have HPR := Lib.hid s1
    clear s2 s4 hl hP s1
    obtain ⟨A, hA⟩ : ∃ A, A = offN kb s P := ⟨_, rfl⟩
    obtain ⟨B, hB⟩ : ∃ B, B = skipN kb s P := ⟨_, rfl⟩
    have hAl : A < P := by rw [hA]; exact Nat.mod_lt _ (by omega)
    have hBl : 0 < B ∧ B < P := by rw [hB]; have := Nat.mod_lt (tagN kb s 1) (show 0 < P - 1 by omega); unfold skipN; omega
    have HA := Lib.hid hA
    have HBB := Lib.hid hB
    clear hA hB
    go_enter Try.func5, Try.ntmps5
    go_wp2_with (first
      | (go_at_call 9; (try rw [← HW.out]); go_must (refine (awake_any _).mono ?_); rintro e w6 ⟨rfl, hb2⟩; (first | (have HB1' := cB HB1 (by repeat (first | exact Below.refl _ _ | refine Below.drew ?_ | refine Below.trans ?_ (below_drewN _ _ _) | refine Below.alloc ?_ (by first | exact Nat.le_refl _ | (simp; done) | (simp; omega)) _)) hb2; clear HB1; have HB1 := HB1'; clear HB1') | (have HB1' := cO HB1 (by repeat (first | exact Below.refl _ _ | refine Below.drew ?_ | refine Below.trans ?_ (below_drewN _ _ _) | refine Below.alloc ?_ (by first | exact Nat.le_refl _ | (simp; done) | (simp; omega)) _)) hb2; clear HB1; have HB1 := HB1'; clear HB1') | (have HB1' := cK HB1 (by repeat (first | exact Below.refl _ _ | refine Below.drew ?_ | refine Below.trans ?_ (below_drewN _ _ _) | refine Below.alloc ?_ (by first | exact Nat.le_refl _ | (simp; done) | (simp; omega)) _)) hb2; clear HB1; have HB1 := HB1'; clear HB1') | (have HB1' := cP HB1 (by repeat (first | exact Below.refl _ _ | refine Below.drew ?_ | refine Below.trans ?_ (below_drewN _ _ _) | refine Below.alloc ?_ (by first | exact Nat.le_refl _ | (simp; done) | (simp; omega)) _)) hb2; clear HB1; have HB1 := HB1'; clear HB1')); clear hb2)
      | (go_at_call 13; go_must (refine (refNext_any (m : Int) (by omega) (by omega) _).mono ?_); rintro e w' ⟨he, rfl⟩; rw [← HP.out] at he; subst he)
      | ((with_reducible show wpList _ _ _ (⟨some 25, _, _, _, _, _⟩ :: _) _ _); go_must (refine wpL_load rfl 28 (.tmp 3) rfl w.heap.size 0 rfl (BV kb) _ (by have hz := HZ.out; exact range_below HR.out (by omega) HB1.out) Try.underlying28 rfl HI.out ?_); simp only [Act.put, List.setIfInBounds_toArray, List.set_cons_zero, List.set_cons_succ])
      | (go_at_call 14; go_must (refine (permOf_any kb hkb s (by omega) P hP2 (by omega) _).mono ?_); rintro e w6 ⟨he, hb2⟩; rw [← HA.out, ← HBB.out] at he; subst he; (first | (have HB1' := cB HB1 (by repeat (first | exact Below.refl _ _ | refine Below.drew ?_ | refine Below.trans ?_ (below_drewN _ _ _) | refine Below.alloc ?_ (by first | exact Nat.le_refl _ | (simp; done) | (simp; omega)) _)) hb2; clear HB1; have HB1 := HB1'; clear HB1') | (have HB1' := cO HB1 (by repeat (first | exact Below.refl _ _ | refine Below.drew ?_ | refine Below.trans ?_ (below_drewN _ _ _) | refine Below.alloc ?_ (by first | exact Nat.le_refl _ | (simp; done) | (simp; omega)) _)) hb2; clear HB1; have HB1 := HB1'; clear HB1') | (have HB1' := cK HB1 (by repeat (first | exact Below.refl _ _ | refine Below.drew ?_ | refine Below.trans ?_ (below_drewN _ _ _) | refine Below.alloc ?_ (by first | exact Nat.le_refl _ | (simp; done) | (simp; omega)) _)) hb2; clear HB1; have HB1 := HB1'; clear HB1') | (have HB1' := cP HB1 (by repeat (first | exact Below.refl _ _ | refine Below.drew ?_ | refine Below.trans ?_ (below_drewN _ _ _) | refine Below.alloc ?_ (by first | exact Nat.le_refl _ | (simp; done) | (simp; omega)) _)) hb2; clear HB1; have HB1 := HB1'; clear HB1')); clear hb2)
      | ((with_reducible show wpList _ _ _ (⟨some 32, _, _, _, _, _⟩ :: _) _ _); go_must (refine wpL_load rfl 28 (.tmp 3) rfl w.heap.size 0 rfl (BV kb) _ (by have hz := HZ.out; exact range_below HR.out (by omega) HB1.out) Try.underlying28 rfl HI.out ?_); simp only [Act.put, List.setIfInBounds_toArray, List.set_cons_zero, List.set_cons_succ])
      | (go_at_call 15; go_must (refine (refPermOf_any kb hkb s (by omega) P hP2 (by omega) _).mono ?_); rintro e w6 ⟨he, hb2⟩; rw [← HA.out, ← HBB.out] at he; subst he; (first | (have HB1' := cB HB1 (by repeat (first | exact Below.refl _ _ | refine Below.drew ?_ | refine Below.trans ?_ (below_drewN _ _ _) | refine Below.alloc ?_ (by first | exact Nat.le_refl _ | (simp; done) | (simp; omega)) _)) hb2; clear HB1; have HB1 := HB1'; clear HB1') | (have HB1' := cO HB1 (by repeat (first | exact Below.refl _ _ | refine Below.drew ?_ | refine Below.trans ?_ (below_drewN _ _ _) | refine Below.alloc ?_ (by first | exact Nat.le_refl _ | (simp; done) | (simp; omega)) _)) hb2; clear HB1; have HB1 := HB1'; clear HB1') | (have HB1' := cK HB1 (by repeat (first | exact Below.refl _ _ | refine Below.drew ?_ | refine Below.trans ?_ (below_drewN _ _ _) | refine Below.alloc ?_ (by first | exact Nat.le_refl _ | (simp; done) | (simp; omega)) _)) hb2; clear HB1; have HB1 := HB1'; clear HB1') | (have HB1' := cP HB1 (by repeat (first | exact Below.refl _ _ | refine Below.drew ?_ | refine Below.trans ?_ (below_drewN _ _ _) | refine Below.alloc ?_ (by first | exact Nat.le_refl _ | (simp; done) | (simp; omega)) _)) hb2; clear HB1; have HB1 := HB1'; clear HB1')); clear hb2))
    refine wp_region_held_drew (S := fun v => v.rangeAt w.heap.size 0 (BV kb)) (by kernel_rfl) ?_ (fun hHeld => ?_)
    focus (have hz := HZ.out; exact range_below HR.out (by omega) (HB1.out.trans (Below.mono (by repeat (first | exact Below.refl _ _ | refine Below.drew ?_ | refine Below.trans ?_ (below_drewN _ _ _) | refine Below.alloc ?_ (by first | exact Nat.le_refl _ | (simp; done) | (simp; omega)) _)) HB1.out.size)))
    refine wpAnyH_take (i := 0) (oi := { dst := some 38, op := Op.move (Operand.tmp 8), type := 3, pos := "law.go:50", after := #[], guard := none }) (v := ?_) rfl (by kernel_rfl) (by kernel_rfl) (by kernel_rfl) (fun _ _ _ h => h) (Or.inl ⟨by rfl, ?_⟩) hHeld ?_; rotate_left; focus (intro w hSw; (try dsimp only at hSw); go_simp; try with_reducible rfl)
    simp only [Act.put, List.setIfInBounds_toArray, List.set_cons_zero, List.set_cons_succ]
    refine wpAnyH_take (i := 1) (oi := { dst := some 39, op := Op.move (Operand.tmp 10), type := 3, pos := "law.go:50", after := #[], guard := none }) (v := ?_) rfl (by kernel_rfl) (by kernel_rfl) (by kernel_rfl) (fun _ _ _ h => h) (Or.inl ⟨by rfl, ?_⟩) hHeld ?_; rotate_left; focus (intro w hSw; (try dsimp only at hSw); go_simp; try with_reducible rfl)
    simp only [Act.put, List.setIfInBounds_toArray, List.set_cons_zero, List.set_cons_succ]
    refine wpAnyH_take (i := 2) (oi := { dst := some 40, op := Op.binOp BinOp.eql 3 (Operand.tmp 38) (Operand.tmp 39) 3, type := 4, pos := "law.go:50", after := #[{ on := 0, ground := Ground.data }, { on := 1, ground := Ground.data }], guard := none }) (v := ?_) rfl (by kernel_rfl) (by kernel_rfl) (by kernel_rfl) (fun _ _ _ h => h) (Or.inl ⟨by rfl, ?_⟩) hHeld ?_; rotate_left; focus (intro w hSw; (try dsimp only at hSw); go_simp; try with_reducible rfl)
    simp only [Act.put, List.setIfInBounds_toArray, List.set_cons_zero, List.set_cons_succ]
    refine wpAnyH_take (i := 3) (oi := { dst := some 41, op := Op.move (Operand.tmp 40), type := 4, pos := "law.go:50", after := #[{ on := 2, ground := Ground.data }], guard := none }) (v := ?_) rfl (by kernel_rfl) (by kernel_rfl) (by kernel_rfl) (fun _ _ _ h => h) (Or.inl ⟨by rfl, ?_⟩) hHeld ?_; rotate_left; focus (intro w hSw; (try dsimp only at hSw); go_simp; try with_reducible rfl)
    simp only [Act.put, List.setIfInBounds_toArray, List.set_cons_zero, List.set_cons_succ]
    first | (refine wpAnyH_take (i := 4) (oi := { dst := some 42, op := Op.move (Operand.tmp 9), type := 3, pos := "law.go:50", after := #[{ on := 3, ground := Ground.guard }], guard := some (3, true) }) (v := undef) rfl (by kernel_rfl) (by kernel_rfl) (by kernel_rfl) (fun _ _ _ h => h) (Or.inr ⟨by rfl, rfl⟩) hHeld ?_) | (refine wpAnyH_take (i := 4) (oi := { dst := some 42, op := Op.move (Operand.tmp 9), type := 3, pos := "law.go:50", after := #[{ on := 3, ground := Ground.guard }], guard := some (3, true) }) (v := ?_) rfl (by kernel_rfl) (by kernel_rfl) (by kernel_rfl) (fun _ _ _ h => h) (Or.inl ⟨by rfl, ?_⟩) hHeld ?_; rotate_left; focus (intro w hSw; (try dsimp only at hSw); go_simp; try with_reducible rfl))
    simp only [Act.put, List.setIfInBounds_toArray, List.set_cons_zero, List.set_cons_succ]
    first | (refine wpAnyH_take (i := 5) (oi := { dst := some 43, op := Op.move (Operand.tmp 11), type := 3, pos := "law.go:50", after := #[{ on := 3, ground := Ground.guard }], guard := some (3, true) }) (v := undef) rfl (by kernel_rfl) (by kernel_rfl) (by kernel_rfl) (fun _ _ _ h => h) (Or.inr ⟨by rfl, rfl⟩) hHeld ?_) | (refine wpAnyH_take (i := 5) (oi := { dst := some 43, op := Op.move (Operand.tmp 11), type := 3, pos := "law.go:50", after := #[{ on := 3, ground := Ground.guard }], guard := some (3, true) }) (v := ?_) rfl (by kernel_rfl) (by kernel_rfl) (by kernel_rfl) (fun _ _ _ h => h) (Or.inl ⟨by rfl, ?_⟩) hHeld ?_; rotate_left; focus (intro w hSw; (try dsimp only at hSw); go_simp; try with_reducible rfl))
    simp only [Act.put, List.setIfInBounds_toArray, List.set_cons_zero, List.set_cons_succ]
    first | (refine wpAnyH_take (i := 6) (oi := { dst := some 44, op := Op.binOp BinOp.eql 3 (Operand.tmp 42) (Operand.tmp 43) 3, type := 4, pos := "law.go:50", after := #[{ on := 4, ground := Ground.data }, { on := 5, ground := Ground.data }, { on := 3, ground := Ground.guard }], guard := some (3, true) }) (v := undef) rfl (by kernel_rfl) (by kernel_rfl) (by kernel_rfl) (fun _ _ _ h => h) (Or.inr ⟨by rfl, rfl⟩) hHeld ?_) | (refine wpAnyH_take (i := 6) (oi := { dst := some 44, op := Op.binOp BinOp.eql 3 (Operand.tmp 42) (Operand.tmp 43) 3, type := 4, pos := "law.go:50", after := #[{ on := 4, ground := Ground.data }, { on := 5, ground := Ground.data }, { on := 3, ground := Ground.guard }], guard := some (3, true) }) (v := ?_) rfl (by kernel_rfl) (by kernel_rfl) (by kernel_rfl) (fun _ _ _ h => h) (Or.inl ⟨by rfl, ?_⟩) hHeld ?_; rotate_left; focus (intro w hSw; (try dsimp only at hSw); go_simp; try with_reducible rfl))
    simp only [Act.put, List.setIfInBounds_toArray, List.set_cons_zero, List.set_cons_succ]
    refine wpAnyH_take (i := 7) (oi := { dst := some 45, op := Op.pick (Operand.tmp 41) (Operand.tmp 44) (Operand.const (Value.bool false)), type := 4, pos := "law.go:50", after := #[{ on := 3, ground := Ground.data }, { on := 6, ground := Ground.data }], guard := none }) (v := ?_) rfl (by kernel_rfl) (by kernel_rfl) (by kernel_rfl) (fun _ _ _ h => h) (Or.inl ⟨by rfl, ?_⟩) hHeld ?_; rotate_left; focus (intro w hSw; (try dsimp only at hSw); go_simp; try with_reducible rfl)
    simp only [Act.put, List.setIfInBounds_toArray, List.set_cons_zero, List.set_cons_succ]
    refine wpAnyH_take (i := 8) (oi := { dst := some 46, op := Op.move (Operand.tmp 45), type := 4, pos := "law.go:50", after := #[{ on := 7, ground := Ground.data }, { on := 3, ground := Ground.chain }], guard := none }) (v := ?_) rfl (by kernel_rfl) (by kernel_rfl) (by kernel_rfl) (fun _ _ _ h => h) (Or.inl ⟨by rfl, ?_⟩) hHeld ?_; rotate_left; focus (intro w hSw; (try dsimp only at hSw); go_simp; try with_reducible rfl)
    simp only [Act.put, List.setIfInBounds_toArray, List.set_cons_zero, List.set_cons_succ]
    first | (refine wpAnyH_take (i := 9) (oi := { dst := some 47, op := Op.load 28 (Operand.tmp 3), type := 28, pos := "law.go:50", after := #[{ on := 8, ground := Ground.guard }], guard := some (8, true) }) (v := undef) rfl (by kernel_rfl) (by kernel_rfl) (by kernel_rfl) (fun _ _ _ h => h) (Or.inr ⟨by rfl, rfl⟩) hHeld ?_) | (refine' wpAnyH_take (i := 9) (oi := { dst := some 47, op := Op.load 28 (Operand.tmp 3), type := 28, pos := "law.go:50", after := #[{ on := 8, ground := Ground.guard }], guard := some (8, true) }) (v := _) rfl (by kernel_rfl) (by kernel_rfl) (by kernel_rfl) (fun _ _ _ h => h) (yieldsIf_load_mid (by rfl) _ _ rfl _ _ rfl (BV kb) _ (fun v hv => hv) (Try.underlying28) rfl (HI.out)) hHeld ?_)
    simp only [Act.put, List.setIfInBounds_toArray, List.set_cons_zero, List.set_cons_succ]
    first | (refine wpAnyH_take (i := 10) (oi := { dst := some 48, op := Op.move (Operand.tmp 1), type := 9, pos := "law.go:50", after := #[{ on := 8, ground := Ground.guard }], guard := some (8, true) }) (v := undef) rfl (by kernel_rfl) (by kernel_rfl) (by kernel_rfl) (fun _ _ _ h => h) (Or.inr ⟨by rfl, rfl⟩) hHeld ?_) | (refine wpAnyH_take (i := 10) (oi := { dst := some 48, op := Op.move (Operand.tmp 1), type := 9, pos := "law.go:50", after := #[{ on := 8, ground := Ground.guard }], guard := some (8, true) }) (v := ?_) rfl (by kernel_rfl) (by kernel_rfl) (by kernel_rfl) (fun _ _ _ h => h) (Or.inl ⟨by rfl, ?_⟩) hHeld ?_; rotate_left; focus (intro w hSw; (try dsimp only at hSw); go_simp; try with_reducible rfl))
    simp only [Act.put, List.setIfInBounds_toArray, List.set_cons_zero, List.set_cons_succ]
    first | (refine wpAnyH_take (i := 11) (oi := { dst := some 49, op := Op.move (Operand.tmp 7), type := 3, pos := "law.go:50", after := #[{ on := 8, ground := Ground.guard }], guard := some (8, true) }) (v := undef) rfl (by kernel_rfl) (by kernel_rfl) (by kernel_rfl) (fun _ _ _ h => h) (Or.inr ⟨by rfl, rfl⟩) hHeld ?_) | (refine wpAnyH_take (i := 11) (oi := { dst := some 49, op := Op.move (Operand.tmp 7), type := 3, pos := "law.go:50", after := #[{ on := 8, ground := Ground.guard }], guard := some (8, true) }) (v := ?_) rfl (by kernel_rfl) (by kernel_rfl) (by kernel_rfl) (fun _ _ _ h => h) (Or.inl ⟨by rfl, ?_⟩) hHeld ?_; rotate_left; focus (intro w hSw; (try dsimp only at hSw); go_simp; try with_reducible rfl))
    simp only [Act.put, List.setIfInBounds_toArray, List.set_cons_zero, List.set_cons_succ]
    first | (refine wpAnyH_take (i := 13) (oi := { dst := some 51, op := Op.load 28 (Operand.tmp 3), type := 28, pos := "law.go:50", after := #[{ on := 8, ground := Ground.guard }], guard := some (8, true) }) (v := undef) rfl (by kernel_rfl) (by kernel_rfl) (by kernel_rfl) (fun _ _ _ h => h) (Or.inr ⟨by rfl, rfl⟩) hHeld ?_) | (refine' wpAnyH_take (i := 13) (oi := { dst := some 51, op := Op.load 28 (Operand.tmp 3), type := 28, pos := "law.go:50", after := #[{ on := 8, ground := Ground.guard }], guard := some (8, true) }) (v := _) rfl (by kernel_rfl) (by kernel_rfl) (by kernel_rfl) (fun _ _ _ h => h) (yieldsIf_load_mid (by rfl) _ _ rfl _ _ rfl (BV kb) _ (fun v hv => hv) (Try.underlying28) rfl (HI.out)) hHeld ?_)
    simp only [Act.put, List.setIfInBounds_toArray, List.set_cons_zero, List.set_cons_succ]
    first | (refine wpAnyH_take (i := 14) (oi := { dst := some 52, op := Op.move (Operand.tmp 1), type := 9, pos := "law.go:50", after := #[{ on := 8, ground := Ground.guard }], guard := some (8, true) }) (v := undef) rfl (by kernel_rfl) (by kernel_rfl) (by kernel_rfl) (fun _ _ _ h => h) (Or.inr ⟨by rfl, rfl⟩) hHeld ?_) | (refine wpAnyH_take (i := 14) (oi := { dst := some 52, op := Op.move (Operand.tmp 1), type := 9, pos := "law.go:50", after := #[{ on := 8, ground := Ground.guard }], guard := some (8, true) }) (v := ?_) rfl (by kernel_rfl) (by kernel_rfl) (by kernel_rfl) (fun _ _ _ h => h) (Or.inl ⟨by rfl, ?_⟩) hHeld ?_; rotate_left; focus (intro w hSw; (try dsimp only at hSw); go_simp; try with_reducible rfl))
    simp only [Act.put, List.setIfInBounds_toArray, List.set_cons_zero, List.set_cons_succ]
    first | (refine wpAnyH_take (i := 15) (oi := { dst := some 53, op := Op.move (Operand.tmp 7), type := 3, pos := "law.go:50", after := #[{ on := 8, ground := Ground.guard }], guard := some (8, true) }) (v := undef) rfl (by kernel_rfl) (by kernel_rfl) (by kernel_rfl) (fun _ _ _ h => h) (Or.inr ⟨by rfl, rfl⟩) hHeld ?_) | (refine wpAnyH_take (i := 15) (oi := { dst := some 53, op := Op.move (Operand.tmp 7), type := 3, pos := "law.go:50", after := #[{ on := 8, ground := Ground.guard }], guard := some (8, true) }) (v := ?_) rfl (by kernel_rfl) (by kernel_rfl) (by kernel_rfl) (fun _ _ _ h => h) (Or.inl ⟨by rfl, ?_⟩) hHeld ?_; rotate_left; focus (intro w hSw; (try dsimp only at hSw); go_simp; try with_reducible rfl))
    simp only [Act.put, List.setIfInBounds_toArray, List.set_cons_zero, List.set_cons_succ]
    refine wpAnyH_ready (rs := [12]) (by kernel_rfl) (by simp) ?_
    refine (AllReadyH.cons (o := { dst := some 50, op := Op.call { callee := Callee.value (Operand.func 17), args := #[Operand.tmp 47, Operand.tmp 48, Operand.tmp 49], argTypes := #[28, 9, 3] }, type := 32, pos := "law.go:50", after := #[{ on := 9, ground := Ground.data }, { on := 10, ground := Ground.data }, { on := 11, ground := Ground.data }, { on := 8, ground := Ground.chain }, { on := 8, ground := Ground.guard }], guard := some (8, true) }) rfl (fun K hK => ?_) AllReadyH.nil)
    (go_simp; go_must (refine (all_any kb hkb s (by omega) P hP2 (by omega) _).mono ?_); intro e w7 hr7; obtain ⟨g7, c7, rfl, _, _, ho7, hb7⟩ := retI_at hr7 (by omega); (first | (have HB1' := cB HB1 (by repeat (first | exact Below.refl _ _ | refine Below.drew ?_ | refine Below.trans ?_ (below_drewN _ _ _) | refine Below.alloc ?_ (by first | exact Nat.le_refl _ | (simp; done) | (simp; omega)) _)) hb7; clear HB1; have HB1 := HB1'; clear HB1') | (have HB1' := cO HB1 (by repeat (first | exact Below.refl _ _ | refine Below.drew ?_ | refine Below.trans ?_ (below_drewN _ _ _) | refine Below.alloc ?_ (by first | exact Nat.le_refl _ | (simp; done) | (simp; omega)) _)) hb7; clear HB1; have HB1 := HB1'; clear HB1') | (have HB1' := cK HB1 (by repeat (first | exact Below.refl _ _ | refine Below.drew ?_ | refine Below.trans ?_ (below_drewN _ _ _) | refine Below.alloc ?_ (by first | exact Nat.le_refl _ | (simp; done) | (simp; omega)) _)) hb7; clear HB1; have HB1 := HB1'; clear HB1') | (have HB1' := cP HB1 (by repeat (first | exact Below.refl _ _ | refine Below.drew ?_ | refine Below.trans ?_ (below_drewN _ _ _) | refine Below.alloc ?_ (by first | exact Nat.le_refl _ | (simp; done) | (simp; omega)) _)) hb7; clear HB1; have HB1 := HB1'; clear HB1')); have H7 := Lib.hid ho7; clear ho7 hb7 hr7; go_wp2_with fail)
    refine hK.out _ _ ?_ (fun hHeld => ?_)
    focus (have hz := HZ.out; exact range_below HR.out (by omega) (HB1.out.trans (Below.mono (by repeat (first | exact Below.refl _ _ | refine Below.drew ?_ | refine Below.trans ?_ (below_drewN _ _ _) | refine Below.alloc ?_ (by first | exact Nat.le_refl _ | (simp; done) | (simp; omega)) _)) HB1.out.size)))
    clear hK K
    try simp only [Act.put, List.setIfInBounds_toArray, List.set_cons_zero, List.set_cons_succ]
    refine wpAnyH_ready (rs := [16]) (by kernel_rfl) (by simp) ?_
    refine (AllReadyH.cons (o := { dst := some 54, op := Op.call { callee := Callee.value (Operand.func 18), args := #[Operand.tmp 51, Operand.tmp 52, Operand.tmp 53], argTypes := #[28, 9, 3] }, type := 32, pos := "law.go:50", after := #[{ on := 13, ground := Ground.data }, { on := 14, ground := Ground.data }, { on := 15, ground := Ground.data }, { on := 12, ground := Ground.chain }, { on := 8, ground := Ground.guard }], guard := some (8, true) }) rfl (fun K hK => ?_) AllReadyH.nil)
    (go_simp; go_must (refine (refAll_any kb hkb s (by omega) P hP2 (by omega) _).mono ?_); intro e w8 hr8; obtain ⟨g8, c8, rfl, _, _, ho8, hb8⟩ := retI_at hr8 (by omega); (first | (have HB1' := cB HB1 (by repeat (first | exact Below.refl _ _ | refine Below.drew ?_ | refine Below.trans ?_ (below_drewN _ _ _) | refine Below.alloc ?_ (by first | exact Nat.le_refl _ | (simp; done) | (simp; omega)) _)) hb8; clear HB1; have HB1 := HB1'; clear HB1') | (have HB1' := cO HB1 (by repeat (first | exact Below.refl _ _ | refine Below.drew ?_ | refine Below.trans ?_ (below_drewN _ _ _) | refine Below.alloc ?_ (by first | exact Nat.le_refl _ | (simp; done) | (simp; omega)) _)) hb8; clear HB1; have HB1 := HB1'; clear HB1') | (have HB1' := cK HB1 (by repeat (first | exact Below.refl _ _ | refine Below.drew ?_ | refine Below.trans ?_ (below_drewN _ _ _) | refine Below.alloc ?_ (by first | exact Nat.le_refl _ | (simp; done) | (simp; omega)) _)) hb8; clear HB1; have HB1 := HB1'; clear HB1') | (have HB1' := cP HB1 (by repeat (first | exact Below.refl _ _ | refine Below.drew ?_ | refine Below.trans ?_ (below_drewN _ _ _) | refine Below.alloc ?_ (by first | exact Nat.le_refl _ | (simp; done) | (simp; omega)) _)) hb8; clear HB1; have HB1 := HB1'; clear HB1')); (first | (have H7' := cB H7 (by repeat (first | exact Below.refl _ _ | refine Below.drew ?_ | refine Below.trans ?_ (below_drewN _ _ _) | refine Below.alloc ?_ (by first | exact Nat.le_refl _ | (simp; done) | (simp; omega)) _)) hb8; clear H7; have H7 := H7'; clear H7') | (have H7' := cO H7 (by repeat (first | exact Below.refl _ _ | refine Below.drew ?_ | refine Below.trans ?_ (below_drewN _ _ _) | refine Below.alloc ?_ (by first | exact Nat.le_refl _ | (simp; done) | (simp; omega)) _)) hb8; clear H7; have H7 := H7'; clear H7') | (have H7' := cK H7 (by repeat (first | exact Below.refl _ _ | refine Below.drew ?_ | refine Below.trans ?_ (below_drewN _ _ _) | refine Below.alloc ?_ (by first | exact Nat.le_refl _ | (simp; done) | (simp; omega)) _)) hb8; clear H7; have H7 := H7'; clear H7') | (have H7' := cP H7 (by repeat (first | exact Below.refl _ _ | refine Below.drew ?_ | refine Below.trans ?_ (below_drewN _ _ _) | refine Below.alloc ?_ (by first | exact Nat.le_refl _ | (simp; done) | (simp; omega)) _)) hb8; clear H7; have H7 := H7'; clear H7')); have H8 := Lib.hid ho8; clear ho8 hb8 hr8; go_wp2_with fail)
    refine hK.out _ _ ?_ (fun hHeld => ?_)
    focus (have hz := HZ.out; exact range_below HR.out (by omega) (HB1.out.trans (Below.mono (by repeat (first | exact Below.refl _ _ | refine Below.drew ?_ | refine Below.trans ?_ (below_drewN _ _ _) | refine Below.alloc ?_ (by first | exact Nat.le_refl _ | (simp; done) | (simp; omega)) _)) HB1.out.size)))
    clear hK K
    try simp only [Act.put, List.setIfInBounds_toArray, List.set_cons_zero, List.set_cons_succ]
    refine wpAnyH_ready (rs := [17]) (by kernel_rfl) (by simp) ?_
    refine (AllReadyH.cons (o := { dst := some 55, op := Op.call { callee := Callee.value (Operand.func 16), args := #[Operand.tmp 50, Operand.tmp 54], argTypes := #[32, 32] }, type := 4, pos := "law.go:50", after := #[{ on := 12, ground := Ground.data }, { on := 16, ground := Ground.data }, { on := 16, ground := Ground.chain }, { on := 8, ground := Ground.guard }], guard := some (8, true) }) rfl (fun K hK => ?_) AllReadyH.nil)
    (go_simp; go_must (refine (sameI_any _ _ _ _ _ _ _ _ (Sl.of_own H7.out) (Sl.of_own H8.out) (by rw [allN_length]; omega)).mono ?_); rintro e w9 ⟨rfl, hb9⟩; (first | (have HB1' := cB HB1 (by repeat (first | exact Below.refl _ _ | refine Below.drew ?_ | refine Below.trans ?_ (below_drewN _ _ _) | refine Below.alloc ?_ (by first | exact Nat.le_refl _ | (simp; done) | (simp; omega)) _)) hb9; clear HB1; have HB1 := HB1'; clear HB1') | (have HB1' := cO HB1 (by repeat (first | exact Below.refl _ _ | refine Below.drew ?_ | refine Below.trans ?_ (below_drewN _ _ _) | refine Below.alloc ?_ (by first | exact Nat.le_refl _ | (simp; done) | (simp; omega)) _)) hb9; clear HB1; have HB1 := HB1'; clear HB1') | (have HB1' := cK HB1 (by repeat (first | exact Below.refl _ _ | refine Below.drew ?_ | refine Below.trans ?_ (below_drewN _ _ _) | refine Below.alloc ?_ (by first | exact Nat.le_refl _ | (simp; done) | (simp; omega)) _)) hb9; clear HB1; have HB1 := HB1'; clear HB1') | (have HB1' := cP HB1 (by repeat (first | exact Below.refl _ _ | refine Below.drew ?_ | refine Below.trans ?_ (below_drewN _ _ _) | refine Below.alloc ?_ (by first | exact Nat.le_refl _ | (simp; done) | (simp; omega)) _)) hb9; clear HB1; have HB1 := HB1'; clear HB1')); clear hb9 H7 H8; go_wp2_with fail)
    refine hK.out _ _ ?_ (fun hHeld => ?_)
    focus (have hz := HZ.out; exact range_below HR.out (by omega) (HB1.out.trans (Below.mono (by repeat (first | exact Below.refl _ _ | refine Below.drew ?_ | refine Below.trans ?_ (below_drewN _ _ _) | refine Below.alloc ?_ (by first | exact Nat.le_refl _ | (simp; done) | (simp; omega)) _)) HB1.out.size)))
    clear hK K
    try simp only [Act.put, List.setIfInBounds_toArray, List.set_cons_zero, List.set_cons_succ]
    refine wpAnyH_take (i := 18) (oi := { dst := some 56, op := Op.pick (Operand.tmp 46) (Operand.tmp 55) (Operand.const (Value.bool false)), type := 4, pos := "law.go:50", after := #[{ on := 8, ground := Ground.data }, { on := 17, ground := Ground.data }], guard := none }) (v := ?_) rfl (by kernel_rfl) (by kernel_rfl) (by kernel_rfl) (fun _ _ _ h => h) (Or.inl ⟨by rfl, ?_⟩) hHeld ?_; rotate_left; focus (intro w hSw; (try dsimp only at hSw); go_simp; try with_reducible rfl)
    simp only [Act.put, List.setIfInBounds_toArray, List.set_cons_zero, List.set_cons_succ]
    refine wpAnyH_take (i := 19) (oi := { dst := some 6, op := Op.assign (Operand.tmp 56), type := 4, pos := "law.go:50", after := #[{ on := 18, ground := Ground.data }, { on := 17, ground := Ground.chain }, { on := 0, ground := Ground.phase }, { on := 1, ground := Ground.phase }, { on := 2, ground := Ground.phase }, { on := 3, ground := Ground.phase }, { on := 4, ground := Ground.phase }, { on := 5, ground := Ground.phase }, { on := 6, ground := Ground.phase }, { on := 7, ground := Ground.phase }, { on := 8, ground := Ground.phase }, { on := 9, ground := Ground.phase }, { on := 10, ground := Ground.phase }, { on := 11, ground := Ground.phase }, { on := 12, ground := Ground.phase }, { on := 13, ground := Ground.phase }, { on := 14, ground := Ground.phase }, { on := 15, ground := Ground.phase }, { on := 16, ground := Ground.phase }, { on := 17, ground := Ground.phase }, { on := 18, ground := Ground.phase }], guard := none }) (v := ?_) rfl (by kernel_rfl) (by kernel_rfl) (by kernel_rfl) (fun _ _ _ h => h) (Or.inl ⟨by rfl, ?_⟩) hHeld ?_; rotate_left; focus (intro w hSw; (try dsimp only at hSw); go_simp; try with_reducible rfl)
    simp only [Act.put, List.setIfInBounds_toArray, List.set_cons_zero, List.set_cons_succ]
    refine wpAnyH_done (by kernel_rfl) ?_ _
    all_goals
      go_wp2_with fail
      go_ret
      exact ⟨rfl, HB.out.trans (HB1.out.mono HB.out.size)⟩

def BoV (l : List Bool) : List Value := l.map Value.bool
theorem BoV_length (l : List Bool) : (BoV l).length = l.length := by simp [BoV]
theorem BoV_set (l : List Bool) (i : Nat) (b : Bool) : (BoV l).set i (.bool b) = BoV (l.set i b) := by simp [BoV, List.map_set]
theorem elBo : Elem Try.prog 35 4 1 1 (.bool false) := ⟨Try.underlying35, by kernel_rfl, rfl, by omega⟩
/-- which places have come up among the first k choices -/
def seenL (A B P k : Nat) : List Bool := (List.range P).map fun j => (List.range k).any fun i => choiceN A B P i == j
theorem seenL_length (A B P k : Nat) : (seenL A B P k).length = P := by simp [seenL]
theorem seenL_zero (A B P : Nat) : BoV (seenL A B P 0) = List.replicate P (.bool false) := by
  apply List.ext_getElem
  · simp [BoV, seenL]
  · intro i h1 h2
    simp [BoV, seenL]
theorem seenL_no {A B P k : Nat} (hp : pr P = true) (h0 : 0 < B) (h1 : B < P) (hk : k < P) (h : choiceN A B P k < P) : (seenL A B P k)[choiceN A B P k]'(by rw [seenL_length]; exact h) = false := by
  simp only [seenL, List.getElem_map, List.getElem_range, List.any_eq_false, List.mem_range]
  intro i hi
  simp only [beq_iff_eq]
  exact choice_inj hp h0 h1 hi hk
theorem seenL_succ (A B P k : Nat) : (seenL A B P k).set (choiceN A B P k) true = seenL A B P (k + 1) := by
  apply List.ext_getElem
  · simp [seenL]
  · intro i h1 h2
    simp only [List.getElem_set, seenL, List.getElem_map, List.getElem_range, List.range_succ, List.any_append, List.any_cons, List.any_nil, Bool.or_false]
    split
    · rename_i h; simp [h]
    · rename_i h
      have : (choiceN A B P k == i) = false := by simpa using h
      rw [this, Bool.or_false]
theorem own_boolcell {w : World} {base : Nat} {e : TypeId} {g n c : Nat} {l : List Bool} (h : w.ownsRow base e 1 (.slice (some ⟨g, 0, none⟩) n c) n (BoV l)) {j : Nat} (hj : j < l.length) : w.cell? ⟨g, j, none⟩ = some (.bool l[j]) := by
  have hl := h.1
  rw [BoV_length] at hl
  rw [h.cellAt j (by omega), List.getElem?_eq_getElem (by rw [BoV_length]; omega)]
  simp [BoV]
theorem own_numcell {w : World} {base : Nat} {e : TypeId} {g n c : Nat} {l : List Nat} (h : w.ownsRow base e 1 (.slice (some ⟨g, 0, none⟩) n c) n (NV l)) {j : Nat} (hj : j < l.length) : w.cell? ⟨g, j, none⟩ = some (.int .i64 (l[j] : Int)) := by
  have hl := h.1
  rw [NV_length] at hl
  rw [h.cellAt j (by omega), List.getElem?_eq_getElem (by rw [NV_length]; omega)]
  simp [NV]

set_option maxRecDepth 100000 in
set_option maxHeartbeats 2000000 in
theorem whole_walk (kb : List UInt8) (hkb : kb.length = 16) (s : ByteArray) (hs : s.size ≤ 9223372036854775807) (n : Nat) (hn : n ≤ 65535) (w : World) :
    Calls Try.prog 6 #[.agg (BV kb).toArray, .string s, .int .u16 (n : Int)] w fun e w' => e = .returned (.bool true) ∧ Below w.heap.size w w' := by
  obtain ⟨w1, hw1⟩ : ∃ w1, w1 = w.alloc (.cells (BV kb).toArray 28) := ⟨_, rfl⟩
  have HB := Lib.hid (show Below w.heap.size w w1 by rw [hw1]; exact (by repeat (first | exact Below.refl _ _ | refine Below.drew ?_ | refine Below.trans ?_ (below_drewN _ _ _) | refine Below.alloc ?_ (by first | exact Nat.le_refl _ | (simp; done) | (simp; omega)) _)))
  have HR := Lib.hid (show w1.rangeAt w.heap.size 0 (BV kb) by rw [hw1]; exact range_last rfl)
  have HZ := Lib.hid (show w1.heap.size = w.heap.size + 1 by rw [hw1]; simp)
  have HW := Lib.hid hw1
  have HI : Hid ((Try.prog.info? 28).map (·.size) = some (BV kb).length) := Lib.hid (by rw [BV_length, hkb]; kernel_rfl)
  have HB1 := Lib.hid (Below.refl w1.heap.size w1)
  clear hw1
  by_cases hsz : (300 : Int) < (s.size : Int)
  · go_enter Try.func6, Try.ntmps6
    go_wp2_with (first
      | (go_at_call 9; (try rw [← HW.out]); go_must (refine (awake_any _).mono ?_); rintro e w6 ⟨rfl, hb2⟩; (first | (have HB1' := cB HB1 (by repeat (first | exact Below.refl _ _ | refine Below.drew ?_ | refine Below.trans ?_ (below_drewN _ _ _) | refine Below.alloc ?_ (by first | exact Nat.le_refl _ | (simp; done) | (simp; omega)) _)) hb2; clear HB1; have HB1 := HB1'; clear HB1') | (have HB1' := cO HB1 (by repeat (first | exact Below.refl _ _ | refine Below.drew ?_ | refine Below.trans ?_ (below_drewN _ _ _) | refine Below.alloc ?_ (by first | exact Nat.le_refl _ | (simp; done) | (simp; omega)) _)) hb2; clear HB1; have HB1 := HB1'; clear HB1') | (have HB1' := cK HB1 (by repeat (first | exact Below.refl _ _ | refine Below.drew ?_ | refine Below.trans ?_ (below_drewN _ _ _) | refine Below.alloc ?_ (by first | exact Nat.le_refl _ | (simp; done) | (simp; omega)) _)) hb2; clear HB1; have HB1 := HB1'; clear HB1') | (have HB1' := cP HB1 (by repeat (first | exact Below.refl _ _ | refine Below.drew ?_ | refine Below.trans ?_ (below_drewN _ _ _) | refine Below.alloc ?_ (by first | exact Nat.le_refl _ | (simp; done) | (simp; omega)) _)) hb2; clear HB1; have HB1 := HB1'; clear HB1')); clear hb2))
    go_ret
    exact ⟨rfl, HB.out.trans (HB1.out.mono HB.out.size)⟩
  · have hs2 : s.size ≤ 300 := by omega
    obtain ⟨m, hm⟩ : ∃ m : Nat, (n : Int) % 500 = (m : Int) := ⟨n % 500, by omega⟩
    have hmb : m ≤ 65535 := by omega
    obtain ⟨s1, s2, s3, s4⟩ := nextP_spec (m : Int) (by omega)
    have hl := low_le (m : Int)
    obtain ⟨P, hP⟩ : ∃ P, P = nextP (m : Int) := ⟨_, rfl⟩
    rw [← hP] at s1 s2 s3
    have hP2 : 2 ≤ P := by omega
    have HP := Lib.hid hP
    have HPR := Lib.hid s1
    clear s2 s4 hl hP s1
    obtain ⟨A, hA⟩ : ∃ A, A = offN kb s P := ⟨_, rfl⟩
    obtain ⟨B, hB⟩ : ∃ B, B = skipN kb s P := ⟨_, rfl⟩
    have hAl : A < P := by rw [hA]; exact Nat.mod_lt _ (by omega)
    have hBl : 0 < B ∧ B < P := by rw [hB]; have := Nat.mod_lt (tagN kb s 1) (show 0 < P - 1 by omega); unfold skipN; omega
    have HA := Lib.hid hA
    have HBB := Lib.hid hB
    clear hA hB
    go_enter Try.func6, Try.ntmps6
    go_wp2_with (first
      | (go_at_call 9; (try rw [← HW.out]); go_must (refine (awake_any _).mono ?_); rintro e w6 ⟨rfl, hb2⟩; (first | (have HB1' := cB HB1 (by repeat (first | exact Below.refl _ _ | refine Below.drew ?_ | refine Below.trans ?_ (below_drewN _ _ _) | refine Below.alloc ?_ (by first | exact Nat.le_refl _ | (simp; done) | (simp; omega)) _)) hb2; clear HB1; have HB1 := HB1'; clear HB1') | (have HB1' := cO HB1 (by repeat (first | exact Below.refl _ _ | refine Below.drew ?_ | refine Below.trans ?_ (below_drewN _ _ _) | refine Below.alloc ?_ (by first | exact Nat.le_refl _ | (simp; done) | (simp; omega)) _)) hb2; clear HB1; have HB1 := HB1'; clear HB1') | (have HB1' := cK HB1 (by repeat (first | exact Below.refl _ _ | refine Below.drew ?_ | refine Below.trans ?_ (below_drewN _ _ _) | refine Below.alloc ?_ (by first | exact Nat.le_refl _ | (simp; done) | (simp; omega)) _)) hb2; clear HB1; have HB1 := HB1'; clear HB1') | (have HB1' := cP HB1 (by repeat (first | exact Below.refl _ _ | refine Below.drew ?_ | refine Below.trans ?_ (below_drewN _ _ _) | refine Below.alloc ?_ (by first | exact Nat.le_refl _ | (simp; done) | (simp; omega)) _)) hb2; clear HB1; have HB1 := HB1'; clear HB1')); clear hb2)
      | (go_at_call 13; go_must (refine (refNext_any (m : Int) (by omega) (by omega) _).mono ?_); rintro e w' ⟨he, rfl⟩; rw [← HP.out] at he; subst he)
      | ((with_reducible show wpList _ _ _ (⟨some 23, _, _, _, _, _⟩ :: _) _ _); go_must (refine wpL_load rfl 28 (.tmp 3) rfl w.heap.size 0 rfl (BV kb) _ (by have hz := HZ.out; exact range_below HR.out (by omega) HB1.out) Try.underlying28 rfl HI.out ?_); simp only [Act.put, List.setIfInBounds_toArray, List.set_cons_zero, List.set_cons_succ])
      | (go_at_call 17; go_must (refine (all_any kb hkb s (by omega) P hP2 (by omega) _).mono ?_); intro e w7 hr7; rw [← HA.out, ← HBB.out] at hr7; have HZ6 := Lib.hid HB1.out.size; obtain ⟨g7, c7, rfl, hg7, _, ho7, hb7⟩ := retI_at hr7 (by omega); (first | (have HB1' := cB HB1 (by repeat (first | exact Below.refl _ _ | refine Below.drew ?_ | refine Below.trans ?_ (below_drewN _ _ _) | refine Below.alloc ?_ (by first | exact Nat.le_refl _ | (simp; done) | (simp; omega)) _)) hb7; clear HB1; have HB1 := HB1'; clear HB1') | (have HB1' := cO HB1 (by repeat (first | exact Below.refl _ _ | refine Below.drew ?_ | refine Below.trans ?_ (below_drewN _ _ _) | refine Below.alloc ?_ (by first | exact Nat.le_refl _ | (simp; done) | (simp; omega)) _)) hb7; clear HB1; have HB1 := HB1'; clear HB1') | (have HB1' := cK HB1 (by repeat (first | exact Below.refl _ _ | refine Below.drew ?_ | refine Below.trans ?_ (below_drewN _ _ _) | refine Below.alloc ?_ (by first | exact Nat.le_refl _ | (simp; done) | (simp; omega)) _)) hb7; clear HB1; have HB1 := HB1'; clear HB1') | (have HB1' := cP HB1 (by repeat (first | exact Below.refl _ _ | refine Below.drew ?_ | refine Below.trans ?_ (below_drewN _ _ _) | refine Below.alloc ?_ (by first | exact Nat.le_refl _ | (simp; done) | (simp; omega)) _)) hb7; clear HB1; have HB1 := HB1'; clear HB1')); have H7 := Lib.hid ho7; have HG7 := Lib.hid hg7; clear ho7 hb7 hr7 hg7)
      | (at_make; go_must (refine wpL_make elBo rfl (.tmp 31) (.tmp 31) rfl w1.heap.size P rfl rfl rfl rfl (by omega) (by unfold maxLen; omega) HB1.out.size ?_); intro w8 ho8 hg8; have HB8 := Lib.hid (HB1.out.grown hg8 HB1.out.size (fun k hk => by cases hk)); have H8 := Lib.hid ho8; have HZ8 := Lib.hid HB1.out.size; have HO7 := Lib.hid (H7.out.kept hg8 (.inr (by simp [Value.ownBlock]))); have HG8 := Lib.hid (World.ownsRow.lt H7.out g7 rfl).2; clear ho8 hg8 HB1 H7; simp only [Act.put, List.setIfInBounds_toArray, List.set_cons_zero, List.set_cons_succ]))
    have HBe : Hid (w1.heap.size ≤ g7) := Lib.hid (Nat.le_trans HZ6.out HG7.out)
    generalize w7.heap.size = g8 at *
    go_loopw [10] (fun i wr => ∃ k : Nat, k ≤ P ∧ i = .int .i64 k ∧ wr.ownsRow w1.heap.size 4 1 (.slice (some ⟨g8, 0, none⟩) P P) P (BoV (seenL A B P k)) ∧ wr.ownsRow w1.heap.size 3 1 (.slice (some ⟨g7, 0, none⟩) P c7) P (NV (allN A B P)) ∧ Below w1.heap.size w1 wr) (fun i _ => P - (intOf i).toNat)
    case atStart => exact ⟨0, Nat.zero_le _, rfl, by rw [seenL_zero, ← toList_madeCells_one]; have := H8.out; rw [Nat.mul_one] at this; exact this, own_base HO7.out HZ6.out, HB8.out⟩
    case round =>
      obtain ⟨k, hk, rfl, hown, hnum, hb⟩ := hrel
      by_cases hlt : k < P
      · obtain ⟨x, hx⟩ : ∃ x, x = choiceN A B P k := ⟨_, rfl⟩
        have hxl : x < P := by rw [hx]; exact Nat.mod_lt _ (by omega)
        have k1 := own_numcell hnum (j := k) (by rw [allN_length]; exact hlt)
        rw [show (allN A B P)[k]'(by rw [allN_length]; exact hlt) = x by rw [hx]; simp [allN]] at k1
        have k2 := own_boolcell hown (j := x) (by rw [seenL_length]; exact hxl)
        have hno := seenL_no (A := A) (k := k) HPR.out hBl.1 hBl.2 hlt (by rw [← hx]; exact hxl)
        simp only [← hx] at hno
        rw [hno] at k2
        have ff := hown.frozenAt x
        obtain ⟨o2, g2⟩ := hown.stored x (.bool true)
        rw [BoV_set, hx, seenL_succ, ← hx] at o2
        have HO2 := Lib.hid o2
        have HN2 := Lib.hid (hnum.kept g2 (.inr (by have := HG8.out; simp [Value.ownBlock]; omega)))
        have HB2 := Lib.hid (hb.grown g2 hb.size (fun j e => by cases e; exact HZ8.out))
        have hx0 : (0 : Int) ≤ (x : Int) := by omega
        clear o2 g2 hown hnum hb hx hno
        go_wp2_with fail
        go_roundw
        case rel => exact ⟨k + 1, by omega, by go_num, HO2.out, HN2.out, HB2.out⟩
        case measure => simp [intOf]; omega
      · have HB2 := Lib.hid hb
        clear hown hnum hb
        go_wp2_with fail
        go_ret
        exact ⟨rfl, HB.out.trans (HB2.out.mono HB.out.size)⟩

set_option maxRecDepth 100000 in
set_option maxHeartbeats 2000000 in
theorem keeps_walk (kb : List UInt8) (hkb : kb.length = 16) (s : ByteArray) (hs : s.size ≤ 9223372036854775807) (n : Nat) (hn : n ≤ 255) (w : World) :
    Calls Try.prog 8 #[.agg (BV kb).toArray, .string s, .int .u8 (n : Int)] w fun e w' => e = .returned (.bool true) ∧ Below w.heap.size w w' := by
  obtain ⟨w1, hw1⟩ : ∃ w1, w1 = w.alloc (.cells (BV kb).toArray 28) := ⟨_, rfl⟩
  have HB := Lib.hid (show Below w.heap.size w w1 by rw [hw1]; exact (by repeat (first | exact Below.refl _ _ | refine Below.drew ?_ | refine Below.trans ?_ (below_drewN _ _ _) | refine Below.alloc ?_ (by first | exact Nat.le_refl _ | (simp; done) | (simp; omega)) _)))
  have HR := Lib.hid (show w1.rangeAt w.heap.size 0 (BV kb) by rw [hw1]; exact range_last rfl)
  have HZ := Lib.hid (show w1.heap.size = w.heap.size + 1 by rw [hw1]; simp)
  have HW := Lib.hid hw1
  have HI : Hid ((Try.prog.info? 28).map (·.size) = some (BV kb).length) := Lib.hid (by rw [BV_length, hkb]; kernel_rfl)
  have HB1 := Lib.hid (Below.refl w1.heap.size w1)
  clear hw1
  by_cases hsz : (300 : Int) < (s.size : Int)
  · go_enter Try.func8, Try.ntmps8
    go_wp2_with (first
      | (go_at_call 9; (try rw [← HW.out]); go_must (refine (awake_any _).mono ?_); rintro e w6 ⟨rfl, hb2⟩; (first | (have HB1' := cB HB1 (by repeat (first | exact Below.refl _ _ | refine Below.drew ?_ | refine Below.trans ?_ (below_drewN _ _ _) | refine Below.alloc ?_ (by first | exact Nat.le_refl _ | (simp; done) | (simp; omega)) _)) hb2; clear HB1; have HB1 := HB1'; clear HB1') | (have HB1' := cO HB1 (by repeat (first | exact Below.refl _ _ | refine Below.drew ?_ | refine Below.trans ?_ (below_drewN _ _ _) | refine Below.alloc ?_ (by first | exact Nat.le_refl _ | (simp; done) | (simp; omega)) _)) hb2; clear HB1; have HB1 := HB1'; clear HB1') | (have HB1' := cK HB1 (by repeat (first | exact Below.refl _ _ | refine Below.drew ?_ | refine Below.trans ?_ (below_drewN _ _ _) | refine Below.alloc ?_ (by first | exact Nat.le_refl _ | (simp; done) | (simp; omega)) _)) hb2; clear HB1; have HB1 := HB1'; clear HB1') | (have HB1' := cP HB1 (by repeat (first | exact Below.refl _ _ | refine Below.drew ?_ | refine Below.trans ?_ (below_drewN _ _ _) | refine Below.alloc ?_ (by first | exact Nat.le_refl _ | (simp; done) | (simp; omega)) _)) hb2; clear HB1; have HB1 := HB1'; clear HB1')); clear hb2))
    go_ret
    exact ⟨rfl, HB.out.trans (HB1.out.mono HB.out.size)⟩
  · have hs2 : s.size ≤ 300 := by omega
    obtain ⟨m, hm⟩ : ∃ m : Nat, (n : Int) = (m : Int) := ⟨n, by omega⟩
    have hmb : m ≤ 65535 := by omega
    obtain ⟨s1, s2, s3, s4⟩ := nextP_spec (m : Int) (by omega)
    have hl := low_le (m : Int)
    obtain ⟨P, hP⟩ : ∃ P, P = nextP (m : Int) := ⟨_, rfl⟩
    rw [← hP] at s1 s2 s3
    have hP2 : 2 ≤ P := by omega
    have HP := Lib.hid hP
    have HPR := Lib.hid s1
    clear s2 s4 hl hP s1
    obtain ⟨A, hA⟩ : ∃ A, A = offN kb s P := ⟨_, rfl⟩
    obtain ⟨B, hB⟩ : ∃ B, B = skipN kb s P := ⟨_, rfl⟩
    have hAl : A < P := by rw [hA]; exact Nat.mod_lt _ (by omega)
    have hBl : 0 < B ∧ B < P := by rw [hB]; have := Nat.mod_lt (tagN kb s 1) (show 0 < P - 1 by omega); unfold skipN; omega
    have HA := Lib.hid hA
    have HBB := Lib.hid hB
    clear hA hB
    go_enter Try.func8, Try.ntmps8
    go_wp2_with (first
      | (go_at_call 9; (try rw [← HW.out]); go_must (refine (awake_any _).mono ?_); rintro e w6 ⟨rfl, hb2⟩; (first | (have HB1' := cB HB1 (by repeat (first | exact Below.refl _ _ | refine Below.drew ?_ | refine Below.trans ?_ (below_drewN _ _ _) | refine Below.alloc ?_ (by first | exact Nat.le_refl _ | (simp; done) | (simp; omega)) _)) hb2; clear HB1; have HB1 := HB1'; clear HB1') | (have HB1' := cO HB1 (by repeat (first | exact Below.refl _ _ | refine Below.drew ?_ | refine Below.trans ?_ (below_drewN _ _ _) | refine Below.alloc ?_ (by first | exact Nat.le_refl _ | (simp; done) | (simp; omega)) _)) hb2; clear HB1; have HB1 := HB1'; clear HB1') | (have HB1' := cK HB1 (by repeat (first | exact Below.refl _ _ | refine Below.drew ?_ | refine Below.trans ?_ (below_drewN _ _ _) | refine Below.alloc ?_ (by first | exact Nat.le_refl _ | (simp; done) | (simp; omega)) _)) hb2; clear HB1; have HB1 := HB1'; clear HB1') | (have HB1' := cP HB1 (by repeat (first | exact Below.refl _ _ | refine Below.drew ?_ | refine Below.trans ?_ (below_drewN _ _ _) | refine Below.alloc ?_ (by first | exact Nat.le_refl _ | (simp; done) | (simp; omega)) _)) hb2; clear HB1; have HB1 := HB1'; clear HB1')); clear hb2)
      | (go_at_call 13; go_must (refine (refNext_any (m : Int) (by omega) (by omega) _).mono ?_); rintro e w' ⟨he, rfl⟩; rw [← HP.out] at he; subst he)
      | ((with_reducible show wpList _ _ _ (⟨some 21, _, _, _, _, _⟩ :: _) _ _); go_must (refine wpL_load rfl 28 (.tmp 3) rfl w.heap.size 0 rfl (BV kb) _ (by have hz := HZ.out; exact range_below HR.out (by omega) HB1.out) Try.underlying28 rfl HI.out ?_); simp only [Act.put, List.setIfInBounds_toArray, List.set_cons_zero, List.set_cons_succ])
      | (go_at_call 17; have HZ6 := Lib.hid HB1.out.size; go_must (refine (all_any kb hkb s (by omega) P hP2 (by omega) _).mono ?_); intro e w7 hr7; obtain ⟨g7, c7, rfl, hg7, _, ho7, hb7⟩ := retI_at hr7 (by omega); (first | (have HB1' := cB HB1 (by repeat (first | exact Below.refl _ _ | refine Below.drew ?_ | refine Below.trans ?_ (below_drewN _ _ _) | refine Below.alloc ?_ (by first | exact Nat.le_refl _ | (simp; done) | (simp; omega)) _)) hb7; clear HB1; have HB1 := HB1'; clear HB1') | (have HB1' := cO HB1 (by repeat (first | exact Below.refl _ _ | refine Below.drew ?_ | refine Below.trans ?_ (below_drewN _ _ _) | refine Below.alloc ?_ (by first | exact Nat.le_refl _ | (simp; done) | (simp; omega)) _)) hb7; clear HB1; have HB1 := HB1'; clear HB1') | (have HB1' := cK HB1 (by repeat (first | exact Below.refl _ _ | refine Below.drew ?_ | refine Below.trans ?_ (below_drewN _ _ _) | refine Below.alloc ?_ (by first | exact Nat.le_refl _ | (simp; done) | (simp; omega)) _)) hb7; clear HB1; have HB1 := HB1'; clear HB1') | (have HB1' := cP HB1 (by repeat (first | exact Below.refl _ _ | refine Below.drew ?_ | refine Below.trans ?_ (below_drewN _ _ _) | refine Below.alloc ?_ (by first | exact Nat.le_refl _ | (simp; done) | (simp; omega)) _)) hb7; clear HB1; have HB1 := HB1'; clear HB1')); have H7 := Lib.hid ho7; have HG7 := Lib.hid hg7; clear ho7 hb7 hr7 hg7))
    have HBe : Hid (w1.heap.size ≤ g7) := Lib.hid (Nat.le_trans HZ6.out HG7.out)
    go_loopw [9] (fun i wr => ∃ (k : Nat) (L : List Value), k ≤ P ∧ i = .int .i64 k ∧ wr.ownsRow w1.heap.size 3 1 (.slice (some ⟨g7, 0, none⟩) P c7) P L ∧ Below w1.heap.size w1 wr) (fun i _ => P - (intOf i).toNat)
    case atStart => exact ⟨0, _, Nat.zero_le _, rfl, own_base H7.out HZ6.out, HB1.out⟩
    case round =>
      obtain ⟨k, L, hk, rfl, hown, hb⟩ := hrel
      by_cases hlt : k < P
      · have hL : L.length = P := by have := hown.1; omega
        have k1 := hown.cellAt k (by omega)
        rw [List.getElem?_eq_getElem (by omega)] at k1
        have ff := hown.frozenAt k
        obtain ⟨o2, g2⟩ := hown.stored k (.int .i64 (-1))
        have HO2 := Lib.hid o2
        have HB2 := Lib.hid (hb.grown g2 hb.size (fun j e => by cases e; exact HBe.out))
        clear o2 g2 hown hb HB1
        go_wp2_with fail
        go_roundw
        case rel => exact ⟨k + 1, _, by omega, by go_num, HO2.out, HB2.out⟩
        case measure => simp [intOf]; omega
      · clear HB1
        have HB1 := Lib.hid hb
        clear hown hb
        go_wp2_with fail
        refine wp_region_held_drew (S := fun v => v.rangeAt w.heap.size 0 (BV kb)) (by kernel_rfl) ?_ (fun hHeld => ?_)
        focus (have hz := HZ.out; exact range_below HR.out (by omega) (HB1.out.trans (Below.mono (by repeat (first | exact Below.refl _ _ | refine Below.drew ?_ | refine Below.trans ?_ (below_drewN _ _ _) | refine Below.alloc ?_ (by first | exact Nat.le_refl _ | (simp; done) | (simp; omega)) _)) HB1.out.size)))
        refine' wpAnyH_take (i := 0) (oi := { dst := some 34, op := Op.load 28 (Operand.tmp 3), type := 28, pos := "law.go:97", after := #[], guard := none }) (v := _) rfl (by kernel_rfl) (by kernel_rfl) (by kernel_rfl) (fun _ _ _ h => h) (yieldsIf_load_mid (by rfl) _ _ rfl _ _ rfl (BV kb) _ (fun v hv => hv) (Try.underlying28) rfl (HI.out)) hHeld ?_
        simp only [Act.put, List.setIfInBounds_toArray, List.set_cons_zero, List.set_cons_succ]
        refine wpAnyH_take (i := 1) (oi := { dst := some 35, op := Op.move (Operand.tmp 1), type := 9, pos := "law.go:97", after := #[], guard := none }) (v := ?_) rfl (by kernel_rfl) (by kernel_rfl) (by kernel_rfl) (fun _ _ _ h => h) (Or.inl ⟨by rfl, ?_⟩) hHeld ?_; rotate_left; focus (intro w hSw; (try dsimp only at hSw); go_simp; try with_reducible rfl)
        simp only [Act.put, List.setIfInBounds_toArray, List.set_cons_zero, List.set_cons_succ]
        refine wpAnyH_take (i := 2) (oi := { dst := some 36, op := Op.move (Operand.tmp 7), type := 3, pos := "law.go:97", after := #[], guard := none }) (v := ?_) rfl (by kernel_rfl) (by kernel_rfl) (by kernel_rfl) (fun _ _ _ h => h) (Or.inl ⟨by rfl, ?_⟩) hHeld ?_; rotate_left; focus (intro w hSw; (try dsimp only at hSw); go_simp; try with_reducible rfl)
        simp only [Act.put, List.setIfInBounds_toArray, List.set_cons_zero, List.set_cons_succ]
        refine' wpAnyH_take (i := 4) (oi := { dst := some 38, op := Op.load 28 (Operand.tmp 3), type := 28, pos := "law.go:97", after := #[], guard := none }) (v := _) rfl (by kernel_rfl) (by kernel_rfl) (by kernel_rfl) (fun _ _ _ h => h) (yieldsIf_load_mid (by rfl) _ _ rfl _ _ rfl (BV kb) _ (fun v hv => hv) (Try.underlying28) rfl (HI.out)) hHeld ?_
        simp only [Act.put, List.setIfInBounds_toArray, List.set_cons_zero, List.set_cons_succ]
        refine wpAnyH_take (i := 5) (oi := { dst := some 39, op := Op.move (Operand.tmp 1), type := 9, pos := "law.go:97", after := #[], guard := none }) (v := ?_) rfl (by kernel_rfl) (by kernel_rfl) (by kernel_rfl) (fun _ _ _ h => h) (Or.inl ⟨by rfl, ?_⟩) hHeld ?_; rotate_left; focus (intro w hSw; (try dsimp only at hSw); go_simp; try with_reducible rfl)
        simp only [Act.put, List.setIfInBounds_toArray, List.set_cons_zero, List.set_cons_succ]
        refine wpAnyH_take (i := 6) (oi := { dst := some 40, op := Op.move (Operand.tmp 7), type := 3, pos := "law.go:97", after := #[], guard := none }) (v := ?_) rfl (by kernel_rfl) (by kernel_rfl) (by kernel_rfl) (fun _ _ _ h => h) (Or.inl ⟨by rfl, ?_⟩) hHeld ?_; rotate_left; focus (intro w hSw; (try dsimp only at hSw); go_simp; try with_reducible rfl)
        simp only [Act.put, List.setIfInBounds_toArray, List.set_cons_zero, List.set_cons_succ]
        refine wpAnyH_ready (rs := [3]) (by kernel_rfl) (by simp) ?_
        refine (AllReadyH.cons (o := { dst := some 37, op := Op.call { callee := Callee.value (Operand.func 17), args := #[Operand.tmp 34, Operand.tmp 35, Operand.tmp 36], argTypes := #[28, 9, 3] }, type := 32, pos := "law.go:97", after := #[{ on := 0, ground := Ground.data }, { on := 1, ground := Ground.data }, { on := 2, ground := Ground.data }], guard := none }) rfl (fun K hK => ?_) AllReadyH.nil)
        (go_simp; go_must (refine (all_any kb hkb s (by omega) P hP2 (by omega) _).mono ?_); intro e w7 hr7; obtain ⟨g7, c7, rfl, _, _, ho7, hb7⟩ := retI_at hr7 (by omega); (first | (have HB1' := cB HB1 (by repeat (first | exact Below.refl _ _ | refine Below.drew ?_ | refine Below.trans ?_ (below_drewN _ _ _) | refine Below.alloc ?_ (by first | exact Nat.le_refl _ | (simp; done) | (simp; omega)) _)) hb7; clear HB1; have HB1 := HB1'; clear HB1') | (have HB1' := cO HB1 (by repeat (first | exact Below.refl _ _ | refine Below.drew ?_ | refine Below.trans ?_ (below_drewN _ _ _) | refine Below.alloc ?_ (by first | exact Nat.le_refl _ | (simp; done) | (simp; omega)) _)) hb7; clear HB1; have HB1 := HB1'; clear HB1') | (have HB1' := cK HB1 (by repeat (first | exact Below.refl _ _ | refine Below.drew ?_ | refine Below.trans ?_ (below_drewN _ _ _) | refine Below.alloc ?_ (by first | exact Nat.le_refl _ | (simp; done) | (simp; omega)) _)) hb7; clear HB1; have HB1 := HB1'; clear HB1') | (have HB1' := cP HB1 (by repeat (first | exact Below.refl _ _ | refine Below.drew ?_ | refine Below.trans ?_ (below_drewN _ _ _) | refine Below.alloc ?_ (by first | exact Nat.le_refl _ | (simp; done) | (simp; omega)) _)) hb7; clear HB1; have HB1 := HB1'; clear HB1')); have H7 := Lib.hid ho7; clear ho7 hb7 hr7; go_wp2_with fail)
        refine hK.out _ _ ?_ (fun hHeld => ?_)
        focus (have hz := HZ.out; exact range_below HR.out (by omega) (HB1.out.trans (Below.mono (by repeat (first | exact Below.refl _ _ | refine Below.drew ?_ | refine Below.trans ?_ (below_drewN _ _ _) | refine Below.alloc ?_ (by first | exact Nat.le_refl _ | (simp; done) | (simp; omega)) _)) HB1.out.size)))
        clear hK K
        try simp only [Act.put, List.setIfInBounds_toArray, List.set_cons_zero, List.set_cons_succ]
        refine wpAnyH_ready (rs := [7]) (by kernel_rfl) (by simp) ?_
        refine (AllReadyH.cons (o := { dst := some 41, op := Op.call { callee := Callee.value (Operand.func 18), args := #[Operand.tmp 38, Operand.tmp 39, Operand.tmp 40], argTypes := #[28, 9, 3] }, type := 32, pos := "law.go:97", after := #[{ on := 4, ground := Ground.data }, { on := 5, ground := Ground.data }, { on := 6, ground := Ground.data }, { on := 3, ground := Ground.chain }], guard := none }) rfl (fun K hK => ?_) AllReadyH.nil)
        (go_simp; go_must (refine (refAll_any kb hkb s (by omega) P hP2 (by omega) _).mono ?_); intro e w8 hr8; obtain ⟨g8, c8, rfl, _, _, ho8, hb8⟩ := retI_at hr8 (by omega); (first | (have HB1' := cB HB1 (by repeat (first | exact Below.refl _ _ | refine Below.drew ?_ | refine Below.trans ?_ (below_drewN _ _ _) | refine Below.alloc ?_ (by first | exact Nat.le_refl _ | (simp; done) | (simp; omega)) _)) hb8; clear HB1; have HB1 := HB1'; clear HB1') | (have HB1' := cO HB1 (by repeat (first | exact Below.refl _ _ | refine Below.drew ?_ | refine Below.trans ?_ (below_drewN _ _ _) | refine Below.alloc ?_ (by first | exact Nat.le_refl _ | (simp; done) | (simp; omega)) _)) hb8; clear HB1; have HB1 := HB1'; clear HB1') | (have HB1' := cK HB1 (by repeat (first | exact Below.refl _ _ | refine Below.drew ?_ | refine Below.trans ?_ (below_drewN _ _ _) | refine Below.alloc ?_ (by first | exact Nat.le_refl _ | (simp; done) | (simp; omega)) _)) hb8; clear HB1; have HB1 := HB1'; clear HB1') | (have HB1' := cP HB1 (by repeat (first | exact Below.refl _ _ | refine Below.drew ?_ | refine Below.trans ?_ (below_drewN _ _ _) | refine Below.alloc ?_ (by first | exact Nat.le_refl _ | (simp; done) | (simp; omega)) _)) hb8; clear HB1; have HB1 := HB1'; clear HB1')); (first | (have H7' := cB H7 (by repeat (first | exact Below.refl _ _ | refine Below.drew ?_ | refine Below.trans ?_ (below_drewN _ _ _) | refine Below.alloc ?_ (by first | exact Nat.le_refl _ | (simp; done) | (simp; omega)) _)) hb8; clear H7; have H7 := H7'; clear H7') | (have H7' := cO H7 (by repeat (first | exact Below.refl _ _ | refine Below.drew ?_ | refine Below.trans ?_ (below_drewN _ _ _) | refine Below.alloc ?_ (by first | exact Nat.le_refl _ | (simp; done) | (simp; omega)) _)) hb8; clear H7; have H7 := H7'; clear H7') | (have H7' := cK H7 (by repeat (first | exact Below.refl _ _ | refine Below.drew ?_ | refine Below.trans ?_ (below_drewN _ _ _) | refine Below.alloc ?_ (by first | exact Nat.le_refl _ | (simp; done) | (simp; omega)) _)) hb8; clear H7; have H7 := H7'; clear H7') | (have H7' := cP H7 (by repeat (first | exact Below.refl _ _ | refine Below.drew ?_ | refine Below.trans ?_ (below_drewN _ _ _) | refine Below.alloc ?_ (by first | exact Nat.le_refl _ | (simp; done) | (simp; omega)) _)) hb8; clear H7; have H7 := H7'; clear H7')); have H8 := Lib.hid ho8; clear ho8 hb8 hr8; go_wp2_with fail)
        refine hK.out _ _ ?_ (fun hHeld => ?_)
        focus (have hz := HZ.out; exact range_below HR.out (by omega) (HB1.out.trans (Below.mono (by repeat (first | exact Below.refl _ _ | refine Below.drew ?_ | refine Below.trans ?_ (below_drewN _ _ _) | refine Below.alloc ?_ (by first | exact Nat.le_refl _ | (simp; done) | (simp; omega)) _)) HB1.out.size)))
        clear hK K
        try simp only [Act.put, List.setIfInBounds_toArray, List.set_cons_zero, List.set_cons_succ]
        refine wpAnyH_ready (rs := [8]) (by kernel_rfl) (by simp) ?_
        refine (AllReadyH.cons (o := { dst := some 42, op := Op.call { callee := Callee.value (Operand.func 16), args := #[Operand.tmp 37, Operand.tmp 41], argTypes := #[32, 32] }, type := 4, pos := "law.go:97", after := #[{ on := 3, ground := Ground.data }, { on := 7, ground := Ground.data }, { on := 7, ground := Ground.chain }], guard := none }) rfl (fun K hK => ?_) AllReadyH.nil)
        (go_simp; go_must (refine (sameI_any _ _ _ _ _ _ _ _ (Sl.of_own H7.out) (Sl.of_own H8.out) (by rw [allN_length]; omega)).mono ?_); rintro e w9 ⟨rfl, hb9⟩; (first | (have HB1' := cB HB1 (by repeat (first | exact Below.refl _ _ | refine Below.drew ?_ | refine Below.trans ?_ (below_drewN _ _ _) | refine Below.alloc ?_ (by first | exact Nat.le_refl _ | (simp; done) | (simp; omega)) _)) hb9; clear HB1; have HB1 := HB1'; clear HB1') | (have HB1' := cO HB1 (by repeat (first | exact Below.refl _ _ | refine Below.drew ?_ | refine Below.trans ?_ (below_drewN _ _ _) | refine Below.alloc ?_ (by first | exact Nat.le_refl _ | (simp; done) | (simp; omega)) _)) hb9; clear HB1; have HB1 := HB1'; clear HB1') | (have HB1' := cK HB1 (by repeat (first | exact Below.refl _ _ | refine Below.drew ?_ | refine Below.trans ?_ (below_drewN _ _ _) | refine Below.alloc ?_ (by first | exact Nat.le_refl _ | (simp; done) | (simp; omega)) _)) hb9; clear HB1; have HB1 := HB1'; clear HB1') | (have HB1' := cP HB1 (by repeat (first | exact Below.refl _ _ | refine Below.drew ?_ | refine Below.trans ?_ (below_drewN _ _ _) | refine Below.alloc ?_ (by first | exact Nat.le_refl _ | (simp; done) | (simp; omega)) _)) hb9; clear HB1; have HB1 := HB1'; clear HB1')); clear hb9 H7 H8; go_wp2_with fail)
        refine hK.out _ _ ?_ (fun hHeld => ?_)
        focus (have hz := HZ.out; exact range_below HR.out (by omega) (HB1.out.trans (Below.mono (by repeat (first | exact Below.refl _ _ | refine Below.drew ?_ | refine Below.trans ?_ (below_drewN _ _ _) | refine Below.alloc ?_ (by first | exact Nat.le_refl _ | (simp; done) | (simp; omega)) _)) HB1.out.size)))
        clear hK K
        try simp only [Act.put, List.setIfInBounds_toArray, List.set_cons_zero, List.set_cons_succ]
        refine wpAnyH_take (i := 9) (oi := { dst := some 6, op := Op.assign (Operand.tmp 42), type := 4, pos := "law.go:97", after := #[{ on := 8, ground := Ground.data }, { on := 8, ground := Ground.chain }, { on := 0, ground := Ground.phase }, { on := 1, ground := Ground.phase }, { on := 2, ground := Ground.phase }, { on := 3, ground := Ground.phase }, { on := 4, ground := Ground.phase }, { on := 5, ground := Ground.phase }, { on := 6, ground := Ground.phase }, { on := 7, ground := Ground.phase }, { on := 8, ground := Ground.phase }], guard := none }) (v := ?_) rfl (by kernel_rfl) (by kernel_rfl) (by kernel_rfl) (fun _ _ _ h => h) (Or.inl ⟨by rfl, ?_⟩) hHeld ?_; rotate_left; focus (intro w hSw; (try dsimp only at hSw); go_simp; try with_reducible rfl)
        simp only [Act.put, List.setIfInBounds_toArray, List.set_cons_zero, List.set_cons_succ]
        refine wpAnyH_done (by kernel_rfl) ?_ _
        all_goals
          go_wp2_with fail
          go_ret
          exact ⟨rfl, HB.out.trans (HB1.out.mono HB.out.size)⟩
end Go.Proofs.Ytndmpphkgcjnkaa
