/-
  The contracts of the functions that the statements on flows' states call: each hands back what its plain twin says and leaves the world alone, or makes new blocks alone.
-/
import Derived.Test.YtkgkagcppoedeaaPlain
import Derived.Test.YtkgkagcppoedeaaProg
import Derived.Test.YtkgkagcppoedeaaBase
import Derived.WalkKit
import Derived.Deep.QuietTactic
import Derived.BigQuiet
import Derived.Lib.Hide
import Derived.Handy
namespace Go.Proofs.Ytkgkagcppoedeaa
open Go.RowKit
set_option linter.unusedVariables false

theorem has_any (f o : Int) (w : World) :
    Calls Try.prog 18 #[.int .i64 f, .int .i64 o] w fun e w' => e = .returned (.bool (hasB f o)) ∧ w = w' := by
  go_enter Try.func18, Try.ntmps18
  go_wp2
  go_ret
  exact ⟨by unfold hasB; rfl, rfl⟩

theorem opens_any (f : Int) (w : World) :
    Calls Try.prog 19 #[.int .i64 f] w fun e w' => e = .returned (.bool (opensB f)) ∧ w = w' := by
  go_enter Try.func19, Try.ntmps19
  cases h2 : hasB f 2 <;> cases h16 : hasB f 16 <;> (
  go_wp2_with (go_at_call 18; refine (has_any _ _ _).mono ?_; rintro e w' ⟨rfl, rfl⟩)
  go_ret
  exact ⟨by simp [opensB, h2, h16], rfl⟩)

theorem bit_any (f o : Int) (h : 1 ≤ o) (w : World) :
    Calls Try.prog 20 #[.int .i64 f, .int .i64 o] w fun e w' => e = .returned (.bool (bitB f o)) ∧ w = w' := by
  rcases tmod64 f with ⟨h1, h2, h3⟩ | ⟨h1, h2, h3⟩
  all_goals
    have H3 : Hid _ := Lib.hid h3
    clear h3
    go_enter Try.func20, Try.ntmps20
    go_wp2
    go_ret
    exact ⟨by rw [bitB_walk f o _ h H3.out]; rfl, rfl⟩

theorem opensR_any (f : Int) (w : World) :
    Calls Try.prog 21 #[.int .i64 f] w fun e w' => e = .returned (.bool (opensR f)) ∧ w = w' := by
  go_enter Try.func21, Try.ntmps21
  cases h2 : bitB f 2 <;> cases h16 : bitB f 16 <;> (
  go_wp2_with (go_at_call 20; refine (bit_any _ _ (by omega) _).mono ?_; rintro e w' ⟨rfl, rfl⟩)
  go_ret
  exact ⟨by simp [opensR, h2, h16], rfl⟩)

theorem next_any (s f : Int) (w : World) :
    Calls Try.prog 13 #[.int .i64 s, .int .i64 f] w fun e w' => e = .returned (.int .i64 (nextS s f)) ∧ w = w' := by
  go_enter Try.func13, Try.ntmps13
  go_wp2_with (first | (go_at_call 18; refine (has_any _ _ _).mono ?_; rintro e w' ⟨rfl, rfl⟩) | (go_at_call 19; refine (opens_any _ _).mono ?_; rintro e w' ⟨rfl, rfl⟩))
  all_goals (go_ret; refine ⟨?_, rfl⟩; unfold nextS; simp_all; try omega)

theorem begin_any (p f : Int) (w : World) :
    Calls Try.prog 11 #[.int .i64 p, .int .i64 f] w fun e w' => e = .returned (.int .i64 (beginS p f)) ∧ w = w' := by
  go_enter Try.func11, Try.ntmps11
  go_wp2_with (first | (go_at_call 18; refine (has_any _ _ _).mono ?_; rintro e w' ⟨rfl, rfl⟩) | (go_at_call 19; refine (opens_any _ _).mono ?_; rintro e w' ⟨rfl, rfl⟩))
  all_goals (go_ret; refine ⟨?_, rfl⟩; unfold beginS; simp_all)

theorem nextR_any (s f : Int) (w : World) :
    Calls Try.prog 14 #[.int .i64 s, .int .i64 f] w fun e w' => e = .returned (.int .i64 (nextR s f)) ∧ w = w' := by
  go_enter Try.func14, Try.ntmps14
  go_wp2_with (first | (go_at_call 20; refine (bit_any _ _ (by omega) _).mono ?_; rintro e w' ⟨rfl, rfl⟩) | (go_at_call 21; refine (opensR_any _ _).mono ?_; rintro e w' ⟨rfl, rfl⟩))
  all_goals (go_ret; refine ⟨?_, rfl⟩; unfold nextR; simp_all; try omega)

theorem beginR_any (p f : Int) (w : World) :
    Calls Try.prog 12 #[.int .i64 p, .int .i64 f] w fun e w' => e = .returned (.int .i64 (beginR p f)) ∧ w = w' := by
  go_enter Try.func12, Try.ntmps12
  go_wp2_with (first | (go_at_call 20; refine (bit_any _ _ (by omega) _).mono ?_; rintro e w' ⟨rfl, rfl⟩) | (go_at_call 21; refine (opensR_any _ _).mono ?_; rintro e w' ⟨rfl, rfl⟩))
  all_goals (go_ret; refine ⟨?_, rfl⟩; unfold beginR; simp_all)

theorem tick_any (n : Int) (w : World) :
    Calls Try.prog 22 #[.int .i64 n] w fun e w' => e = .returned (.int .i64 (tickS n)) ∧ w = w' := by
  by_cases h0 : n < 0
  · go_enter Try.func22, Try.ntmps22
    go_wp2
    go_ret
    exact ⟨by simp [tickS, h0], rfl⟩
  · by_cases h1 : 1099511627776 < n
    all_goals
      go_enter Try.func22, Try.ntmps22
      go_wp2
      go_ret
      exact ⟨by unfold tickS; (first | rw [if_neg (by omega), if_pos (by omega)] | rw [if_neg (by omega), if_neg (by omega)]); rfl, rfl⟩

theorem tickR_any (n : Int) (w : World) :
    Calls Try.prog 23 #[.int .i64 n] w fun e w' => e = .returned (.int .i64 (tickS n)) ∧ w = w' := by
  by_cases h0 : n < 0
  · go_enter Try.func23, Try.ntmps23
    go_wp2
    go_ret
    exact ⟨by simp [tickS, h0], rfl⟩
  · by_cases h1 : 1099511627776 < n
    all_goals
      go_enter Try.func23, Try.ntmps23
      go_wp2
      go_ret
      exact ⟨by unfold tickS; (first | rw [if_neg (by omega), if_pos (by omega)] | rw [if_neg (by omega), if_neg (by omega)]); rfl, rfl⟩

/-- A slice of numbers: what its cells hold. -/
def Ints (w : World) (a : Option Addr) (zs : List Int) : Prop := ∀ i, i < zs.length → ∃ b off, a = some ⟨b, off, none⟩ ∧ b < w.heap.size ∧ w.cell? ⟨b, off + i, none⟩ = some (.int .i64 (zs.getD i 0))

theorem Ints.below {w w' : World} {a : Option Addr} {zs : List Int} (h : Ints w a zs) (hb : Below w.heap.size w w') : Ints w' a zs := fun i hi => by
  obtain ⟨b, off, ha, hlt, hc⟩ := h i hi
  exact ⟨b, off, ha, Nat.lt_of_lt_of_le hlt hb.size, (hb.cell (p := ⟨b, off + i, none⟩) hlt).trans hc⟩

theorem run_any (s : Int) (a : Option Addr) (c : Nat) (zs : List Int) (w : World) (hm : zs.length ≤ 140737488351232) (hz : Ints w a zs) :
    Calls Try.prog 15 #[.int .i64 s, .slice a zs.length c] w fun e w' => e = .returned (.int .i64 (runS s zs)) ∧ w = w' := by
  have HZ := Lib.hid hz
  clear hz
  go_enter Try.func15, Try.ntmps15
  go_wp2
  go_loop [0, 9, 6] (fun t i _ => ∃ k : Nat, k ≤ zs.length ∧ i = .int .i64 k ∧ t = .int .i64 (runS s (zs.take k))) (fun _ i _ => zs.length - (intOf i).toNat)
  case atStart => exact ⟨0, Nat.zero_le _, rfl, rfl⟩
  case round =>
    obtain ⟨k, hk, rfl, rfl⟩ := hrel
    by_cases hlt : k < zs.length
    · obtain ⟨b, off, rfl, _, hc⟩ := HZ.out k hlt
      have H : Hid _ := Lib.hid (runS_take s zs k hlt)
      go_wp2_with (go_at_call 13; refine (next_any _ _ _).mono ?_; rintro e w' ⟨rfl, rfl⟩)
      go_round
      case rel => exact ⟨k + 1, by omega, by go_num, by rw [H.out]; simp [List.getD, hlt]⟩
      case measure => simp [intOf]; omega
    · go_wp2
      go_ret
      exact ⟨by rw [List.take_of_length_le (by omega)]; rfl, rfl⟩

def staleS (s seen now : Int) (idle : Int) : Bool := if s < 1 ∨ 5 < s then true else decide (idle < tickS now - tickS seen)

theorem stale_any (s seen now : Int) (i0 i1 i2 i3 i4 i5 : Int) (w : World) :
    Calls Try.prog 16 #[.int .i64 s, .int .i64 seen, .int .i64 now, .agg #[.int .i64 i0, .int .i64 i1, .int .i64 i2, .int .i64 i3, .int .i64 i4, .int .i64 i5]] w fun e w' =>
      e = .returned (.bool (staleS s seen now ([i0, i1, i2, i3, i4, i5].getD s.toNat 0))) ∧ Below w.heap.size w w' := by
  by_cases h : s < 1 ∨ 5 < s
  · rcases h with h | h
    · go_enter Try.func16, Try.ntmps16
      go_wp2
      go_ret
      exact ⟨by simp [staleS, h], ((Below.refl _ _).alloc (Nat.le_refl _) _)⟩
    · have h' : ¬ s < 1 := by omega
      go_enter Try.func16, Try.ntmps16
      go_wp2
      go_ret
      exact ⟨by simp [staleS, h], ((Below.refl _ _).alloc (Nat.le_refl _) _)⟩
  · have t1 := tick_range seen
    have t2 := tick_range now
    obtain ⟨j, rfl, h0, h5⟩ : ∃ j : Nat, s = j ∧ 1 ≤ j ∧ j ≤ 5 := ⟨s.toNat, by omega, by omega, by omega⟩
    rcases (show j = 1 ∨ j = 2 ∨ j = 3 ∨ j = 4 ∨ j = 5 by omega) with rfl | rfl | rfl | rfl | rfl
    all_goals
      clear h h0 h5
      go_enter Try.func16, Try.ntmps16
      go_wp2_with fail
      go_quiet ((go_at_call 22; refine Calls.quiet_of_same ((tick_any _ _).mono fun e w' ⟨h1, h2⟩ => ⟨h1, h2.symm⟩)))
      go_wp2
      go_ret
      exact ⟨by simp [staleS], ((Below.refl _ _).alloc (Nat.le_refl _) _).trans (below_drewN _ _ _)⟩

theorem staleR_any (s seen now : Int) (i0 i1 i2 i3 i4 i5 : Int) (w : World) :
    Calls Try.prog 17 #[.int .i64 s, .int .i64 seen, .int .i64 now, .agg #[.int .i64 i0, .int .i64 i1, .int .i64 i2, .int .i64 i3, .int .i64 i4, .int .i64 i5]] w fun e w' =>
      e = .returned (.bool (staleS s seen now ([i0, i1, i2, i3, i4, i5].getD s.toNat 0))) ∧ Below w.heap.size w w' := by
  by_cases h : s < 1 ∨ 5 < s
  · rcases h with h | h
    · go_enter Try.func17, Try.ntmps17
      go_wp2
      go_ret
      exact ⟨by simp [staleS, h], ((Below.refl _ _).alloc (Nat.le_refl _) _)⟩
    · have h' : ¬ s < 1 := by omega
      go_enter Try.func17, Try.ntmps17
      go_wp2
      go_ret
      exact ⟨by simp [staleS, h], ((Below.refl _ _).alloc (Nat.le_refl _) _)⟩
  · have t1 := tick_range seen
    have t2 := tick_range now
    obtain ⟨j, rfl, h0, h5⟩ : ∃ j : Nat, s = j ∧ 1 ≤ j ∧ j ≤ 5 := ⟨s.toNat, by omega, by omega, by omega⟩
    rcases (show j = 1 ∨ j = 2 ∨ j = 3 ∨ j = 4 ∨ j = 5 by omega) with rfl | rfl | rfl | rfl | rfl
    all_goals
      clear h h0 h5
      go_enter Try.func17, Try.ntmps17
      go_wp2_with fail
      go_quiet ((go_at_call 23; refine Calls.quiet_of_same ((tickR_any _ _).mono fun e w' ⟨h1, h2⟩ => ⟨h1, h2.symm⟩)))
      go_wp2
      go_ret
      exact ⟨by simp [staleS], ((Below.refl _ _).alloc (Nat.le_refl _) _).trans (below_drewN _ _ _)⟩

theorem awake_any (w : World) : Calls Try.prog 10 #[] w fun e w' => e = .returned (.bool true) ∧ Below w.heap.size w w' := by
  have b1 : beginS 6 2 = 1 := by rw [begin_eq]; unfold beginR opensR bitB; decide
  have b2 : nextS 1 18 = 1 := by rw [next_eq]; unfold nextR opensR bitB; decide
  have b3 : nextS 1 16 = 2 := by rw [next_eq]; unfold nextR opensR bitB; decide
  have b4 : nextS 2 1 = 3 := by rw [next_eq]; unfold nextR opensR bitB; decide
  have b5 : nextS 3 16 = 3 := by rw [next_eq]; unfold nextR opensR bitB; decide
  have b6 : beginS 17 0 = 5 := by rw [begin_eq]; unfold beginR; decide
  have b7 : beginS 1 0 = 0 := by rw [begin_eq]; unfold beginR; decide
  have b8 : nextS 3 4 = 4 := by rw [next_eq]; unfold nextR bitB; decide
  have b9 : runS 1 [16, 1, 16, 4] = 4 := by unfold runS; simp only [List.foldl, b3, b4, b5, b8]
  go_enter Try.func10, Try.ntmps10
  go_wp2_with (first | (go_at_call 11; refine (begin_any _ _ _).mono ?_; rintro e w' ⟨rfl, rfl⟩; simp only [b1]) | (go_at_call 13; refine (next_any _ _ _).mono ?_; rintro e w' ⟨rfl, rfl⟩; simp only [b2, b3, b4]))
  refine (run_any 1 _ 4 [16, 1, 16, 4] _ (by simp) ?_).mono ?_
  · intro i hi
    refine ⟨w.heap.size, 0, rfl, by simp, ?_⟩
    rw [World.cell?_alloc_at _ _ _ _ rfl]
    have : i = 0 ∨ i = 1 ∨ i = 2 ∨ i = 3 := by simp at hi; omega
    rcases this with rfl | rfl | rfl | rfl <;> rfl
  rintro e w' ⟨rfl, rfl⟩
  simp only [b9]
  go_wp2_with (first | (go_at_call 11; refine (begin_any _ _ _).mono ?_; rintro e w' ⟨rfl, rfl⟩; simp only [b6, b7]) | (go_at_call 13; refine (next_any _ _ _).mono ?_; rintro e w' ⟨rfl, rfl⟩; simp only [b5]))
  refine (stale_any _ _ _ _ _ _ _ _ _ _).mono ?_
  rintro e w1 ⟨rfl, hb1⟩
  have s1 : staleS 2 1 7 5 = true := by decide
  have s2 : staleS 2 1 6 5 = false := by decide
  simp only [s1, List.getD, Int.reduceToNat, List.getElem?_cons_succ, List.getElem?_cons_zero, Option.getD_some]
  obtain ⟨hc, hf⟩ := bcell hb1
  go_wp2_with fail
  refine (stale_any _ _ _ _ _ _ _ _ _ _).mono ?_
  rintro e w2 ⟨rfl, hb2⟩
  simp only [s2, List.getD, Int.reduceToNat, List.getElem?_cons_succ, List.getElem?_cons_zero, Option.getD_some]
  go_wp2_with fail
  go_ret
  refine ⟨rfl, ?_⟩
  refine Below.trans ?_ ((hb1.mono ?_).trans (hb2.mono ?_))
  · go_grown
  · simp; omega
  · have := hb1.size; simp at this; omega

end Go.Proofs.Ytkgkagcppoedeaa
