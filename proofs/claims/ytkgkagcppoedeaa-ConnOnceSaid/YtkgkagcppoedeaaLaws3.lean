/-
  The walk of the statement that flags one behind the other may come in one go or in two.
-/
import Derived.Test.YtkgkagcppoedeaaWalks
import Derived.Test.YtkgkagcppoedeaaBase
namespace Go.Proofs.Ytkgkagcppoedeaa
open Go.RowKit Go.Sort
set_option linter.unusedVariables false

theorem elInt : Elem Try.prog 25 3 1 8 (.int .i64 0) := ⟨Try.underlying25, by kernel_rfl, rfl, by omega⟩

theorem Ints.of_sl {w : World} {a : Option Addr} {n c : Nat} {zs : List Int} (h : Sl w a n c 1 (zs.map (Value.int .i64))) : Ints w a zs := fun i hi => by
  obtain ⟨b, off, ha, hb, hc⟩ := h.at (j := i) (by simpa using hi)
  refine ⟨b, off, ha, hb, ?_⟩
  rw [hc i (by simpa using hi)]
  simp [List.getD, hi]

/-- too long: only the awake test is asked -/
theorem runs_long (s : Int) (a1 : Option Addr) (n1 c1 : Nat) (a2 : Option Addr) (n2 c2 : Nat) (w : World) (h : 1000 < n1 ∨ 1000 < n2) :
    Calls Try.prog 5 #[.int .i64 s, .slice a1 n1 c1, .slice a2 n2 c2] w fun e w' => e = .returned (.bool true) ∧ Below w.heap.size w w' := by
  by_cases g1 : 1000 < n1
  · go_enter Try.func5, Try.ntmps5
    go_wp2_with fail
    refine (awake_any _).mono ?_
    rintro e w1 ⟨rfl, hb1⟩
    go_wp2_with fail
    refine (awake_any _).mono ?_
    rintro e w2 ⟨rfl, hb2⟩
    go_wp2_with fail
    go_ret
    exact ⟨rfl, hb1.trans (hb2.mono hb1.size)⟩
  · have g2 : 1000 < n2 := by omega
    go_enter Try.func5, Try.ntmps5
    go_wp2_with fail
    refine (awake_any _).mono ?_
    rintro e w1 ⟨rfl, hb1⟩
    go_wp2_with fail
    refine (awake_any _).mono ?_
    rintro e w2 ⟨rfl, hb2⟩
    go_wp2_with fail
    go_ret
    exact ⟨rfl, hb1.trans (hb2.mono hb1.size)⟩

theorem runs_short (s : Int) (a1 : Option Addr) (n1 c1 : Nat) (z1 : List Int) (a2 : Option Addr) (n2 c2 : Nat) (z2 : List Int) (w : World) (h1 : n1 ≤ 1000) (h2 : n2 ≤ 1000)
    (hs1 : Sl w a1 n1 c1 1 (z1.map (Value.int .i64))) (hs2 : Sl w a2 n2 c2 1 (z2.map (Value.int .i64))) :
    Calls Try.prog 5 #[.int .i64 s, .slice a1 n1 c1, .slice a2 n2 c2] w fun e w' => e = .returned (.bool true) ∧ Below w.heap.size w w' := by
  obtain rfl : n1 = z1.length := by have := hs1.len; simp at this; omega
  obtain rfl : n2 = z2.length := by have := hs2.len; simp at this; omega
  have H1 := Lib.hid hs1
  have H2 := Lib.hid hs2
  clear hs1 hs2
  go_enter Try.func5, Try.ntmps5
  go_wp2_with fail
  refine (awake_any _).mono ?_
  rintro e w1 ⟨rfl, hb1⟩
  have HB := Lib.hid hb1
  clear hb1
  go_wp2_with fail
  go_loop [7, 8] (fun t i => ∃ k : Nat, k ≤ z1.length ∧ i = .int .i64 k ∧ t = .int .i64 (runS s (z1.take k))) (fun _ i => z1.length - (intOf i).toNat)
  case atStart => exact ⟨0, Nat.zero_le _, rfl, rfl⟩
  case round =>
    obtain ⟨k, hk, rfl, rfl⟩ := hrel
    by_cases hlt : k < z1.length
    · obtain ⟨b, off, rfl, _, hc⟩ := Ints.of_sl (H1.out.below HB.out) k hlt
      have H : Hid _ := Lib.hid (runS_take s z1 k hlt)
      go_wp2_with (go_at_call 14; refine (nextR_any _ _ _).mono ?_; rintro e w' ⟨rfl, rfl⟩)
      go_round
      case rel => exact ⟨k + 1, by omega, by go_num, by rw [H.out, next_eq]; simp [List.getD, hlt]⟩
      case measure => simp [intOf]; omega
    · obtain rfl : k = z1.length := by omega
      go_wp2_with fail
      refine (run_any _ _ _ z1 _ (by omega) (Ints.of_sl (H1.out.below HB.out))).mono ?_
      rintro e w' ⟨rfl, rfl⟩
      go_wp2_with (at_builtin; go_must (refine wpL_append elInt rfl (.tmp 40) (.tmp 41) rfl w.heap.size rfl (World.ownsRow_lit (size := 1) (e := 3) w1 #[] 0 HB.out.size (by simp [maxLen]) rfl) rfl (((H1.out.below HB.out).below ((Below.refl _ _).alloc (Nat.le_refl _) _))) (ints_one _ _) (by unfold maxLen; omega) (by omega) (by have := HB.out.size; simp; omega) ?_))
      intro ad' c' w3 hown3 hgrow3 hat3 hnil3
      try simp only [Nat.zero_add, List.nil_append] at hown3
      have hb3 : Below w.heap.size w w3 := (HB.out.trans ((Below.refl w.heap.size w1).alloc HB.out.size _)).grown hgrow3 (by have := HB.out.size; simp; omega) (fun k e => by have := HB.out.size; simp [Value.ownBlock] at e; omega)
      have HB3 := Lib.hid hb3
      have HO3 := Lib.hid hown3
      clear hb3 hown3 hgrow3 hat3 hnil3
      go_wp2_with (at_builtin; go_must (refine wpL_append elInt rfl (.tmp 42) (.tmp 43) rfl w.heap.size rfl HO3.out rfl (H2.out.below HB3.out) (ints_one _ _) (by unfold maxLen; omega) (by omega) HB3.out.size ?_))
      intro ad4 c4 w4 hown4 hgrow4 hat4 hnil4
      have hb4 : Below w.heap.size w w4 := HB3.out.grown hgrow4 HB3.out.size (ownBlock_ge HO3.out)
      have HB4 := Lib.hid hb4
      have HO4 := Lib.hid (Ints.of_sl (zs := z1 ++ z2) (by rw [List.map_append]; exact Sl.of_own hown4))
      clear hb4 hown4 hgrow4 hat4 hnil4
      go_wp2_with fail
      refine (run_any _ _ _ z2 _ (by omega) (Ints.of_sl (H2.out.below HB4.out))).mono ?_
      rintro e w' ⟨rfl, rfl⟩
      go_wp2_with fail
      rw [show z1.length + z2.length = (z1 ++ z2).length from List.length_append.symm]
      refine (run_any _ _ _ (z1 ++ z2) _ (by simp; omega) HO4.out).mono ?_
      rintro e w' ⟨rfl, rfl⟩
      rw [runS_append]
      go_wp2_with fail
      go_ret
      exact ⟨by simp, HB4.out⟩

end Go.Proofs.Ytkgkagcppoedeaa
