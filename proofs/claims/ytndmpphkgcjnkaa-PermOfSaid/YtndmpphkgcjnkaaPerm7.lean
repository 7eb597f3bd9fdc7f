/-
  Chapter 16: the laws PermNext, PermChoice, walked.
-/
import Derived.Test.YtndmpphkgcjnkaaPerm6
namespace Go.Proofs.Ytndmpphkgcjnkaa
open Go.RowKit Go.Sort
set_option linter.unusedVariables false

theorem no_between {n : Int} (h : n ≤ 65537) {i : Nat} (h1 : n ≤ i) (h2 : i < nextP n) : pr i = false := by
  obtain ⟨a, b, c, d⟩ := nextP_spec n h
  have hl := low_le n
  rcases Nat.lt_or_ge i 2 with h3 | h3
  · exact pr_small h3
  · refine d i ?_ h2
    rcases Int.le_total n 2 with h4 | h4
    · rw [hl.2.2.2 h4]; exact h3
    · have := hl.2.2.1 h4; omega

set_option maxHeartbeats 1000000 in
theorem next_walk (n : Nat) (a b : Nat) (hn : n ≤ 65535) (ha : a ≤ 255) (hb : b ≤ 255) (w : World) :
    Calls Try.prog 4 #[.int .u16 (n : Int), .int .u8 (a : Int), .int .u8 (b : Int)] w fun e w' => e = .returned (.bool true) ∧ Below w.heap.size w w' := by
  have HB := Lib.hid (Below.refl w.heap.size w)
  obtain ⟨s1, s2, s3, s4⟩ := nextP_spec (n : Int) (by omega)
  have hl := low_le (n : Int)
  obtain ⟨P, hP⟩ : ∃ P, P = nextP (n : Int) := ⟨_, rfl⟩
  have HNB : Hid (∀ i : Nat, n ≤ i → i < P → pr i = false) := Lib.hid (fun i h1 h2 => no_between (n := (n : Int)) (by omega) (by omega) (by rw [← hP]; exact h2))
  rw [← hP] at s1 s2 s3
  have HP1 : Hid (pr ((P : Int)).toNat = true) := Lib.hid (by simpa using s1)
  have HP := Lib.hid hP
  have hnP : n ≤ P := by omega
  obtain ⟨M, hM⟩ : ∃ M, M = (a + 2) * (b + 2) := ⟨_, rfl⟩
  have hMi : ((a : Int) + 2) * ((b : Int) + 2) = (M : Int) := by rw [hM, Int.natCast_mul]; simp
  have hMb : M ≤ 66049 := by
    rw [hM]
    have := Nat.mul_le_mul (show a + 2 ≤ 257 by omega) (show b + 2 ≤ 257 by omega)
    omega
  have HM : Hid (pr ((M : Int)).toNat = false) := Lib.hid (by rw [Int.toNat_natCast, hM]; exact pr_mul (by omega) (by omega))
  have d1 : decide (P < n) = false := by simp; omega
  have d2 : decide ((65537 : Int) < (P : Int)) = false := by simp; omega
  clear s1 s2 s4 hl hP hM
  go_enter Try.func4, Try.ntmps4
  go_wp2_with (first
    | (go_at_call 9; go_must (refine (awake_any _).mono ?_); rintro e w6 ⟨rfl, hb6⟩; (first | (have HB' := cB HB (by repeat (first | exact Below.refl _ _ | refine Below.drew ?_ | refine Below.trans ?_ (below_drewN _ _ _) | refine Below.alloc ?_ (by first | exact Nat.le_refl _ | (simp; done) | (simp; omega)) _)) hb6; clear HB; have HB := HB'; clear HB') | (have HB' := cO HB (by repeat (first | exact Below.refl _ _ | refine Below.drew ?_ | refine Below.trans ?_ (below_drewN _ _ _) | refine Below.alloc ?_ (by first | exact Nat.le_refl _ | (simp; done) | (simp; omega)) _)) hb6; clear HB; have HB := HB'; clear HB') | (have HB' := cK HB (by repeat (first | exact Below.refl _ _ | refine Below.drew ?_ | refine Below.trans ?_ (below_drewN _ _ _) | refine Below.alloc ?_ (by first | exact Nat.le_refl _ | (simp; done) | (simp; omega)) _)) hb6; clear HB; have HB := HB'; clear HB') | (have HB' := cP HB (by repeat (first | exact Below.refl _ _ | refine Below.drew ?_ | refine Below.trans ?_ (below_drewN _ _ _) | refine Below.alloc ?_ (by first | exact Nat.le_refl _ | (simp; done) | (simp; omega)) _)) hb6; clear HB; have HB := HB'; clear HB')); clear hb6)
    | (go_at_call 12; go_must (refine (next_any (n : Int) (by omega) (by omega) _).mono ?_); rintro e w' ⟨he, rfl⟩; rw [← HP.out] at he; subst he)
    | (go_at_call 10; go_must (refine (prime_eq (P : Int) true HP1.out (by omega) (by omega) _).mono ?_); rintro e w' ⟨rfl, rfl⟩))
  go_loop [9] (fun i => ∃ k : Nat, n ≤ k ∧ k ≤ P ∧ i = .int .i64 k) (fun i => P - (intOf i).toNat)
  case atStart => exact ⟨n, Nat.le_refl _, hnP, rfl⟩
  case round =>
    obtain ⟨k, hk1, hk2, rfl⟩ := hrel
    by_cases hlt : k < P
    · have HPK : Hid (pr ((k : Int)).toNat = false) := Lib.hid (by rw [Int.toNat_natCast]; exact HNB.out k hk1 hlt)
      go_wp2_with (go_at_call 10; go_must (refine (prime_eq (k : Int) false HPK.out (by omega) (by omega) _).mono ?_); rintro e w' ⟨rfl, rfl⟩)
      go_round
      case rel => exact ⟨k + 1, by omega, by omega, by go_num⟩
      case measure => simp [intOf]; omega
    · go_wp2_with (go_at_call 10; go_must (refine (prime_eq (M : Int) false HM.out (by omega) (by omega) _).mono ?_); rintro e w' ⟨rfl, rfl⟩)
      go_ret
      exact ⟨rfl, HB.out⟩

theorem choice_next {a b S k : Nat} (hS : 0 < S) (hb : b < S) : choiceN a b S (k + 1) = (choiceN a b S k + b) % S := by
  unfold choiceN
  rw [Nat.mod_add_mod]
  have hr := Nat.mod_lt k hS
  have e : (k + 1) % S = if k % S + 1 = S then 0 else k % S + 1 := by
    rw [← Nat.mod_add_mod]
    split
    · rename_i h; rw [h, Nat.mod_self]
    · exact Nat.mod_eq_of_lt (by omega)
  rw [e]
  split
  · rename_i h
    rw [Nat.zero_mul, Nat.add_zero]
    have : a + k % S * b + b = a + S * b := by
      have h2 : k % S * b + b = S * b := by rw [← h, Nat.add_mul, Nat.one_mul]; rw [h]
      omega
    rw [this, Nat.add_mul_mod_self_left]
  · rw [Nat.add_mul, Nat.one_mul]
    congr 1
    omega
theorem choice_round {a b S k : Nat} : choiceN a b S (k + S) = choiceN a b S k := by
  unfold choiceN
  rw [Nat.add_mod_right]
theorem choice_zero {a b S : Nat} (ha : a < S) : choiceN a b S 0 = a := by
  unfold choiceN
  rw [Nat.zero_mod, Nat.zero_mul, Nat.add_zero, Nat.mod_eq_of_lt ha]

set_option maxHeartbeats 1000000 in
theorem choice_walk (n o s i : Nat) (hn : n ≤ 65535) (ho : o ≤ 65535) (hs : s ≤ 65535) (hi : i ≤ 4294967295) (w : World) :
    Calls Try.prog 7 #[.int .u16 (n : Int), .int .u16 (o : Int), .int .u16 (s : Int), .int .u32 (i : Int)] w fun e w' => e = .returned (.bool true) ∧ Below w.heap.size w w' := by
  have HB := Lib.hid (Below.refl w.heap.size w)
  obtain ⟨m, hm⟩ : ∃ m : Nat, (n : Int) % 65530 = m := ⟨n % 65530, by omega⟩
  have hmb : m < 65530 := by omega
  obtain ⟨s1, s2, s3, s4⟩ := nextP_spec (m : Int) (by omega)
  have hl := low_le (m : Int)
  obtain ⟨P, hP⟩ : ∃ P, P = nextP (m : Int) := ⟨_, rfl⟩
  rw [← hP] at s1 s2 s3
  have hP2 : 2 ≤ P := by omega
  have HP := Lib.hid hP
  clear s1 s2 s4 hl hP
  obtain ⟨a, haN⟩ : ∃ a, a = o % P := ⟨_, rfl⟩
  have ha : (o : Int) % (P : Int) = (a : Int) := by rw [haN, Int.natCast_emod]
  have hal : a < P := by rw [haN]; exact Nat.mod_lt _ (by omega)
  obtain ⟨d, hdN⟩ : ∃ d, d = s % (P - 1) := ⟨_, rfl⟩
  have hd : (s : Int) % ((P : Int) - 1) = (d : Int) := by rw [hdN, Int.natCast_emod]; congr 1; omega
  have hdl : d < P - 1 := by rw [hdN]; exact Nat.mod_lt _ (by omega)
  obtain ⟨k, hkN⟩ : ∃ k, k = i % 2147400000 := ⟨_, rfl⟩
  have hk : (i : Int) % 2147400000 = (k : Int) := by rw [hkN]; omega
  have hkl : k < 2147400000 := by omega
  obtain ⟨x, hx⟩ : ∃ x, x = choiceN a (1 + d) P k := ⟨_, rfl⟩
  obtain ⟨y, hy⟩ : ∃ y, y = choiceN a (1 + d) P (k + 1) := ⟨_, rfl⟩
  have hxl : x < P := by rw [hx]; exact Nat.mod_lt _ (by omega)
  have hyl : y < P := by rw [hy]; exact Nat.mod_lt _ (by omega)
  have hxy : ((x : Int) + (1 + (d : Int)) - (y : Int)) % (P : Int) = 0 := by
    have h := choice_next (a := a) (b := 1 + d) (S := P) (k := k) (by omega) (by omega)
    rw [← hx, ← hy] at h
    rcases Nat.lt_or_ge (x + (1 + d)) P with hc | hc
    · rw [Nat.mod_eq_of_lt hc] at h
      rw [show (x : Int) + (1 + (d : Int)) - (y : Int) = 0 by omega]; simp
    · rw [Nat.mod_eq_sub_mod hc, Nat.mod_eq_of_lt (by omega)] at h
      rw [show (x : Int) + (1 + (d : Int)) - (y : Int) = (P : Int) by omega]; simp
  have hxy0 : (0 : Int) ≤ (x : Int) + (1 + (d : Int)) - (y : Int) := by
    have h := choice_next (a := a) (b := 1 + d) (S := P) (k := k) (by omega) (by omega)
    rw [← hx, ← hy] at h
    rcases Nat.lt_or_ge (x + (1 + d)) P with hc | hc
    · rw [Nat.mod_eq_of_lt hc] at h; omega
    · omega
  have C1 : Hid (((choiceN (a : Int).toNat (1 + (d : Int)).toNat (P : Int).toNat (k : Int).toNat : Nat) : Int) = (x : Int)) := Lib.hid (by rw [hx]; congr 2 <;> omega)
  have C2 : Hid (((choiceN (a : Int).toNat (1 + (d : Int)).toNat (P : Int).toNat ((k : Int) + 1).toNat : Nat) : Int) = (y : Int)) := Lib.hid (by rw [hy]; congr 2 <;> omega)
  have C3 : Hid (((choiceN (a : Int).toNat (1 + (d : Int)).toNat (P : Int).toNat ((k : Int) + (P : Int)).toNat : Nat) : Int) = (x : Int)) := Lib.hid (by
    rw [hx, ← choice_round (k := k)]; congr 2 <;> omega)
  have C4 : Hid (((choiceN (a : Int).toNat (1 + (d : Int)).toNat (P : Int).toNat (0 : Int).toNat : Nat) : Int) = (a : Int)) := Lib.hid (by
    rw [show (0 : Int).toNat = 0 from rfl, Int.toNat_natCast, Int.toNat_natCast, choice_zero hal])
  clear haN hdN hkN hx hy
  have hpz : (0 : Int) < (P : Int) - 1 := by omega
  go_enter Try.func7, Try.ntmps7
  go_wp2_with (first
    | (go_at_call 9; go_must (refine (awake_any _).mono ?_); rintro e w6 ⟨rfl, hb6⟩; (first | (have HB' := cB HB (by repeat (first | exact Below.refl _ _ | refine Below.drew ?_ | refine Below.trans ?_ (below_drewN _ _ _) | refine Below.alloc ?_ (by first | exact Nat.le_refl _ | (simp; done) | (simp; omega)) _)) hb6; clear HB; have HB := HB'; clear HB') | (have HB' := cO HB (by repeat (first | exact Below.refl _ _ | refine Below.drew ?_ | refine Below.trans ?_ (below_drewN _ _ _) | refine Below.alloc ?_ (by first | exact Nat.le_refl _ | (simp; done) | (simp; omega)) _)) hb6; clear HB; have HB := HB'; clear HB') | (have HB' := cK HB (by repeat (first | exact Below.refl _ _ | refine Below.drew ?_ | refine Below.trans ?_ (below_drewN _ _ _) | refine Below.alloc ?_ (by first | exact Nat.le_refl _ | (simp; done) | (simp; omega)) _)) hb6; clear HB; have HB := HB'; clear HB') | (have HB' := cP HB (by repeat (first | exact Below.refl _ _ | refine Below.drew ?_ | refine Below.trans ?_ (below_drewN _ _ _) | refine Below.alloc ?_ (by first | exact Nat.le_refl _ | (simp; done) | (simp; omega)) _)) hb6; clear HB; have HB := HB'; clear HB')); clear hb6)
    | (go_at_call 13; go_must (refine (refNext_any (m : Int) (by omega) (by omega) _).mono ?_); rintro e w' ⟨he, rfl⟩; rw [← HP.out] at he; subst he)
    | (go_at_call 19; (with_reducible show Calls _ _ #[_, _, _, .int .i64 ((k : Nat) : Int)] _ _); go_must (refine (choice_int a (1 + d) P k x _ C1.out (by omega) (by omega) (by omega) (by omega)).mono ?_); rintro e w' ⟨rfl, rfl⟩)
    | (go_at_call 19; (with_reducible show Calls _ _ #[_, _, _, .int .i64 (((k : Nat) : Int) + 1)] _ _); go_must (refine (choice_int a (1 + d) P (k + 1) y _ C2.out (by omega) (by omega) (by omega) (by omega)).mono ?_); rintro e w' ⟨rfl, rfl⟩)
    | (go_at_call 19; (with_reducible show Calls _ _ #[_, _, _, .int .i64 (((k : Nat) : Int) + ((P : Nat) : Int))] _ _); go_must (refine (choice_int a (1 + d) P (k + P) x _ C3.out (by omega) (by omega) (by omega) (by omega)).mono ?_); rintro e w' ⟨rfl, rfl⟩)
    | (go_at_call 19; (with_reducible show Calls _ _ #[_, _, _, .int .i64 0] _ _); go_must (refine (choice_int a (1 + d) P 0 a _ C4.out (by omega) (by omega) (by omega) (by omega)).mono ?_); rintro e w' ⟨rfl, rfl⟩))
  all_goals
    go_ret
    exact ⟨by first | rfl | simp, HB.out⟩
end Go.Proofs.Ytndmpphkgcjnkaa
