/-
  Plain laws of chapter 16: primes, the next one, the choices.
-/
import Derived.Test.YtndmpphkgcjnkaaBase
namespace Go.Proofs.Ytndmpphkgcjnkaa
set_option linter.unusedVariables false

def noDiv (n : Nat) : Nat → Nat → Bool
  | 0, _ => true
  | f + 1, d => if n < d * d then true else if n % d = 0 then false else noDiv n f (d + 1)
/-- a prime? -/
def pr (n : Nat) : Bool := decide (2 ≤ n) && noDiv n n 2

theorem noDiv_iff (n : Nat) : ∀ (f d : Nat), n < (d + f) * (d + f) → (noDiv n f d = true ↔ ∀ e, d ≤ e → e * e ≤ n → n % e ≠ 0)
  | 0, d, h => by
    simp only [noDiv, true_iff]
    intro e h1 h2
    have : d * d ≤ e * e := Nat.mul_le_mul h1 h1
    simp at h
    omega
  | f + 1, d, h => by
    simp only [noDiv]
    split
    · rename_i hlt
      simp only [true_iff]
      intro e h1 h2
      have : d * d ≤ e * e := Nat.mul_le_mul h1 h1
      omega
    · rename_i hge
      split
      · rename_i h0
        constructor
        · intro h; cases h
        · intro hh; exact absurd h0 (hh d (Nat.le_refl _) (by omega))
      · rename_i h0
        rw [noDiv_iff n f (d + 1) (by rw [show d + 1 + f = d + (f + 1) by omega]; exact h)]
        constructor
        · intro hh e h1 h2
          by_cases e1 : e = d
          · rw [e1]; exact h0
          · exact hh e (by omega) h2
        · intro hh e h1 h2
          exact hh e (by omega) h2

theorem pr_iff (n : Nat) : pr n = true ↔ 2 ≤ n ∧ ∀ e, 2 ≤ e → e * e ≤ n → n % e ≠ 0 := by
  unfold pr
  rw [Bool.and_eq_true, decide_eq_true_iff, noDiv_iff n n 2 (by
    have : (2 + n) * (2 + n) = 4 + 4 * n + n * n := by rw [Nat.add_mul, Nat.mul_add, Nat.mul_add]; omega
    omega)]
theorem pr_false {n e : Nat} (h1 : 2 ≤ e) (h2 : e * e ≤ n) (h3 : n % e = 0) : pr n = false := by
  cases h : pr n
  · rfl
  · exact absurd h3 (((pr_iff n).1 h).2 e h1 h2)
theorem pr_small {n : Nat} (h : n < 2) : pr n = false := by
  unfold pr
  rw [show decide (2 ≤ n) = false by simpa using h]
  rfl
theorem pr_dvd {p d : Nat} (h : pr p = true) (hd : d ∣ p) : d = 1 ∨ d = p := by
  obtain ⟨h2, hp⟩ := (pr_iff p).1 h
  obtain ⟨c, hc⟩ := hd
  have hd0 : d ≠ 0 := by rintro rfl; simp at hc; omega
  have hc0 : c ≠ 0 := by rintro rfl; simp at hc; omega
  by_cases d1 : d = 1
  · exact .inl d1
  · by_cases c1 : c = 1
    · right; rw [hc, c1, Nat.mul_one]
    · exfalso
      rcases Nat.le_total d c with hle | hle
      · exact hp d (by omega) (by rw [hc]; exact Nat.mul_le_mul_left d hle) (by rw [hc]; exact Nat.mul_mod_right d c)
      · exact hp c (by omega) (by rw [hc]; exact Nat.mul_le_mul_right c hle) (by rw [hc]; exact Nat.mul_mod_left d c)
theorem pr_mul {a b : Nat} (ha : 2 ≤ a) (hb : 2 ≤ b) : pr (a * b) = false := by
  rcases Nat.le_total a b with hle | hle
  · exact pr_false (e := a) ha (Nat.mul_le_mul_left a hle) (Nat.mul_mod_right a b)
  · exact pr_false (e := b) hb (Nat.mul_le_mul_right b hle) (Nat.mul_mod_left a b)
theorem pr65537 : pr 65537 = true := by decide +kernel

/-- the first prime from p on, among f numbers; 0: none -/
def nxt : Nat → Nat → Nat
  | 0, _ => 0
  | f + 1, p => if pr p then p else nxt f (p + 1)
def low (n : Int) : Nat := (max n 2).toNat
/-- the next prime up to 65537 -/
def nextP (n : Int) : Nat := nxt (65538 - low n) (low n)
theorem nxt_spec : ∀ (f p : Nat), 2 ≤ p → (nxt f p = 0 ∧ ∀ q, p ≤ q → q < p + f → pr q = false) ∨ (pr (nxt f p) = true ∧ p ≤ nxt f p ∧ nxt f p < p + f ∧ ∀ q, p ≤ q → q < nxt f p → pr q = false)
  | 0, p, _ => .inl ⟨rfl, fun q h1 h2 => by omega⟩
  | f + 1, p, hp => by
    simp only [nxt]
    cases h : pr p
    · simp only [Bool.false_eq_true, if_false]
      rcases nxt_spec f (p + 1) (by omega) with ⟨h0, h1⟩ | ⟨h0, h1, h2, h3⟩
      · refine .inl ⟨h0, fun q a b => ?_⟩
        by_cases e : q = p
        · rw [e]; exact h
        · exact h1 q (by omega) (by omega)
      · refine .inr ⟨h0, by omega, by omega, fun q a b => ?_⟩
        by_cases e : q = p
        · rw [e]; exact h
        · exact h3 q (by omega) b
    · simp only [if_true]
      exact .inr ⟨h, Nat.le_refl _, by omega, fun q a b => by omega⟩
theorem low_le (n : Int) : 2 ≤ low n ∧ n ≤ low n ∧ (2 ≤ n → (low n : Int) = n) ∧ (n ≤ 2 → low n = 2) := by unfold low; omega
theorem nextP_spec (n : Int) (h : n ≤ 65537) : pr (nextP n) = true ∧ low n ≤ nextP n ∧ nextP n ≤ 65537 ∧ ∀ q, low n ≤ q → q < nextP n → pr q = false := by
  have hl := low_le n
  have h65 : low n ≤ 65537 := by rcases Int.le_total n 2 with h2 | h2 <;> omega
  unfold nextP
  rcases nxt_spec (65538 - low n) (low n) hl.1 with ⟨h0, h1⟩ | ⟨h0, h1, h2, h3⟩
  · have := h1 65537 h65 (by omega)
    rw [pr65537] at this
    cases this
  · exact ⟨h0, h1, by omega, h3⟩

/-! ### the choices -/
def choiceN (off skip size i : Nat) : Nat := (off + i % size * skip) % size
theorem coprime_lt {p s : Nat} (hp : pr p = true) (h0 : 0 < s) (h1 : s < p) : Nat.Coprime p s := by
  rcases pr_dvd hp (Nat.gcd_dvd_left p s) with h | h
  · exact h
  · have := Nat.le_of_dvd h0 (Nat.gcd_dvd_right p s)
    omega
theorem choice_inj {off skip size i j : Nat} (hp : pr size = true) (h0 : 0 < skip) (h1 : skip < size) (hi : i < j) (hj : j < size) : choiceN off skip size i ≠ choiceN off skip size j := by
  intro h
  unfold choiceN at h
  rw [Nat.mod_eq_of_lt (show i < size by omega), Nat.mod_eq_of_lt hj] at h
  have h2 : (off + j * skip - (off + i * skip)) % size = 0 := Nat.sub_mod_eq_zero_of_mod_eq h.symm
  have h3 : off + j * skip - (off + i * skip) = (j - i) * skip := by rw [Nat.sub_mul]; omega
  rw [h3] at h2
  have h4 : size ∣ (j - i) := (coprime_lt hp h0 h1).dvd_of_dvd_mul_right (Nat.dvd_of_mod_eq_zero h2)
  have := Nat.le_of_dvd (by omega) h4
  omega
end Go.Proofs.Ytndmpphkgcjnkaa
