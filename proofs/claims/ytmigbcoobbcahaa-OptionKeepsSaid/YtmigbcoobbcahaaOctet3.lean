/-
  The contracts of the document's functions on bytes: Get, Turn, Padded, Same.
-/
import Derived.Test.YtmigbcoobbcahaaOctet2
namespace Go.Proofs.Ytmigbcoobbcahaa
open Go.RowKit Go.Sort
set_option linter.unusedVariables false

theorem stepN_int (a : Nat) (b : UInt8) : 256 * (a : Int) + ((b.toNat : Nat) : Int) = ((stepN a b : Nat) : Int) := by unfold stepN; omega
theorem at8_take (l : List UInt8) (k j : Nat) (h : j < k) : at8 (l.take k) j = at8 l j := by
  simp [at8, List.getD, h]

set_option maxRecDepth 100000 in
set_option maxHeartbeats 1000000 in
theorem refGet_any (ad : Option Addr) (n c : Nat) (l : List UInt8) (big : Bool) (w : World) (hs : Bs w ad n c l) :
    Calls Try.prog 27 #[.slice ad n c, .bool big] w fun e w' => e = .returned (.int .u64 (getN l big)) ∧ w = w' := by
  obtain ⟨m, hm⟩ : ∃ m, m = min n 8 := ⟨_, rfl⟩
  have hn := hs.len
  have hc := hs.le
  have hlen : m = (l.take 8).length := by rw [List.length_take]; omega
  have HS := Lib.hid hs
  have HM := Lib.hid hm
  have HL := Lib.hid hlen
  have HN := Lib.hid hn
  have hcase : (8 < (n : Int) ∧ m = 8) ∨ ((n : Int) ≤ 8 ∧ m = n) := by omega
  have hmn : m ≤ n := by omega
  have hm8 : m ≤ 8 := by omega
  have HG : Hid (getN l big = if big then numBE (l.take 8) else numFrom (l.take 8) m) := Lib.hid (by rw [hlen, numFrom_all]; rfl)
  clear hs hm hlen hn
  rcases hcase with ⟨h1, rfl⟩ | ⟨h1, rfl⟩
  all_goals
    cases big
    · go_enter Try.func27, Try.ntmps27
      go_wp2
      go_loop [6, 7] (fun v i => ∃ k : Nat, k ≤ (l.take 8).length ∧ i = .int .i64 k ∧ v = .int .u64 ((numFrom (l.take 8) k : Nat) : Int)) (fun _ i => 8 - (intOf i).toNat)
      case atStart => exact ⟨0, Nat.zero_le _, rfl, rfl⟩
      case round =>
        obtain ⟨k, hk, rfl, rfl⟩ := hrel
        rw [← HL.out] at hk
        by_cases hlt : k < (l.take 8).length
        · rw [← HL.out] at hlt
          have hst := numFrom_succ (l.take 8) k (by rw [← HL.out]; exact hlt)
          have hb := numFrom_lt7 (l.take 8) k (by omega)
          obtain ⟨j, hj⟩ : ∃ j, j = (l.take 8).length - 1 - k := ⟨_, rfl⟩
          rw [← HL.out] at hj
          have hj8 : j < 8 := by omega
          rw [← HL.out, ← hj, at8_take _ _ _ hj8] at hst
          obtain ⟨b, off, rfl, _, hcc⟩ := HS.out.at (j := 0) (by have := HN.out; omega)
          have hcx := hcc j (by have := HN.out; omega)
          obtain ⟨by8, hby⟩ : ∃ by8, by8 = at8 l j := ⟨_, rfl⟩
          rw [← hby] at hcx hst
          have HST := Lib.hid hst
          clear hst hby
          rw [hj] at hcx
          try simp only [Nat.reduceSub] at hcx
          clear hj hj8
          generalize numFrom (l.take 8) k = a at *
          have hb8 := by8.toNat_lt
          clear hcc
          go_wp2_with fail
          go_round
          case rel => exact ⟨k + 1, by have := HL.out; omega, by go_num, by rw [HST.out, ← stepN_int] <;> go_num⟩
          case measure => simp [intOf]; omega
        · have e := HG.out
          rw [if_neg (by simp)] at e
          obtain hk2 : k = (l.take 8).length := by have := HL.out; omega
          rw [hk2, ← HL.out, ← e]
          clear e hk2
          go_wp2_with fail
          go_ret
          exact ⟨rfl, rfl⟩
    · go_enter Try.func27, Try.ntmps27
      go_wp2
      go_loop [6, 7] (fun v i => ∃ k : Nat, k ≤ (l.take 8).length ∧ i = .int .i64 k ∧ v = .int .u64 ((numBE ((l.take 8).take k) : Nat) : Int)) (fun _ i => 8 - (intOf i).toNat)
      case atStart => exact ⟨0, Nat.zero_le _, rfl, rfl⟩
      case round =>
        obtain ⟨k, hk, rfl, rfl⟩ := hrel
        rw [← HL.out] at hk
        by_cases hlt : k < (l.take 8).length
        · have hst := numBE_take_succ (l.take 8) k hlt
          rw [← HL.out] at hlt
          have hb := numBE_lt7 ((l.take 8).take k) (by rw [List.length_take]; omega)
          have hk8 : k < 8 := by omega
          rw [at8_take _ _ _ hk8] at hst
          obtain ⟨b, off, rfl, _, hcc⟩ := HS.out.at (j := 0) (by have := HN.out; omega)
          have hcx := hcc k (by have := HN.out; omega)
          obtain ⟨by8, hby⟩ : ∃ by8, by8 = at8 l k := ⟨_, rfl⟩
          rw [← hby] at hcx hst
          have HST := Lib.hid hst
          clear hst hby
          generalize numBE ((l.take 8).take k) = a at *
          have hb8 := by8.toNat_lt
          clear hcc
          go_wp2_with fail
          go_round
          case rel => exact ⟨k + 1, by have := HL.out; omega, by go_num, by rw [HST.out, ← stepN_int] <;> go_num⟩
          case measure => simp [intOf]; omega
        · have e := HG.out
          simp only [if_true] at e
          rw [List.take_of_length_le (show (l.take 8).length ≤ k by omega), ← e]
          clear e
          obtain hk2 : k = (l.take 8).length := by have := HL.out; omega
          rw [← HL.out] at hk2
          go_wp2_with fail
          go_ret
          exact ⟨rfl, rfl⟩
end Go.Proofs.Ytmigbcoobbcahaa
