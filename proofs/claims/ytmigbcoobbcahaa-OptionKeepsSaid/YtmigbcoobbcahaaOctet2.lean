/-
  The contracts of the other functions on numbers as bytes, and of the document's.
-/
import Derived.Test.YtmigbcoobbcahaaGet
namespace Go.Proofs.Ytmigbcoobbcahaa
open Go.RowKit Go.Sort
set_option linter.unusedVariables false

theorem get_any (ad : Option Addr) (n c : Nat) (l : List UInt8) (big : Bool) (w : World) (hs : Bs w ad n c l) :
    Calls Try.prog 36 #[.slice ad n c, .bool big] w (RetN (.int .u64 (getN l big)) w) := by
  cases big
  · exact get_small ad n c l w hs
  · exact get_big ad n c l w hs

theorem clone_any (ad : Option Addr) (n c : Nat) (l : List UInt8) (w : World) (hs : Bs w ad n c l) (hsz : n ≤ 140737488351232) :
    Calls Try.prog 35 #[.slice ad n c] w (RetB 5 l w) := by
  have hn := hs.len
  have HS := Lib.hid hs
  have hnil := fun a n c => Lib.run_eql_slice_nil (P := Try.prog) w 25 5 a n c 0 0 Try.underlying25
  cases ad with
  | none =>
    have hnc := hs.2.2.2.1 rfl
    obtain ⟨rfl, rfl⟩ := hnc
    have hl : l = [] := List.length_eq_zero_iff.1 hn.symm
    subst hl
    clear hs hn HS
    go_enter Try.func35, Try.ntmps35
    go_wp2
    go_ret
    exact ⟨none, 0, rfl, World.ownsRow_nil _ _ _ _, Below.refl _ _⟩
  | some x =>
    have HN := Lib.hid hn
    clear hs hn
    go_enter Try.func35, Try.ntmps35
    go_wp2_with ((with_reducible show wpList _ _ _ (⟨some 7, _, _, _, _, _⟩ :: _) _ _); go_must (refine wpL_append elB rfl (.tmp 5) (.tmp 6) rfl w.heap.size rfl (World.ownsRow_lit (size := 1) (e := 5) w #[] 0 (Nat.le_refl _) (by simp [maxLen]) rfl) rfl (HS.out.below ((Below.refl _ _).alloc (Nat.le_refl _) _)) (BV_one _) (by unfold maxLen; omega) (by omega) (by simp) ?_))
    intro ad' c' w3 hown3 hgrow3 hat3 hnil3
    try simp only [Nat.zero_add, List.nil_append] at hown3
    have hb3 : Below w.heap.size w w3 := ((Below.refl w.heap.size w).alloc (Nat.le_refl _) _).grown hgrow3 (by simp) (fun k e => by simp [Value.ownBlock] at e; omega)
    have HO := Lib.hid hown3
    have HB := Lib.hid hb3
    clear hown3 hgrow3 hat3 hnil3 hb3
    go_wp2_with fail
    go_ret
    have hn := HN.out
    subst hn
    exact ⟨ad', c', rfl, HO.out, HB.out⟩


theorem pad_any (n : Int) (w : World) (h0 : -9223372036854775808 ≤ n) (h1 : n ≤ 9223372036854775807) :
    Calls Try.prog 25 #[.int .i64 n] w fun e w' => e = .returned (.int .i64 (padI n)) ∧ w = w' := by
  by_cases hn : n ≤ 0
  · go_enter Try.func25, Try.ntmps25
    go_wp2
    go_ret
    exact ⟨by unfold padI; rw [if_pos hn]; rfl, rfl⟩
  · have hn' : 0 < n := by omega
    go_enter Try.func25, Try.ntmps25
    go_wp2
    go_ret
    exact ⟨by unfold padI; rw [if_neg (by omega), show (4 - n % 4) % 4 = -(n % 4) % 4 by omega]; rfl, rfl⟩

theorem padded_any (ad : Option Addr) (n c : Nat) (l : List UInt8) (w : World) (hs : Bs w ad n c l) (hsz : n ≤ 140737488351232) :
    Calls Try.prog 23 #[.slice ad n c] w (RetB 5 (padL l) w) := by
  have hn := hs.len
  subst hn
  have HS := Lib.hid hs
  have hp3 := padN_le l.length
  clear hs
  go_enter Try.func23, Try.ntmps23
  go_wp2_with (first
    | (go_at_call 35; refine (clone_any _ _ _ l _ HS.out hsz).mono ?_; rintro e w1 ⟨ad1, c1, rfl, ho1, hb1⟩; have HO1 := Lib.hid ho1; have HB1 := Lib.hid hb1; clear ho1 hb1)
    | (go_at_call 25; refine (pad_any _ _ (by omega) (by omega)).mono ?_; rintro e w' ⟨rfl, rfl⟩; rw [padI_nat]))
  go_loopw [9, 3] (fun i v wr => ∃ (k : Nat) (ad' : Option Addr) (c' : Nat), k ≤ padN l.length ∧ i = .int .i64 k ∧ v = .slice ad' (l.length + k) c' ∧ wr.ownsRow w.heap.size 5 1 (.slice ad' (l.length + k) c') (l.length + k) (BV (padTo l k)) ∧ Below w.heap.size w wr) (fun i _ _ => padN l.length - (intOf i).toNat)
  case atStart => exact ⟨0, ad1, c1, Nat.zero_le _, rfl, rfl, by rw [padTo_zero]; exact HO1.out, HB1.out⟩
  case round =>
    obtain ⟨k, ad2, c2, hk, rfl, rfl, ho, hb⟩ := hrel
    have HO := Lib.hid ho
    have HB := Lib.hid hb
    clear ho hb HO1 HB1
    by_cases hlt : k < padN l.length
    · go_wp2_with ((with_reducible show wpList _ _ _ (⟨some 13, _, _, _, _, _⟩ :: _) _ _); go_must (refine wpL_append elB rfl (.tmp 11) (.tmp 12) rfl w.heap.size rfl (HO.out.alloc _) rfl (Bs.one _ _ 0) (BV_one [0]) (by unfold maxLen; omega) (by omega) (by have := HB.out.size; simp; omega) ?_))
      intro ad3 c3 w3 hown3 hgrow3 hat3 hnil3
      have HO3 := Lib.hid hown3
      have HB3 : Hid (Below w.heap.size w w3) := Lib.hid ((HB.out.alloc HB.out.size _).grown hgrow3 (by have := HB.out.size; simp; omega) (ownBlock_ge HO.out))
      clear hown3 hgrow3 hat3 hnil3
      go_wp2_with fail
      go_roundw
      case rel => exact ⟨k + 1, ad3, c3, by omega, by go_num, rfl, by rw [padTo_succ, BV_append]; exact HO3.out, HB3.out⟩
      case measure => simp [intOf]; omega
    · obtain rfl : k = padN l.length := by omega
      go_wp2_with fail
      go_ret
      refine ⟨ad2, c2, by rw [padL_length]; rfl, ?_, HB.out⟩
      rw [padL_length]
      exact HO.out

theorem refPut_any (n : Nat) (size : Int) (big : Bool) (w : World) (hn : (n : Int) ≤ 18446744073709551615) :
    Calls Try.prog 24 #[.int .u64 n, .int .i64 size, .bool big] w (RetB 5 (putL n size big) w) := by
  obtain ⟨L, hL⟩ : ∃ L, L = sizeOf8 size := ⟨_, rfl⟩
  have hL8 : L ≤ 8 := by rw [hL]; unfold sizeOf8; omega
  have hcase : (L = 8 ∧ 8 ≤ size) ∨ (L < 8 ∧ size < 8 ∧ (size = L ∨ (L = 0 ∧ size < 0))) := by rw [hL]; unfold sizeOf8; omega
  have HL := Lib.hid hL
  have HC := Lib.hid hcase
  clear hL hcase
  go_enter Try.func24, Try.ntmps24
  go_wp2_with fail
  go_loopw [0, 7, 8, 9] (fun m v i _ wr => ∃ (k : Nat) (ad' : Option Addr) (c' : Nat), k ≤ L ∧ i = .int .i64 k ∧ m = .int .u64 ((n / 256 ^ k : Nat) : Int) ∧ v = .slice ad' k c' ∧ wr.ownsRow w.heap.size 5 1 (.slice ad' k c') k (BV (if big then (putLE n k).reverse else putLE n k)) ∧ Below w.heap.size w wr) (fun _ _ i _ _ => L - (intOf i).toNat)
  case atStart => exact ⟨0, none, 0, Nat.zero_le _, rfl, by simp, rfl, by cases big <;> exact World.ownsRow_nil _ _ _ _, Below.refl _ _⟩
  case round =>
    obtain ⟨k, ad2, c2, hk, rfl, rfl, rfl, ho, hb⟩ := hrel
    have HO := Lib.hid ho
    have HB := Lib.hid hb
    clear ho hb
    by_cases hlt : k < L
    · have h1 : (k : Int) < size := by rcases HC.out with ⟨a, b⟩ | ⟨a, b, c⟩ <;> omega
      have h2 : (k : Int) < 8 := by omega
      have hv := byteAt_mod n k
      have hq2 := quo_succ n k
      have hnn : ((n / 256 ^ k : Nat) : Int) ≤ 18446744073709551615 := by
        have := Nat.div_le_self n (256 ^ k)
        omega
      generalize n / 256 ^ k = q at *
      have hb255 := (byteAt n k).toNat_lt
      have HQ2 := Lib.hid hq2
      clear hq2
      cases big
      · go_wp2_with ((with_reducible show wpList _ _ _ (⟨some 32, _, _, _, _, _⟩ :: _) _ _); go_must (refine wpL_append elB rfl (.tmp 29) (.tmp 31) rfl w.heap.size rfl (HO.out.alloc _) rfl (Bs.one _ _ (byteAt n k)) (BV_one [byteAt n k]) (by unfold maxLen; omega) (by omega) (by have := HB.out.size; simp; omega) ?_))
        intro ad3 c3 w3 hown3 hgrow3 hat3 hnil3
        have HO3 := Lib.hid hown3
        have HB3 : Hid (Below w.heap.size w w3) := Lib.hid ((HB.out.alloc HB.out.size _).grown hgrow3 (by have := HB.out.size; simp; omega) (ownBlock_ge HO.out))
        clear hown3 hgrow3 hat3 hnil3
        go_wp2_with fail
        go_roundw
        case rel => exact ⟨k + 1, ad3, c3, by omega, by go_num, by rw [← HQ2.out], rfl, by have := HO3.out; simpa [putLE_succ, BV_append] using this, HB3.out⟩
        case measure => simp [intOf]; omega
      · go_wp2_with ((with_reducible show wpList _ _ _ (⟨some 28, _, _, _, _, _⟩ :: _) _ _); go_must (refine wpL_append elB rfl (.tmp 26) (.tmp 27) rfl w.heap.size rfl (World.ownsRow_lit (size := 1) (e := 5) wr #[.int .u8 ((byteAt n k).toNat : Int)] 1 HB.out.size (by simp [maxLen]) rfl) rfl (Sl.below (Sl.of_own HO.out) ((Below.refl _ _).alloc (Nat.le_refl _) _)) (BV_one _) (by unfold maxLen; omega) (by omega) (by have := HB.out.size; simp; omega) ?_))
        intro ad3 c3 w3 hown3 hgrow3 hat3 hnil3
        have HO3 := Lib.hid hown3
        have HB3 : Hid (Below w.heap.size w w3) := Lib.hid ((HB.out.alloc HB.out.size _).grown hgrow3 (by have := HB.out.size; simp; omega) (fun j e => by have := HB.out.size; simp [Value.ownBlock] at e; omega))
        clear hown3 hgrow3 hat3 hnil3
        go_wp2_with fail
        go_roundw
        case rel => exact ⟨k + 1, ad3, c3, by omega, by go_num, by rw [← HQ2.out], by rw [Nat.add_comm k 1], by have h := HO3.out; rw [Nat.add_comm 1 k] at h; simpa [putLE_succ, BV_append, BV] using h, HB3.out⟩
        case measure => simp [intOf]; omega
    · obtain rfl : k = L := by omega
      have HL2 := Lib.hid (putL_to n size big k HL.out)
      have h1 : ¬ ((k : Int) < size ∧ (k : Int) < 8) := by rcases HC.out with ⟨a, b⟩ | ⟨a, b, c⟩ <;> omega
      by_cases h2 : (k : Int) < size
      · have h3 : ¬ (k : Int) < 8 := fun h => h1 ⟨h2, h⟩
        clear h1
        go_wp2_with fail
        go_ret
        refine ⟨ad2, c2, ?_, ?_, HB.out⟩
        · rw [putL_length, ← HL.out]; rfl
        · rw [putL_length, ← HL.out, ← HL2.out]; exact HO.out
      · clear h1
        go_wp2_with fail
        go_ret
        refine ⟨ad2, c2, ?_, ?_, HB.out⟩
        · rw [putL_length, ← HL.out]; rfl
        · rw [putL_length, ← HL.out, ← HL2.out]; exact HO.out
end Go.Proofs.Ytmigbcoobbcahaa
