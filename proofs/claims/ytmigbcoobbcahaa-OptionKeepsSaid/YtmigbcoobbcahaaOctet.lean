/-
  The contracts of the functions on numbers as bytes.
-/
import Derived.Test.YtmigbcoobbcahaaBytes
import Derived.Test.YtmigbcoobbcahaaProg
import Derived.RegionTactic
import Derived.BigRegion
namespace Go.Proofs.Ytmigbcoobbcahaa
open Go.RowKit Go.Sort
set_option linter.unusedVariables false

theorem elB : Elem Try.prog 25 5 1 1 (.int .u8 0) := ⟨Try.underlying25, by kernel_rfl, rfl, by omega⟩

theorem reverse_any (base : Nat) (ad : Option Addr) (n c : Nat) (l : List UInt8) (w : World) (hown : w.ownsRow base 5 1 (.slice ad n c) n (BV l)) (hn : n = l.length) (hsz : n ≤ 140737488351232) :
    Calls Try.prog 34 #[.slice ad n c] w fun e w' => e = .returned (.tuple #[]) ∧ w'.ownsRow base 5 1 (.slice ad n c) n (BV l.reverse) ∧ w.grownBy w' (Value.ownBlock (.slice ad n c)) := by
  have HN := Lib.hid hn
  clear hn
  have HO := Lib.hid hown
  clear hown
  go_enter Try.func34, Try.ntmps34
  go_wp2
  go_loopw [2, 3] (fun i j wr => ∃ k : Nat, k ≤ n ∧ i = .int .i64 k ∧ j = .int .i64 ((n : Int) - 1 - k) ∧ wr.ownsRow base 5 1 (.slice ad n c) n (BV (revTo l k)) ∧ w.grownBy wr (Value.ownBlock (.slice ad n c))) (fun i _ _ => n - (intOf i).toNat)
  case atStart => exact ⟨0, Nat.zero_le _, rfl, by simp, by rw [revTo_zero]; exact HO.out, World.grownBy.refl _ _⟩
  case round =>
    obtain ⟨k, hk, rfl, rfl, hown, hg⟩ := hrel
    by_cases hlt : 2 * k + 1 < n
    · rcases own_form hown with ⟨_, h0, _⟩ | ⟨g, rfl, hbg, hgs⟩
      · omega
      · have c1 := own_cell hown (j := k) (by omega)
        have c2 := own_cell hown (j := n - 1 - k) (by omega)
        have f1 := hown.frozenAt k
        have f2 := hown.frozenAt (n - 1 - k)
        have HOW := Lib.hid hown
        have HG := Lib.hid hg
        clear hown hg
        have b1 : (0 : Int) ≤ (n : Int) - 1 - k := by omega
        have b2 : (n : Int) - 1 - k < n := by omega
        have b3 : (k : Int) < n := by omega
        go_wp2_with fail
        go_region
        obtain ⟨w1, hw1⟩ : ∃ w1, w1 = ((wr.setCell ⟨g, k, none⟩ (.int .u8 (at8 (revTo l k) (n - 1 - k)).toNat)).setCell ⟨g, n - 1 - k, none⟩ (.int .u8 (at8 (revTo l k) k).toNat)).drew := ⟨_, rfl⟩
        have hR : w1.ownsRow base 5 1 (.slice (some ⟨g, 0, none⟩) n c) n (BV (revTo l (k + 1))) ∧ w.grownBy w1 (some g) := by
          subst hw1
          have hl := HN.out
          obtain ⟨o1, g1⟩ := own_store HOW.out k (at8 (revTo l k) (n - 1 - k))
          obtain ⟨o2, g2⟩ := own_store o1 (n - 1 - k) (at8 (revTo l k) k)
          have := revTo_succ l k (by omega)
          rw [← hl] at this
          rw [this] at o2
          exact ⟨World.ownsRow.drew o2, HG.out.trans (g1.trans (g2.trans (grown_drew _ _)))⟩
        have HR := Lib.hid hR
        rw [← hw1]
        clear hw1 hR c1 c2 f1 f2 HOW HG
        go_wp2_with fail
        go_roundw
        case rel => exact ⟨k + 1, by omega, by go_num, by go_num, HR.out.1, HR.out.2⟩
        case measure => simp [intOf]; omega
    · have HOW := Lib.hid hown
      have HG := Lib.hid hg
      clear hown hg
      go_wp2_with fail
      go_end0
      refine ⟨rfl, ?_, HG.out⟩
      have := HOW.out
      rwa [revTo_end l k (by have := HN.out; omega)] at this

theorem put_any (n : Nat) (size : Int) (big : Bool) (w : World) (hn : (n : Int) ≤ 18446744073709551615) :
    Calls Try.prog 22 #[.int .u64 n, .int .i64 size, .bool big] w (RetB 5 (putL n size big) w) := by
  obtain ⟨L, hL⟩ : ∃ L, L = sizeOf8 size := ⟨_, rfl⟩
  have hL8 : L ≤ 8 := by rw [hL]; unfold sizeOf8; omega
  have HL := Lib.hid hL
  have HC : Hid (size < 0 ∧ (L : Int) ≤ 0 ∨ (0 ≤ size ∧ size ≤ 8 ∧ size = L) ∨ (8 < size ∧ 8 ≤ L)) := Lib.hid (by rw [hL]; unfold sizeOf8; omega)
  clear hL
  rcases HC.out with ⟨c1, c2⟩ | ⟨c1, c2, rfl⟩ | ⟨c1, c2⟩
  all_goals
    clear HC
    go_enter Try.func22, Try.ntmps22
    go_wp2_with (at_make; go_must (refine wpL_make elB rfl (.tmp 11) (.tmp 11) rfl w.heap.size L rfl rfl (by omega) (by omega) (by omega) (by unfold maxLen; omega) (Nat.le_refl _) ?_))
    intro w1 hown1 hg1
    have HO1 : Hid (w1.ownsRow w.heap.size 5 1 (.slice (some ⟨w.heap.size, 0, none⟩) L L) L (BV (putTo n L 0))) := Lib.hid (by rw [putTo_zero, ← toList_madeCells_one]; exact hown1)
    have HB1 := Lib.hid ((Below.refl w.heap.size w).grown hg1 (Nat.le_refl _) (fun k e => by cases e))
    clear hown1 hg1
    go_wp2_with fail
    go_loopw [15, 8] (fun i _ wr => ∃ k : Nat, k ≤ L ∧ i = .int .i64 k ∧ wr.ownsRow w.heap.size 5 1 (.slice (some ⟨w.heap.size, 0, none⟩) L L) L (BV (putTo n L k)) ∧ Below w.heap.size w wr) (fun i _ _ => L - (intOf i).toNat)
    case atStart => exact ⟨0, Nat.zero_le _, rfl, HO1.out, HB1.out⟩
    case round =>
      obtain ⟨k, hk, rfl, hown, hb⟩ := hrel
      by_cases hlt : k < L
      · have cc := own_cell hown hlt
        have ff := hown.frozenAt k
        obtain ⟨o2, g2⟩ := own_store hown k (byteAt n k)
        rw [putTo_succ n L k hlt] at o2
        have HO2 := Lib.hid o2
        have HB2 := Lib.hid (hb.grown g2 hb.size (fun j e => by cases e; exact Nat.le_refl _))
        have hv := byteAt_int n k
        clear o2 g2 hown hb HO1 HB1
        first
          | (exfalso; omega)
          | (go_wp2_with fail
             go_roundw
             case rel => exact ⟨k + 1, by omega, by go_num, HO2.out, HB2.out⟩
             case measure => simp [intOf]; omega)
      · obtain rfl : k = L := by omega
        rw [putTo_all] at hown
        have HO2 := Lib.hid hown
        have HB2 := Lib.hid hb
        clear hown hb HO1 HB1
        cases big
        · go_wp2_with fail
          go_ret
          refine ⟨some ⟨w.heap.size, 0, none⟩, k, ?_, ?_, HB2.out⟩
          · rw [putL_length, ← HL.out]; rfl
          · rw [putL_length, ← HL.out]
            unfold putL
            rw [← HL.out]
            exact HO2.out
        · go_wp2_with (go_at_call 34; refine (reverse_any w.heap.size _ _ _ _ _ HO2.out (putLE_length _ _).symm (by omega)).mono ?_; rintro e w3 ⟨rfl, ho3, hg3⟩)
          have HO3 := Lib.hid ho3
          have HB3 := Lib.hid (HB2.out.grown hg3 HB2.out.size (fun j e => by cases e; exact Nat.le_refl _))
          clear ho3 hg3
          go_wp2_with fail
          go_ret
          refine ⟨some ⟨w.heap.size, 0, none⟩, k, ?_, ?_, HB3.out⟩
          · rw [putL_length, ← HL.out]; rfl
          · rw [putL_length, ← HL.out]
            unfold putL
            rw [← HL.out]
            exact HO3.out
end Go.Proofs.Ytmigbcoobbcahaa
