/-
  The walk of the statement on what is stale later.
-/
import Derived.Test.YtkgkagcppoedeaaWalks
import Derived.Test.YtkgkagcppoedeaaBase
import Derived.Test.YtkgkagcppoedeaaLaws2
namespace Go.Proofs.Ytkgkagcppoedeaa
open Go.RowKit Go.Sort
set_option linter.unusedVariables false

theorem stale_later (s seen now i now' i' : Int) (h : staleS s seen now i = true) (h1 : now ≤ now') (h2 : i' ≤ i) : staleS s seen now' i' = true := by
  unfold staleS at *
  split
  · rfl
  · rename_i hn
    rw [if_neg hn] at h
    simp only [decide_eq_true_eq] at h ⊢
    have := tick_mono _ _ h1
    omega

/-- what a time that may be idle becomes -/
def lessS (i l : Int) : Int := if -1152921504606846976 < i then i - l else i
theorem lessS_le (i l : Int) (h : 0 ≤ l) : lessS i l ≤ i := by unfold lessS; split <;> omega

def six (i0 i1 i2 i3 i4 i5 : Int) (j : Nat) : Int := [i0, i1, i2, i3, i4, i5].getD j 0
/-- the array behind k rounds -/
def sixTo (i0 i1 i2 i3 i4 i5 le : Int) (k j : Nat) : Int := if j < k then lessS (six i0 i1 i2 i3 i4 i5 j) le else six i0 i1 i2 i3 i4 i5 j
structure Short (w2 wr : World) (i0 i1 i2 i3 i4 i5 le : Int) (k : Nat) : Prop where
  below : Below w2.heap.size w2 wr
  size : w2.heap.size < wr.heap.size
  cell : ∀ j, j < 6 → wr.cell? ⟨w2.heap.size, j, none⟩ = some (.int .i64 (sixTo i0 i1 i2 i3 i4 i5 le k j))
  free : ∀ j, wr.frozen? ⟨w2.heap.size, j, none⟩ = false

theorem Short.start (w2 : World) (i0 i1 i2 i3 i4 i5 le : Int) : Short w2 (w2.alloc (.cells #[.int .i64 i0, .int .i64 i1, .int .i64 i2, .int .i64 i3, .int .i64 i4, .int .i64 i5] 30)) i0 i1 i2 i3 i4 i5 le 0 :=
  ⟨(Below.refl _ _).alloc (Nat.le_refl _) _, by simp, fun j hj => by
    rw [World.cell?_alloc_at _ _ _ _ rfl]
    rcases (show j = 0 ∨ j = 1 ∨ j = 2 ∨ j = 3 ∨ j = 4 ∨ j = 5 by omega) with rfl | rfl | rfl | rfl | rfl | rfl <;> rfl, fun j => World.frozen?_alloc_at _ _ _ _ rfl⟩

theorem Short.keep {w2 wr : World} {i0 i1 i2 i3 i4 i5 le : Int} {k : Nat} (h : Short w2 wr i0 i1 i2 i3 i4 i5 le k) (hk : k < 6) (hn : six i0 i1 i2 i3 i4 i5 k ≤ -1152921504606846976) : Short w2 wr i0 i1 i2 i3 i4 i5 le (k + 1) :=
  ⟨h.below, h.size, fun j hj => by
    rw [h.cell j hj]
    unfold sixTo
    by_cases e : j = k
    · subst e
      rw [if_neg (by omega), if_pos (by omega)]
      unfold lessS
      rw [if_neg (by omega)]
    · by_cases e2 : j < k
      · rw [if_pos e2, if_pos (by omega)]
      · rw [if_neg e2, if_neg (by omega)], h.free⟩

theorem Short.step {w2 wr : World} {i0 i1 i2 i3 i4 i5 le : Int} {k : Nat} (h : Short w2 wr i0 i1 i2 i3 i4 i5 le k) (hk : k < 6) (hn : -1152921504606846976 < six i0 i1 i2 i3 i4 i5 k) :
    Short w2 (wr.setCell ⟨w2.heap.size, k, none⟩ (.int .i64 (six i0 i1 i2 i3 i4 i5 k - le))) i0 i1 i2 i3 i4 i5 le (k + 1) :=
  ⟨h.below.setCell (Nat.le_refl _) _, by simpa using h.size, fun j hj => by
    by_cases e : j = k
    · subst e
      rw [World.cell?_setCell_same _ _ _ (h.cell j hk)]
      unfold sixTo lessS
      rw [if_pos (by omega), if_pos hn]
    · rw [World.cell?_setCell_other _ _ _ _ (by simp), h.cell j hj]
      unfold sixTo
      by_cases e2 : j < k
      · rw [if_pos e2, if_pos (by omega)]
      · rw [if_neg e2, if_neg (by omega)], fun j => by rw [World.frozen?_setCell]; exact h.free j⟩

theorem six_range {i0 i1 i2 i3 i4 i5 : Int} (h : ∀ x ∈ [i0, i1, i2, i3, i4, i5], -9223372036854775808 ≤ x ∧ x ≤ 9223372036854775807) (k : Nat) : -9223372036854775808 ≤ six i0 i1 i2 i3 i4 i5 k ∧ six i0 i1 i2 i3 i4 i5 k ≤ 9223372036854775807 := by
  unfold six
  by_cases hk : k < 6
  · rw [List.getD_eq_getElem?_getD, List.getElem?_eq_getElem (by simpa using hk)]
    exact h _ (List.getElem_mem _)
  · rw [List.getD_eq_getElem?_getD, List.getElem?_eq_none (by simpa using hk)]
    simp

set_option maxHeartbeats 1000000 in
theorem later_walk (s seen now i0 i1 i2 i3 i4 i5 la le : Int) (w : World) (hla : 0 ≤ la ∧ la ≤ 65535) (hle : 0 ≤ le ∧ le ≤ 65535)
   (hnow : -9223372036854775808 ≤ now ∧ now ≤ 9223372036854775807) (hix : ∀ x ∈ [i0, i1, i2, i3, i4, i5], -9223372036854775808 ≤ x ∧ x ≤ 9223372036854775807) :
   Calls Try.prog 9 #[.int .i64 s, .int .i64 seen, .int .i64 now, .agg #[.int .i64 i0, .int .i64 i1, .int .i64 i2, .int .i64 i3, .int .i64 i4, .int .i64 i5], .int .u16 la, .int .u16 le] w fun e w' =>
    e = .returned (.bool true) ∧ Below w.heap.size w w' := by
  obtain ⟨hla0, hla1⟩ := hla
  obtain ⟨hle0, hle1⟩ := hle
  obtain ⟨hn0, hn1⟩ := hnow
  go_enter Try.func9, Try.ntmps9
  go_wp2_with fail
  refine (awake_any _).mono ?_
  rintro e w1 ⟨rfl, hb1⟩
  have hb1' : Below w.heap.size w w1 := ((Below.refl w.heap.size w).alloc (Nat.le_refl _) _).trans (hb1.mono (by simp))
  have hz1 : w.heap.size < w1.heap.size := by have := hb1.size; simp at this; omega
  have hc1 : ∀ j, j < 6 → w1.cell? ⟨w.heap.size, j, none⟩ = some (.int .i64 ([i0, i1, i2, i3, i4, i5].getD j 0)) := fun j hj => by
    rw [(bcell hb1).1 _ _ (by simp), World.cell?_alloc_at _ _ _ _ rfl]
    rcases (show j = 0 ∨ j = 1 ∨ j = 2 ∨ j = 3 ∨ j = 4 ∨ j = 5 by omega) with rfl | rfl | rfl | rfl | rfl | rfl <;> rfl
  have HB1 := Lib.hid hb1'
  clear hb1 hb1'
  have c0 := hc1 0 (by omega)
  have c1 := hc1 1 (by omega)
  have c2 := hc1 2 (by omega)
  have c3 := hc1 3 (by omega)
  have c4 := hc1 4 (by omega)
  have c5 := hc1 5 (by omega)
  simp only [List.getD, List.getElem?_cons_succ, List.getElem?_cons_zero, Option.getD_some] at c0 c1 c2 c3 c4 c5
  clear hc1
  go_wp2_with fail
  refine (stale_any _ _ _ _ _ _ _ _ _ _).mono ?_
  rintro e w2 ⟨rfl, hb2⟩
  have hz2 : w.heap.size < w2.heap.size := Nat.lt_of_lt_of_le hz1 hb2.size
  have d0 := ((bcell hb2).1 w.heap.size 0 hz1).trans c0
  have d1 := ((bcell hb2).1 w.heap.size 1 hz1).trans c1
  have d2 := ((bcell hb2).1 w.heap.size 2 hz1).trans c2
  have d3 := ((bcell hb2).1 w.heap.size 3 hz1).trans c3
  have d4 := ((bcell hb2).1 w.heap.size 4 hz1).trans c4
  have d5 := ((bcell hb2).1 w.heap.size 5 hz1).trans c5
  have HB2 := Lib.hid (HB1.out.trans (hb2.mono (Nat.le_of_lt hz1)))
  clear c0 c1 c2 c3 c4 c5 hb2 HB1
  obtain ⟨was, hwas⟩ : ∃ was, was = staleS s seen now ([i0, i1, i2, i3, i4, i5].getD s.toNat 0) := ⟨_, rfl⟩
  rw [← hwas]
  have HW := Lib.hid hwas
  clear hwas
  by_cases hlt : now < 1152921504606846976
  all_goals
    go_wp2_with fail
    go_loopw [16] (fun i wr => ∃ k : Nat, k ≤ 6 ∧ i = .int .i64 k ∧ Short w2 wr i0 i1 i2 i3 i4 i5 le k) (fun i _ => 6 - (intOf i).toNat)
    case atStart => exact ⟨0, by omega, rfl, Short.start _ _ _ _ _ _ _ _⟩
    case round =>
      obtain ⟨k, hk, rfl, hsh⟩ := hrel
      by_cases hk6 : k < 6
      · have hcell : wr.cell? ⟨w2.heap.size, k, none⟩ = some (.int .i64 (six i0 i1 i2 i3 i4 i5 k)) := by rw [hsh.cell k hk6]; unfold sixTo; rw [if_neg (by omega)]
        have hfree := hsh.free k
        obtain ⟨hr1, hr2⟩ := six_range hix k
        by_cases hbig : -1152921504606846976 < six i0 i1 i2 i3 i4 i5 k
        · have HS := Lib.hid (hsh.step hk6 hbig)
          clear hsh
          go_wp2_with fail
          go_roundw
          case rel => exact ⟨k + 1, by omega, by go_num, HS.out⟩
          case measure => simp [intOf]; omega
        · have HS := Lib.hid (hsh.keep hk6 (by omega))
          clear hsh
          go_wp2_with fail
          go_roundw
          case rel => exact ⟨k + 1, by omega, by go_num, HS.out⟩
          case measure => simp [intOf]; omega
      · obtain rfl : k = 6 := by omega
        have e0 := ((bcell hsh.below).1 _ _ hz2).trans d0
        have e1 := ((bcell hsh.below).1 _ _ hz2).trans d1
        have e2 := ((bcell hsh.below).1 _ _ hz2).trans d2
        have e3 := ((bcell hsh.below).1 _ _ hz2).trans d3
        have e4 := ((bcell hsh.below).1 _ _ hz2).trans d4
        have e5 := ((bcell hsh.below).1 _ _ hz2).trans d5
        have f0 := hsh.cell 0 (by omega)
        have f1 := hsh.cell 1 (by omega)
        have f2 := hsh.cell 2 (by omega)
        have f3 := hsh.cell 3 (by omega)
        have f4 := hsh.cell 4 (by omega)
        have f5 := hsh.cell 5 (by omega)
        simp only [sixTo, Nat.reduceLT, if_true] at f0 f1 f2 f3 f4 f5
        clear d0 d1 d2 d3 d4 d5
        have HBr := Lib.hid (HB2.out.trans (hsh.below.mono (Nat.le_of_lt hz2)))
        have hzr : w2.heap.size < wr.heap.size := hsh.size
        clear hsh
        cases was
        · go_wp2_with fail
          go_ret
          exact ⟨rfl, HBr.out⟩
        · go_wp2_with fail
          refine (stale_any _ _ _ _ _ _ _ _ _ _).mono ?_
          rintro e w4 ⟨rfl, hb4⟩
          rw [stale_later s seen now _ _ _ HW.out.symm (by omega) (Int.le_refl _)]
          have g0 := ((bcell hb4).1 _ _ hzr).trans f0
          have g1 := ((bcell hb4).1 _ _ hzr).trans f1
          have g2 := ((bcell hb4).1 _ _ hzr).trans f2
          have g3 := ((bcell hb4).1 _ _ hzr).trans f3
          have g4 := ((bcell hb4).1 _ _ hzr).trans f4
          have g5 := ((bcell hb4).1 _ _ hzr).trans f5
          have HB4 := Lib.hid (HBr.out.trans (hb4.mono (by omega)))
          clear hb4 e0 e1 e2 e3 e4 e5 f0 f1 f2 f3 f4 f5
          go_wp2_with fail
          refine (stale_any _ _ _ _ _ _ _ _ _ _).mono ?_
          rintro e w5 ⟨rfl, hb5⟩
          have hfin : staleS s seen now ([lessS (six i0 i1 i2 i3 i4 i5 0) le, lessS (six i0 i1 i2 i3 i4 i5 1) le, lessS (six i0 i1 i2 i3 i4 i5 2) le, lessS (six i0 i1 i2 i3 i4 i5 3) le, lessS (six i0 i1 i2 i3 i4 i5 4) le, lessS (six i0 i1 i2 i3 i4 i5 5) le].getD s.toNat 0) = true := by
            refine stale_later s seen now _ _ _ HW.out.symm (Int.le_refl _) ?_
            have hl : ∀ x, lessS x le ≤ x := fun x => lessS_le x le hle0
            by_cases h6 : s.toNat < 6
            · rcases (show s.toNat = 0 ∨ s.toNat = 1 ∨ s.toNat = 2 ∨ s.toNat = 3 ∨ s.toNat = 4 ∨ s.toNat = 5 by omega) with h | h | h | h | h | h <;> rw [h] <;> exact hl _
            · rw [List.getD_eq_getElem?_getD, List.getD_eq_getElem?_getD, List.getElem?_eq_none (by show 6 ≤ s.toNat; omega), List.getElem?_eq_none (by show 6 ≤ s.toNat; omega)]; exact Int.le_refl _
          rw [hfin]
          have HB5 := Lib.hid (HB4.out.trans (hb5.mono (by have := HB4.out.size; omega)))
          clear hb5 g0 g1 g2 g3 g4 g5 hfin
          go_wp2_with fail
          go_ret
          exact ⟨rfl, HB5.out⟩
end Go.Proofs.Ytkgkagcppoedeaa
