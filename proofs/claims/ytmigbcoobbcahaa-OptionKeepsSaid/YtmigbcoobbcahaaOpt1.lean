/-
  Chapter 25: which options may be, how long they are, walked.
-/
import Derived.Test.YtmigbcoobbcahaaKit
import Derived.Test.YtmigbcoobbcahaaOpts
import Derived.Test.YtmigbcoobbcahaaOctet2
import Derived.BigQuiet
namespace Go.Proofs.Ytmigbcoobbcahaa
open Go.RowKit Go.Sort
set_option linter.unusedVariables false

def sumF (l : List OV) (k : Nat) : Nat := ((l.take k).map fun o => min o.2.length 100000).sum
def fewO (l : List OV) : Bool := decide (l.length ≤ 60) && decide (sumF l 100 ≤ 70000)
theorem sumF_succ (l : List OV) (k : Nat) (h : k < l.length) : sumF l (k + 1) = sumF l k + min l[k].2.length 100000 := by
  unfold sumF
  rw [List.take_add_one, List.getElem?_eq_getElem h, Option.toList_some, List.map_append, List.sum_append]
  simp only [List.map_cons, List.map_nil, List.sum_cons, List.sum_nil, Nat.add_zero]
theorem sumF_le (l : List OV) (k : Nat) : sumF l k ≤ k * 100000 := by
  induction k with
  | zero => simp [sumF]
  | succ k ih =>
    by_cases h : k < l.length
    · rw [sumF_succ l k h]; omega
    · have e : sumF l (k + 1) = sumF l k := by unfold sumF; rw [List.take_of_length_le (by omega), List.take_of_length_le (by omega)]
      omega
theorem sumF_end (l : List OV) (k : Nat) (h : l.length ≤ k) (hk : k ≤ 100) : sumF l 100 = sumF l k := by unfold sumF; rw [List.take_of_length_le (by omega), List.take_of_length_le (by omega)]
theorem vals_get (os : List OptV) (k : Nat) (h : k < os.length) (h2 : k < (vals os).length) : (vals os)[k] = os[k].val := by simp [vals]

theorem few_any (ad : Option Addr) (n c : Nat) (os : List OptV) (w : World) (hs : Ops w ad n c os) :
    Calls Try.prog 10 #[.slice ad n c] w fun e w' => e = .returned (.bool (fewO (vals os))) ∧ w = w' := by
  have hn := hs.len
  have hle := hs.le
  have HS := Lib.hid hs
  clear hs
  go_enter Try.func10, Try.ntmps10
  go_wp2_with fail
  go_loop [3, 4] (fun s i => ∃ (k z : Nat), k ≤ n ∧ k ≤ 100 ∧ z ≤ k * 100000 ∧ i = .int .i64 k ∧ s = .int .i64 z ∧ Hid (z = sumF (vals os) k)) (fun _ i => n - (intOf i).toNat)
  case atStart => exact ⟨0, 0, by omega, by omega, by omega, rfl, rfl, Lib.hid rfl⟩
  case round =>
    obtain ⟨k, z, hk, hk1, hz, rfl, rfl, HZ⟩ := hrel
    by_cases h1 : k < n
    · by_cases h2 : (k : Int) < 100
      · obtain ⟨b, off, rfl, hb, hat⟩ := HS.out.at (j := k) (by omega)
        obtain ⟨q1, q2, hbs⟩ := hat k (by omega)
        have hon := hbs.len
        have hol := hbs.le
        obtain ⟨o, ho⟩ : ∃ o, o = os[k]'(by omega) := ⟨_, rfl⟩
        rw [← ho] at q1 q2 hon hol
        have HZ2 : Hid (z + min o.n 100000 = sumF (vals os) (k + 1)) := Lib.hid (by
          rw [sumF_succ _ _ (by rw [vals_length]; omega), vals_get _ _ (by omega), HZ.out, hon, ho]
          rfl)
        clear hat hbs ho hon HZ
        by_cases h3 : (o.n : Int) ≤ 100000
        · go_wp2_with fail
          go_round
          case rel => exact ⟨k + 1, by omega, by omega, z + o.n, by omega, by go_num, by go_num, Lib.hid (by rw [← HZ2.out, Nat.min_eq_left (by omega)])⟩
          case measure => simp [intOf]; omega
        · go_wp2_with fail
          go_round
          case rel => exact ⟨k + 1, by omega, by omega, z + 100000, by omega, by go_num, by go_num, Lib.hid (by rw [← HZ2.out, Nat.min_eq_right (by omega)])⟩
          case measure => simp [intOf]; omega
      · have hf : Hid (fewO (vals os) = false) := Lib.hid (by
          unfold fewO
          rw [vals_length, ← hn]
          have : ¬ n ≤ 60 := by omega
          simp [this])
        have h6 : ¬ (n : Int) ≤ 60 := by omega
        go_wp2_with fail
        go_ret
        exact ⟨by rw [hf.out]; simp, rfl⟩
    · have hf : Hid (fewO (vals os) = (decide (n ≤ 60) && decide (z ≤ 70000))) := Lib.hid (by
        unfold fewO
        rw [vals_length, ← hn, HZ.out, sumF_end (vals os) k (by rw [vals_length]; omega) (by omega)])
      by_cases h6 : (n : Int) ≤ 60
      · by_cases h7 : (z : Int) ≤ 70000
        · go_wp2_with fail
          go_ret
          exact ⟨by rw [hf.out]; congr 3; simp; omega, rfl⟩
        · go_wp2_with fail
          go_ret
          exact ⟨by rw [hf.out]; congr 3; simp; omega, rfl⟩
      · go_wp2_with fail
        go_ret
        exact ⟨by rw [hf.out]; congr 3; simp; omega, rfl⟩

theorem wrong_any (ad : Option Addr) (n c : Nat) (os : List OptV) (w : World) (hs : Ops w ad n c os) :
    Calls Try.prog 12 #[.slice ad n c] w fun e w' => e = .returned (.int .i64 (wrongO (vals os))) ∧ w = w' := by
  have hn := hs.len
  have hle := hs.le
  have HS := Lib.hid hs
  obtain ⟨X, hX⟩ : ∃ X, X = wrongO (vals os) := ⟨_, rfl⟩
  rw [← hX]
  have HX := Lib.hid (show X = wrongO ((vals os).drop 0) by rw [hX, List.drop_zero])
  clear hs hX
  go_enter Try.func12, Try.ntmps12
  go_wp2_with fail
  go_loop [3] (fun i => ∃ k : Nat, k ≤ n ∧ i = .int .i64 k ∧ Hid (X = wrongO ((vals os).drop k))) (fun i => n - (intOf i).toNat)
  case atStart => exact ⟨0, by omega, rfl, HX⟩
  case round =>
    obtain ⟨k, hk, rfl, HX1⟩ := hrel
    by_cases hlt : k < n
    · obtain ⟨b, off, rfl, hb, hat⟩ := HS.out.at (j := k) (by omega)
      obtain ⟨q1, q2, hbs⟩ := hat k (by omega)
      have hon := hbs.len
      have hol := hbs.le
      obtain ⟨o, ho⟩ : ∃ o, o = os[k]'(by omega) := ⟨_, rfl⟩
      rw [← ho] at q1 q2 hon hol
      have HD : Hid (X = if o.code < 1 ∨ 65535 < o.code then 1 else if 65535 < o.n then 4 else wrongO ((vals os).drop (k + 1))) := Lib.hid (by
        rw [HX1.out, List.drop_eq_getElem_cons (by rw [vals_length]; omega), wrongO, vals_get _ _ (by omega), hon, ho]
        rfl)
      clear hat hbs ho hon HX1 HX
      generalize o.code = cd at *
      generalize o.n = on at *
      by_cases h1 : cd < 1
      · have HE := Lib.hid (HD.out.trans (if_pos (.inl h1)))
        go_wp2_with fail
        go_ret
        exact ⟨by rw [HE.out]; rfl, rfl⟩
      · by_cases h2 : 65535 < cd
        · have HE := Lib.hid (HD.out.trans (if_pos (.inr h2)))
          go_wp2_with fail
          go_ret
          exact ⟨by rw [HE.out]; rfl, rfl⟩
        · by_cases h3 : (65535 : Int) < on
          · have HE := Lib.hid ((HD.out.trans (if_neg (by omega))).trans (if_pos (by omega)))
            go_wp2_with fail
            go_ret
            exact ⟨by rw [HE.out]; rfl, rfl⟩
          · have HE := Lib.hid ((HD.out.trans (if_neg (by omega))).trans (if_neg (by omega)))
            clear HD
            go_wp2_with fail
            go_round
            case rel => exact ⟨k + 1, by omega, by go_num, HE⟩
            case measure => simp [intOf]; omega
    · have HE := Lib.hid (show X = 0 by rw [HX1.out, List.drop_of_length_le (by rw [vals_length]; omega)]; rfl)
      go_wp2_with fail
      go_ret
      exact ⟨by rw [HE.out]; rfl, rfl⟩

theorem pad_nat (n : Nat) (w : World) (h : n ≤ 9223372036854775807) : Calls Try.prog 25 #[.int .i64 (n : Int)] w fun e w' => e = .returned (.int .i64 ((padN n : Nat) : Int)) ∧ w' = w := by
  rw [← padI_nat]
  exact (pad_any _ _ (by omega) (by omega)).mono fun _ _ h => ⟨h.1, h.2.symm⟩
def sizeA (l : List OV) : Nat := sizeO l + (if l.length = 0 then 0 else 4)
theorem sizeO_take (l : List OV) (k : Nat) (h : k < l.length) : sizeO (l.take (k + 1)) = sizeO (l.take k) + lenO l[k] := by
  unfold sizeO
  rw [List.take_add_one, List.getElem?_eq_getElem h, Option.toList_some, List.map_append, List.sum_append]
  simp only [List.map_cons, List.map_nil, List.sum_cons, List.sum_nil, Nat.add_zero]
theorem sizeO_take_le (l : List OV) (k : Nat) : sizeO (l.take k) ≤ sizeO l := by
  have : sizeO l = sizeO (l.take k) + sizeO (l.drop k) := by rw [← sizeO_append, List.take_append_drop]
  omega
theorem ocell_all (o : OptV) : o.cells.toArray.all (·.oneCell') = true := by
  simp only [OptV.cells, List.all_toArray, List.all_cons, List.all_nil, Bool.and_true, Bool.and_eq_true]
  exact ⟨rfl, rfl⟩
theorem ocell_range {w : World} {b off : Nat} {o : OptV} (h1 : w.cell? ⟨b, off, none⟩ = some (.int .i64 o.code)) (h2 : w.cell? ⟨b, off + 1, none⟩ = some (.slice o.ad o.n o.c)) : w.rangeAt b off o.cells := by
  intro j v hv
  match j with
  | 0 => simp [OptV.cells] at hv; subst hv; exact h1
  | 1 => simp [OptV.cells] at hv; subst hv; exact h2
  | j + 2 => simp [OptV.cells] at hv

set_option maxHeartbeats 1000000 in
theorem size_any (ad : Option Addr) (n c : Nat) (os : List OptV) (w : World) (hs : Ops w ad n c os) (hsz : sizeO (vals os) ≤ 140737488351232) :
    Calls Try.prog 14 #[.slice ad n c] w fun e w' => e = .returned (.int .i64 ((sizeA (vals os) : Nat) : Int)) ∧ Below w.heap.size w w' := by
  have hn := hs.len
  have hle := hs.le
  have HS := Lib.hid hs
  have HI : Hid ((Try.prog.info? 43).map (·.size) = some 2) := Lib.hid (by kernel_rfl)
  clear hs
  go_enter Try.func14, Try.ntmps14
  go_wp2_with fail
  go_loopw [3, 8] (fun s i wr => ∃ (k z : Nat), k ≤ n ∧ z ≤ 140737488351232 ∧ i = .int .i64 k ∧ s = .int .i64 z ∧ Hid (z = sizeO ((vals os).take k)) ∧ Below w.heap.size w wr) (fun _ i _ => n - (intOf i).toNat)
  case atStart => exact ⟨0, 0, by omega, by omega, rfl, rfl, Lib.hid rfl, Below.refl _ _⟩
  case round =>
    obtain ⟨k, z, hk, hzl, rfl, rfl, HZ, hb0⟩ := hrel
    have HB := Lib.hid hb0
    by_cases hlt : k < n
    · obtain ⟨b, off, rfl, hb, hat⟩ := (HS.out.below hb0).at (j := k) (by omega)
      obtain ⟨q1, q2, hbs⟩ := hat k (by omega)
      have hon := hbs.len
      have hol := hbs.le
      obtain ⟨o, ho⟩ : ∃ o, o = os[k]'(by omega) := ⟨_, rfl⟩
      rw [← ho] at q1 q2 hon hol
      have hp3 := padN_le o.n
      have hz2 : z + (4 + o.n + padN o.n) = sizeO ((vals os).take (k + 1)) := by
        rw [sizeO_take _ _ (by rw [vals_length]; omega), vals_get _ _ (by omega), HZ.out, hon, ho]
        rfl
      have hz3 : z + (4 + o.n + padN o.n) ≤ 140737488351232 := by rw [hz2]; exact Nat.le_trans (sizeO_take_le _ _) hsz
      have HZ2 := Lib.hid hz2
      have HR := Lib.hid (ocell_range q1 q2)
      clear hat hbs ho hon HZ hz2 q1 q2 hb0
      go_wp2_with (first
        | ((with_reducible show wpList _ _ _ (⟨some 11, _, _, _, _, _⟩ :: _) _ _); go_must (refine wpL_load rfl 43 (.tmp 10) rfl b (off + k * 2) rfl o.cells _ HR.out Try.underlying43 rfl HI.out ?_); simp only [Act.put, List.setIfInBounds_toArray, List.set_cons_zero, List.set_cons_succ])
        | ((with_reducible show wpList _ _ _ (⟨some 5, _, _, _, _, _⟩ :: _) _ _); go_must (refine wpL_newAt wr.heap.size rfl rfl 43 rfl (.tmp 5) (.tmp 11) rfl o.cells.toArray #[.int .i64 0, .slice none 0 0] (by kernel_rfl) rfl (ocell_all o) (fun _ => rfl) (fun _ => rfl) rfl ?_); simp only [Act.put, List.setIfInBounds_toArray, List.set_cons_zero, List.set_cons_succ]))
      obtain ⟨w1, hw1⟩ : ∃ w1, w1 = wr.alloc (.cells o.cells.toArray 43) := ⟨_, rfl⟩
      have HB1 := Lib.hid (show Below w.heap.size w w1 by rw [hw1]; exact HB.out.alloc HB.out.size _)
      have hc1 : w1.cell? ⟨wr.heap.size, 1, none⟩ = some (.slice o.ad o.n o.c) := by rw [hw1]; simp [OptV.cells]
      rw [← hw1]
      clear hw1
      go_quiet ((go_at_call 25; exact Calls.quiet_of_same (pad_nat _ _ (by omega))))
      have HB2 := Lib.hid (HB1.out.trans (below_drewN _ _ nq))
      go_wp2_with fail
      go_roundw
      case rel => exact ⟨k + 1, z + (4 + o.n + padN o.n), by omega, hz3, by go_num, by go_num, HZ2, HB2.out⟩
      case measure => simp [intOf]; omega
    · have hk2 : k = n := by omega
      have hf : Hid (sizeA (vals os) = z + (if n = 0 then 0 else 4)) := Lib.hid (by
        unfold sizeA
        rw [HZ.out, List.take_of_length_le (by rw [vals_length]; omega), vals_length, ← hn])
      by_cases h0 : n = 0
      · have h1 : ¬ ((0 : Int) < (n : Int)) := by omega
        go_wp2_with fail
        go_ret
        exact ⟨by rw [hf.out, if_pos h0]; rfl, HB.out⟩
      · have h1 : ((0 : Int) < (n : Int)) := by omega
        go_wp2_with fail
        go_ret
        exact ⟨by rw [hf.out, if_neg h0]; rfl, HB.out⟩
end Go.Proofs.Ytmigbcoobbcahaa
