/-
  Joined by program (merge.py): Flo4, Flo5, Flo6, PlainLt.
-/
import Derived.Lib.UnsafeStr
import GoSem.Extern.BytealgCompare
import Derived.Test.YtgpdlhbndoeldaaC2
/-
  Chapter 21: names, the document's side, which flows are right: walked (written by gen/flo4.py).
-/
namespace Go.Proofs.Ytgpdlhbndoeldaa
open Go.RowKit Go.Sort
set_option linter.unusedVariables false
set_option linter.unusedSimpArgs false
set_option maxRecDepth 100000
set_option maxHeartbeats 4000000


/-- the first that is none, or all are -/
theorem nameB_bad {s : ByteArray} {k : Nat} (hk : k < s.data.toList.length) (h : letB s.data.toList[k] = false) : nameB s = false := by
  have : s.data.toList.all letB = false := by
    rw [List.all_eq_false]
    exact ⟨_, List.getElem_mem hk, by rw [h]; simp⟩
  simp [nameB, this]
theorem take_all {l : List UInt8} {p : UInt8 → Bool} {k : Nat} (hk : k < l.length) (h : (l.take k).all p = true) (h2 : p l[k] = true) : (l.take (k + 1)).all p = true := by
  rw [← List.take_append_getElem hk, List.all_append, h]
  simp [h2]

theorem name_any (s : ByteArray) (hsz : s.size ≤ 140737488351232) (w : World) :
    Calls Try.prog 33 #[.string s] w fun e w' => e = .returned (.bool (nameB s)) ∧ Below w.heap.size w w' := by
  have hlen : s.data.toList.length = s.size := Array.length_toList
  obtain ⟨R, hR⟩ : ∃ R, R = nameB s := ⟨_, rfl⟩
  rw [← hR]
  have HR := Lib.hid hR
  clear hR
  have HB := Lib.hid (Below.refl w.heap.size w)
  go_enter Try.func33, Try.ntmps33
  go_wp2_with ((with_reducible refine sl 6 ?_); go_must (refine wpL_conv s (by kernel_rfl) Try.underlying72 Try.underlying5 hsz rfl (.tmp 5) rfl rfl ?_); intro cc w1 hf__ hb__; have HF := Lib.hid hf__.bs; have hE__ := cU HB bup hb__; replace HB := ck HB hE__; clear hE__; clear hf__ hb__; simp only [PT])
  obtain ⟨g, hg⟩ : ∃ g, g = w.heap.size := ⟨_, rfl⟩
  rw [← hg] at HF ⊢
  clear hg
  go_loop [8] (fun i => ∃ k : Nat, k ≤ s.size ∧ i = .int .i64 k ∧ Hid ((s.data.toList.take k).all letB = true)) (fun i => s.size + 1 - (intOf i).toNat)
  case atStart => exact ⟨0, Nat.zero_le _, rfl, Lib.hid (by simp)⟩
  case round =>
    obtain ⟨k, hk, rfl, hal⟩ := hrel
    by_cases hlt : (k : Int) < s.size
    · have hkl : k < s.data.toList.length := by omega
      obtain ⟨cb, hcb⟩ : ∃ cb, cb = s.data.toList[k] := ⟨_, rfl⟩
      obtain ⟨b, off, hb2, hbw, hcell⟩ := HF.out.at (j := k) hkl
      cases hb2
      have hck := hcell k hkl
      rw [at8_get _ k hkl, ← hcb, Nat.zero_add] at hck
      have HCB := Lib.hid hcb
      clear hcell hcb hbw
      have hx0 := cb.toNat_lt
      obtain ⟨x, hx⟩ : ∃ x : Int, x = (cb.toNat : Int) := ⟨_, rfl⟩
      rw [← hx] at hck
      have hcases : x ≤ 44 ∨ x = 45 ∨ x = 46 ∨ x = 47 ∨ (48 ≤ x ∧ x ≤ 57) ∨ (58 ≤ x ∧ x ≤ 96) ∨ (97 ≤ x ∧ x ≤ 122) ∨ 123 ≤ x := by omega
      have HX := Lib.hid hx
      clear hx hx0
      rcases hcases with hc | hc | hc | hc | hc | hc | hc | hc
      · have d0 : decide (x < 97) = true := by simp; omega
        have d1 : decide (122 < x) = false := by simp; omega
        have d2 : decide (x < 48) = true := by simp; omega
        have d3 : decide (57 < x) = false := by simp; omega
        have d4 : decide (97 ≤ x) = false := by simp; omega
        have d5 : decide (x ≤ 122) = true := by simp; omega
        have d6 : decide (48 ≤ x) = false := by simp; omega
        have d7 : decide (x ≤ 57) = true := by simp; omega
        have d8 : (x != 45) = true := by simp; omega
        have d9 : (x != 46) = true := by simp; omega
        have d10 : (x == 45) = false := by simp; omega
        have d11 : (x == 46) = false := by simp; omega
        have d12 : decide (x = 45) = false := by simp; omega
        have d13 : decide (x = 46) = false := by simp; omega
        have HRR : Hid (R = false) := Lib.hid (by rw [HR.out]; refine nameB_bad hkl ?_; rw [← HCB.out]; unfold letB; have := HX.out; simp; omega)
        clear HR hc
        go_wp2_with fail
        go_ret
        rw [HRR.out]
        exact ⟨rfl, HB.out⟩
      · have d0 : decide (x < 97) = true := by simp; omega
        have d1 : decide (122 < x) = false := by simp; omega
        have d2 : decide (x < 48) = true := by simp; omega
        have d3 : decide (57 < x) = false := by simp; omega
        have d4 : decide (97 ≤ x) = false := by simp; omega
        have d5 : decide (x ≤ 122) = true := by simp; omega
        have d6 : decide (48 ≤ x) = false := by simp; omega
        have d7 : decide (x ≤ 57) = true := by simp; omega
        have d8 : (x != 45) = false := by simp; omega
        have d9 : (x != 46) = true := by simp; omega
        have d10 : (x == 45) = true := by simp; omega
        have d11 : (x == 46) = false := by simp; omega
        have d12 : decide (x = 45) = true := by simp; omega
        have d13 : decide (x = 46) = false := by simp; omega
        have HL : Hid (letB cb = true) := Lib.hid (by unfold letB; have := HX.out; simp; omega)
        clear HR hc
        go_wp2_with fail
        go_round
        case rel => exact ⟨k + 1, by omega, by go_num, Lib.hid (take_all hkl hal.out (by rw [← HCB.out]; exact HL.out))⟩
        case measure => simp [intOf]; omega
      · have d0 : decide (x < 97) = true := by simp; omega
        have d1 : decide (122 < x) = false := by simp; omega
        have d2 : decide (x < 48) = true := by simp; omega
        have d3 : decide (57 < x) = false := by simp; omega
        have d4 : decide (97 ≤ x) = false := by simp; omega
        have d5 : decide (x ≤ 122) = true := by simp; omega
        have d6 : decide (48 ≤ x) = false := by simp; omega
        have d7 : decide (x ≤ 57) = true := by simp; omega
        have d8 : (x != 45) = true := by simp; omega
        have d9 : (x != 46) = false := by simp; omega
        have d10 : (x == 45) = false := by simp; omega
        have d11 : (x == 46) = true := by simp; omega
        have d12 : decide (x = 45) = false := by simp; omega
        have d13 : decide (x = 46) = true := by simp; omega
        have HL : Hid (letB cb = true) := Lib.hid (by unfold letB; have := HX.out; simp; omega)
        clear HR hc
        go_wp2_with fail
        go_round
        case rel => exact ⟨k + 1, by omega, by go_num, Lib.hid (take_all hkl hal.out (by rw [← HCB.out]; exact HL.out))⟩
        case measure => simp [intOf]; omega
      · have d0 : decide (x < 97) = true := by simp; omega
        have d1 : decide (122 < x) = false := by simp; omega
        have d2 : decide (x < 48) = true := by simp; omega
        have d3 : decide (57 < x) = false := by simp; omega
        have d4 : decide (97 ≤ x) = false := by simp; omega
        have d5 : decide (x ≤ 122) = true := by simp; omega
        have d6 : decide (48 ≤ x) = false := by simp; omega
        have d7 : decide (x ≤ 57) = true := by simp; omega
        have d8 : (x != 45) = true := by simp; omega
        have d9 : (x != 46) = true := by simp; omega
        have d10 : (x == 45) = false := by simp; omega
        have d11 : (x == 46) = false := by simp; omega
        have d12 : decide (x = 45) = false := by simp; omega
        have d13 : decide (x = 46) = false := by simp; omega
        have HRR : Hid (R = false) := Lib.hid (by rw [HR.out]; refine nameB_bad hkl ?_; rw [← HCB.out]; unfold letB; have := HX.out; simp; omega)
        clear HR hc
        go_wp2_with fail
        go_ret
        rw [HRR.out]
        exact ⟨rfl, HB.out⟩
      · have d0 : decide (x < 97) = true := by simp; omega
        have d1 : decide (122 < x) = false := by simp; omega
        have d2 : decide (x < 48) = false := by simp; omega
        have d3 : decide (57 < x) = false := by simp; omega
        have d4 : decide (97 ≤ x) = false := by simp; omega
        have d5 : decide (x ≤ 122) = true := by simp; omega
        have d6 : decide (48 ≤ x) = true := by simp; omega
        have d7 : decide (x ≤ 57) = true := by simp; omega
        have d8 : (x != 45) = true := by simp; omega
        have d9 : (x != 46) = true := by simp; omega
        have d10 : (x == 45) = false := by simp; omega
        have d11 : (x == 46) = false := by simp; omega
        have d12 : decide (x = 45) = false := by simp; omega
        have d13 : decide (x = 46) = false := by simp; omega
        have HL : Hid (letB cb = true) := Lib.hid (by unfold letB; have := HX.out; simp; omega)
        clear HR hc
        go_wp2_with fail
        go_round
        case rel => exact ⟨k + 1, by omega, by go_num, Lib.hid (take_all hkl hal.out (by rw [← HCB.out]; exact HL.out))⟩
        case measure => simp [intOf]; omega
      · have d0 : decide (x < 97) = true := by simp; omega
        have d1 : decide (122 < x) = false := by simp; omega
        have d2 : decide (x < 48) = false := by simp; omega
        have d3 : decide (57 < x) = true := by simp; omega
        have d4 : decide (97 ≤ x) = false := by simp; omega
        have d5 : decide (x ≤ 122) = true := by simp; omega
        have d6 : decide (48 ≤ x) = true := by simp; omega
        have d7 : decide (x ≤ 57) = false := by simp; omega
        have d8 : (x != 45) = true := by simp; omega
        have d9 : (x != 46) = true := by simp; omega
        have d10 : (x == 45) = false := by simp; omega
        have d11 : (x == 46) = false := by simp; omega
        have d12 : decide (x = 45) = false := by simp; omega
        have d13 : decide (x = 46) = false := by simp; omega
        have HRR : Hid (R = false) := Lib.hid (by rw [HR.out]; refine nameB_bad hkl ?_; rw [← HCB.out]; unfold letB; have := HX.out; simp; omega)
        clear HR hc
        go_wp2_with fail
        go_ret
        rw [HRR.out]
        exact ⟨rfl, HB.out⟩
      · have d0 : decide (x < 97) = false := by simp; omega
        have d1 : decide (122 < x) = false := by simp; omega
        have d2 : decide (x < 48) = false := by simp; omega
        have d3 : decide (57 < x) = true := by simp; omega
        have d4 : decide (97 ≤ x) = true := by simp; omega
        have d5 : decide (x ≤ 122) = true := by simp; omega
        have d6 : decide (48 ≤ x) = true := by simp; omega
        have d7 : decide (x ≤ 57) = false := by simp; omega
        have d8 : (x != 45) = true := by simp; omega
        have d9 : (x != 46) = true := by simp; omega
        have d10 : (x == 45) = false := by simp; omega
        have d11 : (x == 46) = false := by simp; omega
        have d12 : decide (x = 45) = false := by simp; omega
        have d13 : decide (x = 46) = false := by simp; omega
        have HL : Hid (letB cb = true) := Lib.hid (by unfold letB; have := HX.out; simp; omega)
        clear HR hc
        go_wp2_with fail
        go_round
        case rel => exact ⟨k + 1, by omega, by go_num, Lib.hid (take_all hkl hal.out (by rw [← HCB.out]; exact HL.out))⟩
        case measure => simp [intOf]; omega
      · have d0 : decide (x < 97) = false := by simp; omega
        have d1 : decide (122 < x) = true := by simp; omega
        have d2 : decide (x < 48) = false := by simp; omega
        have d3 : decide (57 < x) = true := by simp; omega
        have d4 : decide (97 ≤ x) = true := by simp; omega
        have d5 : decide (x ≤ 122) = false := by simp; omega
        have d6 : decide (48 ≤ x) = true := by simp; omega
        have d7 : decide (x ≤ 57) = false := by simp; omega
        have d8 : (x != 45) = true := by simp; omega
        have d9 : (x != 46) = true := by simp; omega
        have d10 : (x == 45) = false := by simp; omega
        have d11 : (x == 46) = false := by simp; omega
        have d12 : decide (x = 45) = false := by simp; omega
        have d13 : decide (x = 46) = false := by simp; omega
        have HRR : Hid (R = false) := Lib.hid (by rw [HR.out]; refine nameB_bad hkl ?_; rw [← HCB.out]; unfold letB; have := HX.out; simp; omega)
        clear HR hc
        go_wp2_with fail
        go_ret
        rw [HRR.out]
        exact ⟨rfl, HB.out⟩
    · obtain rfl : k = s.size := by omega
      have HA : Hid (s.data.toList.all letB = true) := Lib.hid (by have h := hal.out; rwa [List.take_of_length_le (by omega)] at h)
      clear hal
      rcases Nat.lt_or_ge s.size 1 with h1 | h1
      · have e0 : decide (1 ≤ (s.size : Int)) = false := by simp; omega
        have HRR : Hid (R = false) := Lib.hid (by rw [HR.out]; unfold nameB; rw [decide_eq_false (show ¬ 1 ≤ s.size by omega)]; simp)
        clear HR h1 hlt
        go_wp2_with fail
        go_ret
        rw [HRR.out]
        exact ⟨rfl, HB.out⟩
      · have e0 : decide (1 ≤ (s.size : Int)) = true := by simp; omega
        have e1 : (1 ≤ (s.size : Int)) := by omega
        rcases Nat.lt_or_ge 24 s.size with h2 | h2
        · have e2 : decide ((s.size : Int) ≤ 24) = false := by simp; omega
          have HRR : Hid (R = false) := Lib.hid (by rw [HR.out]; unfold nameB; rw [show decide (s.size ≤ 24) = false by simp; omega]; simp)
          clear HR h1 h2 hlt
          go_wp2_with fail
          go_ret
          rw [HRR.out]
          exact ⟨rfl, HB.out⟩
        · have e2 : (s.size : Int) ≤ 24 := by omega
          have HRR : Hid (R = true) := Lib.hid (by rw [HR.out]; unfold nameB; rw [HA.out, decide_eq_true h1, decide_eq_true h2]; rfl)
          clear HR h1 h2 hlt
          go_wp2_with fail
          go_ret
          rw [HRR.out]
          exact ⟨rfl, HB.out⟩
theorem refName_any (s : ByteArray) (hsz : s.size ≤ 140737488351232) (w : World) :
    Calls Try.prog 35 #[.string s] w fun e w' => e = .returned (.bool (nameB s)) ∧ w = w' := by
  have hlen : s.data.toList.length = s.size := Array.length_toList
  obtain ⟨R, hR⟩ : ∃ R, R = nameB s := ⟨_, rfl⟩
  rw [← hR]
  have HR := Lib.hid hR
  clear hR
  go_enter Try.func35, Try.ntmps35
  have hstr : Try.prog.underlying 9 = some .string := Try.underlying9
  by_cases hs0 : (s.size : Int) < 1
  · have HRR : Hid (R = false) := Lib.hid (by rw [HR.out]; unfold nameB; rw [decide_eq_false (show ¬ 1 ≤ s.size by omega)]; simp)
    clear HR
    go_wp2_with fail
    go_ret
    rw [HRR.out]
    exact ⟨rfl, rfl⟩
  by_cases hs1 : (24 : Int) < s.size
  · have HRR : Hid (R = false) := Lib.hid (by rw [HR.out]; unfold nameB; rw [show decide (s.size ≤ 24) = false by simp; omega]; simp)
    clear HR
    have e0 : decide ((s.size : Int) < 1) = false := by simp; omega
    clear hs0
    go_wp2_with fail
    go_ret
    rw [HRR.out]
    exact ⟨rfl, rfl⟩
  have e0 : decide ((s.size : Int) < 1) = false := by simp; omega
  have e1 : decide ((24 : Int) < s.size) = false := by simp; omega
  have HZ : Hid (1 ≤ s.size ∧ s.size ≤ 24) := Lib.hid (by omega)
  clear hs0 hs1
  go_wp2_with fail
  clear e0 e1
  go_loop [3] (fun i => ∃ k : Nat, k ≤ s.size ∧ i = .int .i64 k ∧ Hid ((s.data.toList.take k).all letB = true)) (fun i => s.size + 1 - (intOf i).toNat)
  case atStart => exact ⟨0, Nat.zero_le _, rfl, Lib.hid (by simp)⟩
  case round =>
    obtain ⟨k, hk, rfl, hal⟩ := hrel
    by_cases hlt : (k : Int) < s.size
    · have hkl : k < s.data.toList.length := by omega
      obtain ⟨cb, hcb⟩ : ∃ cb, cb = s.data.toList[k] := ⟨_, rfl⟩
      have HCB := Lib.hid hcb
      have hx0 := cb.toNat_lt
      obtain ⟨x, hx⟩ : ∃ x : Int, x = (cb.toNat : Int) := ⟨_, rfl⟩
      have hidx : ∀ W : World, (Instr.index 9 (.string s) (.int .i64 (k : Int))).run Try.prog W = .ok (.int .u8 x) W := by
        intro W
        rw [run_index_string (P := Try.prog) W 9 s .i64 k hstr, dif_pos ⟨by omega, by omega⟩, hx, hcb]
        rfl
      have HI := Lib.hid hidx
      have hcases : x ≤ 44 ∨ x = 45 ∨ x = 46 ∨ x = 47 ∨ (48 ≤ x ∧ x ≤ 57) ∨ (58 ≤ x ∧ x ≤ 96) ∨ (97 ≤ x ∧ x ≤ 122) ∨ 123 ≤ x := by omega
      have HX := Lib.hid hx
      clear hx hx0 hcb hidx
      rcases hcases with hc | hc | hc | hc | hc | hc | hc | hc
      · have d0 : decide (x < 97) = true := by simp; omega
        have d1 : decide (122 < x) = false := by simp; omega
        have d2 : decide (x < 48) = true := by simp; omega
        have d3 : decide (57 < x) = false := by simp; omega
        have d4 : decide (97 ≤ x) = false := by simp; omega
        have d5 : decide (x ≤ 122) = true := by simp; omega
        have d6 : decide (48 ≤ x) = false := by simp; omega
        have d7 : decide (x ≤ 57) = true := by simp; omega
        have d8 : (x != 45) = true := by simp; omega
        have d9 : (x != 46) = true := by simp; omega
        have d10 : (x == 45) = false := by simp; omega
        have d11 : (x == 46) = false := by simp; omega
        have d12 : decide (x = 45) = false := by simp; omega
        have d13 : decide (x = 46) = false := by simp; omega
        have HRR : Hid (R = false) := Lib.hid (by rw [HR.out]; refine nameB_bad hkl ?_; rw [← HCB.out]; unfold letB; have := HX.out; simp; omega)
        clear HR hc
        go_wp2_with ((with_reducible refine sl 21 ?_); go_must (refine wpL_index rfl (.tmp 19) (.tmp 20) rfl _ _ rfl rfl (.int .u8 x) HI.out ?_); simp only [PT])
        go_ret
        rw [HRR.out]
        exact ⟨rfl, rfl⟩
      · have d0 : decide (x < 97) = true := by simp; omega
        have d1 : decide (122 < x) = false := by simp; omega
        have d2 : decide (x < 48) = true := by simp; omega
        have d3 : decide (57 < x) = false := by simp; omega
        have d4 : decide (97 ≤ x) = false := by simp; omega
        have d5 : decide (x ≤ 122) = true := by simp; omega
        have d6 : decide (48 ≤ x) = false := by simp; omega
        have d7 : decide (x ≤ 57) = true := by simp; omega
        have d8 : (x != 45) = false := by simp; omega
        have d9 : (x != 46) = true := by simp; omega
        have d10 : (x == 45) = true := by simp; omega
        have d11 : (x == 46) = false := by simp; omega
        have d12 : decide (x = 45) = true := by simp; omega
        have d13 : decide (x = 46) = false := by simp; omega
        have HL : Hid (letB cb = true) := Lib.hid (by unfold letB; have := HX.out; simp; omega)
        clear HR hc
        go_wp2_with ((with_reducible refine sl 21 ?_); go_must (refine wpL_index rfl (.tmp 19) (.tmp 20) rfl _ _ rfl rfl (.int .u8 x) HI.out ?_); simp only [PT])
        go_round
        case rel => exact ⟨k + 1, by omega, by go_num, Lib.hid (take_all hkl hal.out (by rw [← HCB.out]; exact HL.out))⟩
        case measure => simp [intOf]; omega
      · have d0 : decide (x < 97) = true := by simp; omega
        have d1 : decide (122 < x) = false := by simp; omega
        have d2 : decide (x < 48) = true := by simp; omega
        have d3 : decide (57 < x) = false := by simp; omega
        have d4 : decide (97 ≤ x) = false := by simp; omega
        have d5 : decide (x ≤ 122) = true := by simp; omega
        have d6 : decide (48 ≤ x) = false := by simp; omega
        have d7 : decide (x ≤ 57) = true := by simp; omega
        have d8 : (x != 45) = true := by simp; omega
        have d9 : (x != 46) = false := by simp; omega
        have d10 : (x == 45) = false := by simp; omega
        have d11 : (x == 46) = true := by simp; omega
        have d12 : decide (x = 45) = false := by simp; omega
        have d13 : decide (x = 46) = true := by simp; omega
        have HL : Hid (letB cb = true) := Lib.hid (by unfold letB; have := HX.out; simp; omega)
        clear HR hc
        go_wp2_with ((with_reducible refine sl 21 ?_); go_must (refine wpL_index rfl (.tmp 19) (.tmp 20) rfl _ _ rfl rfl (.int .u8 x) HI.out ?_); simp only [PT])
        go_round
        case rel => exact ⟨k + 1, by omega, by go_num, Lib.hid (take_all hkl hal.out (by rw [← HCB.out]; exact HL.out))⟩
        case measure => simp [intOf]; omega
      · have d0 : decide (x < 97) = true := by simp; omega
        have d1 : decide (122 < x) = false := by simp; omega
        have d2 : decide (x < 48) = true := by simp; omega
        have d3 : decide (57 < x) = false := by simp; omega
        have d4 : decide (97 ≤ x) = false := by simp; omega
        have d5 : decide (x ≤ 122) = true := by simp; omega
        have d6 : decide (48 ≤ x) = false := by simp; omega
        have d7 : decide (x ≤ 57) = true := by simp; omega
        have d8 : (x != 45) = true := by simp; omega
        have d9 : (x != 46) = true := by simp; omega
        have d10 : (x == 45) = false := by simp; omega
        have d11 : (x == 46) = false := by simp; omega
        have d12 : decide (x = 45) = false := by simp; omega
        have d13 : decide (x = 46) = false := by simp; omega
        have HRR : Hid (R = false) := Lib.hid (by rw [HR.out]; refine nameB_bad hkl ?_; rw [← HCB.out]; unfold letB; have := HX.out; simp; omega)
        clear HR hc
        go_wp2_with ((with_reducible refine sl 21 ?_); go_must (refine wpL_index rfl (.tmp 19) (.tmp 20) rfl _ _ rfl rfl (.int .u8 x) HI.out ?_); simp only [PT])
        go_ret
        rw [HRR.out]
        exact ⟨rfl, rfl⟩
      · have d0 : decide (x < 97) = true := by simp; omega
        have d1 : decide (122 < x) = false := by simp; omega
        have d2 : decide (x < 48) = false := by simp; omega
        have d3 : decide (57 < x) = false := by simp; omega
        have d4 : decide (97 ≤ x) = false := by simp; omega
        have d5 : decide (x ≤ 122) = true := by simp; omega
        have d6 : decide (48 ≤ x) = true := by simp; omega
        have d7 : decide (x ≤ 57) = true := by simp; omega
        have d8 : (x != 45) = true := by simp; omega
        have d9 : (x != 46) = true := by simp; omega
        have d10 : (x == 45) = false := by simp; omega
        have d11 : (x == 46) = false := by simp; omega
        have d12 : decide (x = 45) = false := by simp; omega
        have d13 : decide (x = 46) = false := by simp; omega
        have HL : Hid (letB cb = true) := Lib.hid (by unfold letB; have := HX.out; simp; omega)
        clear HR hc
        go_wp2_with ((with_reducible refine sl 21 ?_); go_must (refine wpL_index rfl (.tmp 19) (.tmp 20) rfl _ _ rfl rfl (.int .u8 x) HI.out ?_); simp only [PT])
        go_round
        case rel => exact ⟨k + 1, by omega, by go_num, Lib.hid (take_all hkl hal.out (by rw [← HCB.out]; exact HL.out))⟩
        case measure => simp [intOf]; omega
      · have d0 : decide (x < 97) = true := by simp; omega
        have d1 : decide (122 < x) = false := by simp; omega
        have d2 : decide (x < 48) = false := by simp; omega
        have d3 : decide (57 < x) = true := by simp; omega
        have d4 : decide (97 ≤ x) = false := by simp; omega
        have d5 : decide (x ≤ 122) = true := by simp; omega
        have d6 : decide (48 ≤ x) = true := by simp; omega
        have d7 : decide (x ≤ 57) = false := by simp; omega
        have d8 : (x != 45) = true := by simp; omega
        have d9 : (x != 46) = true := by simp; omega
        have d10 : (x == 45) = false := by simp; omega
        have d11 : (x == 46) = false := by simp; omega
        have d12 : decide (x = 45) = false := by simp; omega
        have d13 : decide (x = 46) = false := by simp; omega
        have HRR : Hid (R = false) := Lib.hid (by rw [HR.out]; refine nameB_bad hkl ?_; rw [← HCB.out]; unfold letB; have := HX.out; simp; omega)
        clear HR hc
        go_wp2_with ((with_reducible refine sl 21 ?_); go_must (refine wpL_index rfl (.tmp 19) (.tmp 20) rfl _ _ rfl rfl (.int .u8 x) HI.out ?_); simp only [PT])
        go_ret
        rw [HRR.out]
        exact ⟨rfl, rfl⟩
      · have d0 : decide (x < 97) = false := by simp; omega
        have d1 : decide (122 < x) = false := by simp; omega
        have d2 : decide (x < 48) = false := by simp; omega
        have d3 : decide (57 < x) = true := by simp; omega
        have d4 : decide (97 ≤ x) = true := by simp; omega
        have d5 : decide (x ≤ 122) = true := by simp; omega
        have d6 : decide (48 ≤ x) = true := by simp; omega
        have d7 : decide (x ≤ 57) = false := by simp; omega
        have d8 : (x != 45) = true := by simp; omega
        have d9 : (x != 46) = true := by simp; omega
        have d10 : (x == 45) = false := by simp; omega
        have d11 : (x == 46) = false := by simp; omega
        have d12 : decide (x = 45) = false := by simp; omega
        have d13 : decide (x = 46) = false := by simp; omega
        have HL : Hid (letB cb = true) := Lib.hid (by unfold letB; have := HX.out; simp; omega)
        clear HR hc
        go_wp2_with ((with_reducible refine sl 21 ?_); go_must (refine wpL_index rfl (.tmp 19) (.tmp 20) rfl _ _ rfl rfl (.int .u8 x) HI.out ?_); simp only [PT])
        go_round
        case rel => exact ⟨k + 1, by omega, by go_num, Lib.hid (take_all hkl hal.out (by rw [← HCB.out]; exact HL.out))⟩
        case measure => simp [intOf]; omega
      · have d0 : decide (x < 97) = false := by simp; omega
        have d1 : decide (122 < x) = true := by simp; omega
        have d2 : decide (x < 48) = false := by simp; omega
        have d3 : decide (57 < x) = true := by simp; omega
        have d4 : decide (97 ≤ x) = true := by simp; omega
        have d5 : decide (x ≤ 122) = false := by simp; omega
        have d6 : decide (48 ≤ x) = true := by simp; omega
        have d7 : decide (x ≤ 57) = false := by simp; omega
        have d8 : (x != 45) = true := by simp; omega
        have d9 : (x != 46) = true := by simp; omega
        have d10 : (x == 45) = false := by simp; omega
        have d11 : (x == 46) = false := by simp; omega
        have d12 : decide (x = 45) = false := by simp; omega
        have d13 : decide (x = 46) = false := by simp; omega
        have HRR : Hid (R = false) := Lib.hid (by rw [HR.out]; refine nameB_bad hkl ?_; rw [← HCB.out]; unfold letB; have := HX.out; simp; omega)
        clear HR hc
        go_wp2_with ((with_reducible refine sl 21 ?_); go_must (refine wpL_index rfl (.tmp 19) (.tmp 20) rfl _ _ rfl rfl (.int .u8 x) HI.out ?_); simp only [PT])
        go_ret
        rw [HRR.out]
        exact ⟨rfl, rfl⟩
    · obtain rfl : k = s.size := by omega
      have HA : Hid (s.data.toList.all letB = true) := Lib.hid (by have h := hal.out; rwa [List.take_of_length_le (by omega)] at h)
      clear hal
      have HRR : Hid (R = true) := Lib.hid (by rw [HR.out]; unfold nameB; rw [HA.out, decide_eq_true HZ.out.1, decide_eq_true HZ.out.2]; rfl)
      clear HR
      go_wp2_with fail
      go_ret
      rw [HRR.out]
      exact ⟨rfl, rfl⟩
end Go.Proofs.Ytgpdlhbndoeldaa
/-
  Chapter 21: the document's side of tuples, which flows are right: walked (written by gen/flo5.py).
-/
namespace Go.Proofs.Ytgpdlhbndoeldaa
open Go.RowKit Go.Sort
set_option linter.unusedVariables false
set_option linter.unusedSimpArgs false
set_option maxRecDepth 100000
set_option maxHeartbeats 4000000


theorem all_take {l : List UInt8} (hl : l.length = 16) {j : Nat} (hj : j < 16) (h4 : 4 ≤ j) (h : ((l.drop 4).take (j - 4)).all (· == 0) = true) (hz : at8 l j = 0) : ((l.drop 4).take (j + 1 - 4)).all (· == 0) = true := by
  have e : j + 1 - 4 = (j - 4) + 1 := by omega
  have hk : j - 4 < (l.drop 4).length := by rw [List.length_drop]; omega
  rw [e]
  refine take_all hk h ?_
  rw [List.getElem_drop, ← at8_get l (4 + (j - 4)) (by omega), show 4 + (j - 4) = j by omega, hz]
  rfl
theorem all_bad {l : List UInt8} (hl : l.length = 16) {j : Nat} (hj : j < 16) (h4 : 4 ≤ j) (hz : at8 l j ≠ 0) : (l.drop 4).all (· == 0) = false := by
  rw [List.all_eq_false]
  refine ⟨at8 l j, ?_, by simpa using hz⟩
  rw [at8_get l j (by omega), List.mem_iff_getElem]
  exact ⟨j - 4, by rw [List.length_drop]; omega, by rw [List.getElem_drop]; congr 1; omega⟩
theorem addr_cell {w : World} {g : Nat} {six : Bool} {b : List UInt8} {T : TypeId} {fz : Nat × Nat} (h : w.heap[g]? = some (.cells (addrC six b).toArray T fz)) (hb : b.length = 16) (j : Nat) (hj : j < 16) : w.cell? ⟨g, 1 + j, none⟩ = some (.int .u8 ((at8 b j).toNat : Int)) := by
  rw [cells_get h, addrC, Nat.add_comm, List.getElem?_cons_succ, List.getElem?_eq_getElem (by rw [BV_length, hb]; exact hj), BV_get, at8_get b j (by rw [hb]; exact hj)]
theorem short_any (six : Bool) (b : List UInt8) (hb : b.length = 16) (w : World) :
    Calls Try.prog 48 #[.agg (addrC six b).toArray] w fun e w' => e = .returned (.bool ((b.drop 4).all (· == 0) && !six)) ∧ Below w.heap.size w w' := by
  have HB := Lib.hid (Below.refl w.heap.size w)
  have HL := Lib.hid hb
  obtain ⟨R, hR⟩ : ∃ R, R = ((b.drop 4).all (· == 0) && !six) := ⟨_, rfl⟩
  rw [← hR]
  have HR := Lib.hid hR
  clear hb hR
  go_enter Try.func48, Try.ntmps48
  go_wp2_with ((with_reducible refine sl 1 ?_); go_must (refine wpL_boxG rfl 24 (.tmp 0) rfl (addrC six b).toArray rfl ?_); intro w1 g he__ le_g lt_g hg__ hb__; have HG := Lib.hid hg__; have hE__ := cU HB bup hb__; replace HB := ck HB hE__; clear hE__; clear hg__ hb__ he__; simp only [PT])
  go_loop [3] (fun i => ∃ j : Nat, 4 ≤ j ∧ j ≤ 16 ∧ i = .int .i64 j ∧ Hid (((b.drop 4).take (j - 4)).all (· == 0) = true)) (fun i => 17 - (intOf i).toNat)
  case atStart => exact ⟨4, Nat.le_refl _, by omega, rfl, Lib.hid (by simp)⟩
  case round =>
    obtain ⟨j, h4, h16, rfl, hal⟩ := hrel
    by_cases hlt : (j : Int) < 16
    · have hj : j < 16 := by omega
      have hc := addr_cell HG.out HL.out j hj
      obtain ⟨cb, hcb⟩ : ∃ cb, cb = at8 b j := ⟨_, rfl⟩
      rw [← hcb] at hc
      have HCB := Lib.hid hcb
      clear hcb
      rcases Decidable.em (cb = 0) with hz | hz
      · subst hz
        have HT := Lib.hid (all_take HL.out hj h4 hal.out HCB.out.symm)
        clear hal
        go_wp2_with fail
        go_round
        case rel => exact ⟨j + 1, by omega, by omega, by go_num, HT⟩
        case measure => simp [intOf]; omega
      · have hn : ((cb.toNat : Int) != 0) = true := by
          have : cb.toNat ≠ 0 := fun h => hz (UInt8.toNat_inj.1 (by rw [h]; rfl))
          simp; omega
        have HRR : Hid (R = false) := Lib.hid (by rw [HR.out, all_bad HL.out hj h4 (by rw [← HCB.out]; exact hz)]; rfl)
        clear hal HR
        go_wp2_with fail
        go_ret
        rw [HRR.out]
        exact ⟨rfl, HB.out⟩
    · obtain rfl : j = 16 := by omega
      have HT : Hid ((b.drop 4).all (· == 0) = true) := Lib.hid (by have h := hal.out; rwa [List.take_of_length_le (by rw [List.length_drop, HL.out]; omega)] at h)
      clear hal
      have HRR : Hid (R = !six) := Lib.hid (by rw [HR.out, HT.out]; rfl)
      clear HR
      rw [show ((16 : Nat) : Int) = 16 from rfl]
      clear hlt
      go_wp2_with ((with_reducible refine sl 14 ?_); refine wpL_loadF rfl 4 (.tmp 13) rfl g 0 rfl (.bool six) HG.out rfl Try.underlying4 rfl ?_; simp only [PT])
      go_ret
      rw [HRR.out]
      exact ⟨rfl, HB.out⟩
theorem refKnown_any (t : Tup) (ho : t.ok) (w : World) :
    Calls Try.prog 34 #[.agg t.cells.toArray] w fun e w' => e = .returned (.bool (knownT t)) ∧ Below w.heap.size w w' := by
  have HB := Lib.hid (Below.refl w.heap.size w)
  have HA := Lib.hid (Tup.geta ho)
  have HS := Lib.hid (Tup.src ho)
  have HD := Lib.hid (Tup.dst ho)
  have HL := Lib.hid ho
  have HI1 : Hid ((Try.prog.info? 24).map (·.size) = some (addrC t.s6 t.sb).length) := Lib.hid (by rw [addrC_length ho.1]; exact addr_size)
  have HI2 : Hid ((Try.prog.info? 24).map (·.size) = some (addrC t.d6 t.db).length) := Lib.hid (by rw [addrC_length ho.2]; exact addr_size)
  obtain ⟨R, hR⟩ : ∃ R, R = knownT t := ⟨_, rfl⟩
  rw [← hR]
  unfold knownT at hR
  obtain ⟨z1, hz1⟩ : ∃ z, z = (t.sb.drop 4).all (· == 0) := ⟨_, rfl⟩
  obtain ⟨z2, hz2⟩ : ∃ z, z = (t.db.drop 4).all (· == 0) := ⟨_, rfl⟩
  unfold fitsB at hR
  rw [← hz1, ← hz2] at hR
  have HZ1 := Lib.hid hz1
  have HZ2 := Lib.hid hz2
  clear ho hz1 hz2
  obtain ⟨s6, hs6⟩ : ∃ s6, s6 = t.s6 := ⟨_, rfl⟩
  obtain ⟨d6, hd6⟩ : ∃ d6, d6 = t.d6 := ⟨_, rfl⟩
  rw [← hs6] at hR HS HI1
  rw [← hd6] at hR HD HI2
  rw [← hs6, ← hd6] at HA
  have HS6 := Lib.hid hs6
  have HD6 := Lib.hid hd6
  clear hs6 hd6
  go_enter Try.func34, Try.ntmps34
  rcases two s6 with rfl | rfl <;> rcases two d6 with rfl | rfl
  · simp only [Bool.true_or, Bool.or_self, Bool.false_or, beq_self_eq_true, Bool.true_and] at hR
    rcases two (decide (0 ≤ t.proto)) with h0 | h0
    rotate_left
    · have HR : Hid (R = false) := Lib.hid (by rw [hR]; simp only [h0, Bool.and_false, Bool.false_and, Bool.true_and])
      clear hR
      go_wp2_with (first
        | ((with_reducible refine sl 1 ?_); go_must (refine wpL_boxG rfl 26 (.tmp 0) rfl t.cells.toArray rfl ?_); intro w1 g he__ le_g lt_g hg__ hb__; have HG := Lib.hid hg__; have hE__ := cU HB bup hb__; replace HB := ck HB hE__; clear hE__; clear hg__ hb__ he__; simp only [PT])
        | ((with_reducible refine sl 5 ?_); go_must (refine wpL_loadF rfl 4 (.tmp 4) rfl g 0 rfl (.bool true) HG.out HA.out.1 Try.underlying4 rfl ?_); simp only [PT])
        | ((with_reducible refine sl 8 ?_); go_must (refine wpL_loadF rfl 4 (.tmp 7) rfl g 17 rfl (.bool true) HG.out HA.out.2.1 Try.underlying4 rfl ?_); simp only [PT])
        | ((with_reducible refine sl 13 ?_); refine wpL_loadF rfl 4 (.tmp 12) rfl g 0 rfl (.bool true) HG.out HA.out.1 Try.underlying4 rfl ?_; simp only [PT])
        | ((with_reducible refine sl 17 ?_); refine wpL_load rfl 24 (.tmp 16) rfl g 0 rfl (addrC true t.sb) _ (range_sub HG.out HS.out) Try.underlying24 rfl HI1.out ?_; simp only [PT])
        | ((with_reducible refine sl 21 ?_); refine wpL_load rfl 24 (.tmp 20) rfl g 17 rfl (addrC true t.db) _ (range_sub HG.out HD.out) Try.underlying24 rfl HI2.out ?_; simp only [PT])
        | (go_at_call 48; (with_reducible show Calls _ _ #[.agg (addrC true t.sb).toArray] _ _); refine (short_any true t.sb HL.out.1 _).mono ?_; rw [← HZ1.out]; rintro e w2 ⟨rfl, hb2⟩; have hE__ := cU HB bup hb2; replace HB := ck HB hE__; replace HG := ck HG hE__; clear hE__; clear hb2)
        | (go_at_call 48; (with_reducible show Calls _ _ #[.agg (addrC true t.db).toArray] _ _); refine (short_any true t.db HL.out.2 _).mono ?_; rw [← HZ2.out]; rintro e w3 ⟨rfl, hb3⟩; have hE__ := cU HB bup hb3; replace HB := ck HB hE__; replace HG := ck HG hE__; clear hE__; clear hb3)
        | ((with_reducible refine sl 28 ?_); refine wpL_loadF rfl 3 (.tmp 27) rfl g 34 rfl (.int .i64 t.proto) HG.out HA.out.2.2.1 Try.underlying3 rfl ?_; simp only [PT])
        | ((with_reducible refine sl 32 ?_); refine wpL_loadF rfl 3 (.tmp 31) rfl g 34 rfl (.int .i64 t.proto) HG.out HA.out.2.2.1 Try.underlying3 rfl ?_; simp only [PT])
        | ((with_reducible refine sl 37 ?_); refine wpL_loadF rfl 3 (.tmp 36) rfl g 35 rfl (.int .i64 t.sport) HG.out HA.out.2.2.2.1 Try.underlying3 rfl ?_; simp only [PT])
        | ((with_reducible refine sl 42 ?_); refine wpL_loadF rfl 3 (.tmp 41) rfl g 35 rfl (.int .i64 t.sport) HG.out HA.out.2.2.2.1 Try.underlying3 rfl ?_; simp only [PT])
        | ((with_reducible refine sl 47 ?_); refine wpL_loadF rfl 3 (.tmp 46) rfl g 36 rfl (.int .i64 t.dport) HG.out HA.out.2.2.2.2 Try.underlying3 rfl ?_; simp only [PT])
        | ((with_reducible refine sl 52 ?_); refine wpL_loadF rfl 3 (.tmp 51) rfl g 36 rfl (.int .i64 t.dport) HG.out HA.out.2.2.2.2 Try.underlying3 rfl ?_; simp only [PT]))
      go_ret
      rw [HR.out]
      exact ⟨rfl, HB.out⟩
    rcases two (decide (t.proto ≤ 255)) with h1 | h1
    rotate_left
    · have HR : Hid (R = false) := Lib.hid (by rw [hR]; simp only [h0, h1, Bool.and_false, Bool.false_and, Bool.true_and])
      clear hR
      go_wp2_with (first
        | ((with_reducible refine sl 1 ?_); go_must (refine wpL_boxG rfl 26 (.tmp 0) rfl t.cells.toArray rfl ?_); intro w1 g he__ le_g lt_g hg__ hb__; have HG := Lib.hid hg__; have hE__ := cU HB bup hb__; replace HB := ck HB hE__; clear hE__; clear hg__ hb__ he__; simp only [PT])
        | ((with_reducible refine sl 5 ?_); go_must (refine wpL_loadF rfl 4 (.tmp 4) rfl g 0 rfl (.bool true) HG.out HA.out.1 Try.underlying4 rfl ?_); simp only [PT])
        | ((with_reducible refine sl 8 ?_); go_must (refine wpL_loadF rfl 4 (.tmp 7) rfl g 17 rfl (.bool true) HG.out HA.out.2.1 Try.underlying4 rfl ?_); simp only [PT])
        | ((with_reducible refine sl 13 ?_); refine wpL_loadF rfl 4 (.tmp 12) rfl g 0 rfl (.bool true) HG.out HA.out.1 Try.underlying4 rfl ?_; simp only [PT])
        | ((with_reducible refine sl 17 ?_); refine wpL_load rfl 24 (.tmp 16) rfl g 0 rfl (addrC true t.sb) _ (range_sub HG.out HS.out) Try.underlying24 rfl HI1.out ?_; simp only [PT])
        | ((with_reducible refine sl 21 ?_); refine wpL_load rfl 24 (.tmp 20) rfl g 17 rfl (addrC true t.db) _ (range_sub HG.out HD.out) Try.underlying24 rfl HI2.out ?_; simp only [PT])
        | (go_at_call 48; (with_reducible show Calls _ _ #[.agg (addrC true t.sb).toArray] _ _); refine (short_any true t.sb HL.out.1 _).mono ?_; rw [← HZ1.out]; rintro e w2 ⟨rfl, hb2⟩; have hE__ := cU HB bup hb2; replace HB := ck HB hE__; replace HG := ck HG hE__; clear hE__; clear hb2)
        | (go_at_call 48; (with_reducible show Calls _ _ #[.agg (addrC true t.db).toArray] _ _); refine (short_any true t.db HL.out.2 _).mono ?_; rw [← HZ2.out]; rintro e w3 ⟨rfl, hb3⟩; have hE__ := cU HB bup hb3; replace HB := ck HB hE__; replace HG := ck HG hE__; clear hE__; clear hb3)
        | ((with_reducible refine sl 28 ?_); refine wpL_loadF rfl 3 (.tmp 27) rfl g 34 rfl (.int .i64 t.proto) HG.out HA.out.2.2.1 Try.underlying3 rfl ?_; simp only [PT])
        | ((with_reducible refine sl 32 ?_); refine wpL_loadF rfl 3 (.tmp 31) rfl g 34 rfl (.int .i64 t.proto) HG.out HA.out.2.2.1 Try.underlying3 rfl ?_; simp only [PT])
        | ((with_reducible refine sl 37 ?_); refine wpL_loadF rfl 3 (.tmp 36) rfl g 35 rfl (.int .i64 t.sport) HG.out HA.out.2.2.2.1 Try.underlying3 rfl ?_; simp only [PT])
        | ((with_reducible refine sl 42 ?_); refine wpL_loadF rfl 3 (.tmp 41) rfl g 35 rfl (.int .i64 t.sport) HG.out HA.out.2.2.2.1 Try.underlying3 rfl ?_; simp only [PT])
        | ((with_reducible refine sl 47 ?_); refine wpL_loadF rfl 3 (.tmp 46) rfl g 36 rfl (.int .i64 t.dport) HG.out HA.out.2.2.2.2 Try.underlying3 rfl ?_; simp only [PT])
        | ((with_reducible refine sl 52 ?_); refine wpL_loadF rfl 3 (.tmp 51) rfl g 36 rfl (.int .i64 t.dport) HG.out HA.out.2.2.2.2 Try.underlying3 rfl ?_; simp only [PT]))
      go_ret
      rw [HR.out]
      exact ⟨rfl, HB.out⟩
    rcases two (decide (0 ≤ t.sport)) with h2 | h2
    rotate_left
    · have HR : Hid (R = false) := Lib.hid (by rw [hR]; simp only [h0, h1, h2, Bool.and_false, Bool.false_and, Bool.true_and])
      clear hR
      go_wp2_with (first
        | ((with_reducible refine sl 1 ?_); go_must (refine wpL_boxG rfl 26 (.tmp 0) rfl t.cells.toArray rfl ?_); intro w1 g he__ le_g lt_g hg__ hb__; have HG := Lib.hid hg__; have hE__ := cU HB bup hb__; replace HB := ck HB hE__; clear hE__; clear hg__ hb__ he__; simp only [PT])
        | ((with_reducible refine sl 5 ?_); go_must (refine wpL_loadF rfl 4 (.tmp 4) rfl g 0 rfl (.bool true) HG.out HA.out.1 Try.underlying4 rfl ?_); simp only [PT])
        | ((with_reducible refine sl 8 ?_); go_must (refine wpL_loadF rfl 4 (.tmp 7) rfl g 17 rfl (.bool true) HG.out HA.out.2.1 Try.underlying4 rfl ?_); simp only [PT])
        | ((with_reducible refine sl 13 ?_); refine wpL_loadF rfl 4 (.tmp 12) rfl g 0 rfl (.bool true) HG.out HA.out.1 Try.underlying4 rfl ?_; simp only [PT])
        | ((with_reducible refine sl 17 ?_); refine wpL_load rfl 24 (.tmp 16) rfl g 0 rfl (addrC true t.sb) _ (range_sub HG.out HS.out) Try.underlying24 rfl HI1.out ?_; simp only [PT])
        | ((with_reducible refine sl 21 ?_); refine wpL_load rfl 24 (.tmp 20) rfl g 17 rfl (addrC true t.db) _ (range_sub HG.out HD.out) Try.underlying24 rfl HI2.out ?_; simp only [PT])
        | (go_at_call 48; (with_reducible show Calls _ _ #[.agg (addrC true t.sb).toArray] _ _); refine (short_any true t.sb HL.out.1 _).mono ?_; rw [← HZ1.out]; rintro e w2 ⟨rfl, hb2⟩; have hE__ := cU HB bup hb2; replace HB := ck HB hE__; replace HG := ck HG hE__; clear hE__; clear hb2)
        | (go_at_call 48; (with_reducible show Calls _ _ #[.agg (addrC true t.db).toArray] _ _); refine (short_any true t.db HL.out.2 _).mono ?_; rw [← HZ2.out]; rintro e w3 ⟨rfl, hb3⟩; have hE__ := cU HB bup hb3; replace HB := ck HB hE__; replace HG := ck HG hE__; clear hE__; clear hb3)
        | ((with_reducible refine sl 28 ?_); refine wpL_loadF rfl 3 (.tmp 27) rfl g 34 rfl (.int .i64 t.proto) HG.out HA.out.2.2.1 Try.underlying3 rfl ?_; simp only [PT])
        | ((with_reducible refine sl 32 ?_); refine wpL_loadF rfl 3 (.tmp 31) rfl g 34 rfl (.int .i64 t.proto) HG.out HA.out.2.2.1 Try.underlying3 rfl ?_; simp only [PT])
        | ((with_reducible refine sl 37 ?_); refine wpL_loadF rfl 3 (.tmp 36) rfl g 35 rfl (.int .i64 t.sport) HG.out HA.out.2.2.2.1 Try.underlying3 rfl ?_; simp only [PT])
        | ((with_reducible refine sl 42 ?_); refine wpL_loadF rfl 3 (.tmp 41) rfl g 35 rfl (.int .i64 t.sport) HG.out HA.out.2.2.2.1 Try.underlying3 rfl ?_; simp only [PT])
        | ((with_reducible refine sl 47 ?_); refine wpL_loadF rfl 3 (.tmp 46) rfl g 36 rfl (.int .i64 t.dport) HG.out HA.out.2.2.2.2 Try.underlying3 rfl ?_; simp only [PT])
        | ((with_reducible refine sl 52 ?_); refine wpL_loadF rfl 3 (.tmp 51) rfl g 36 rfl (.int .i64 t.dport) HG.out HA.out.2.2.2.2 Try.underlying3 rfl ?_; simp only [PT]))
      go_ret
      rw [HR.out]
      exact ⟨rfl, HB.out⟩
    rcases two (decide (t.sport ≤ 65535)) with h3 | h3
    rotate_left
    · have HR : Hid (R = false) := Lib.hid (by rw [hR]; simp only [h0, h1, h2, h3, Bool.and_false, Bool.false_and, Bool.true_and])
      clear hR
      go_wp2_with (first
        | ((with_reducible refine sl 1 ?_); go_must (refine wpL_boxG rfl 26 (.tmp 0) rfl t.cells.toArray rfl ?_); intro w1 g he__ le_g lt_g hg__ hb__; have HG := Lib.hid hg__; have hE__ := cU HB bup hb__; replace HB := ck HB hE__; clear hE__; clear hg__ hb__ he__; simp only [PT])
        | ((with_reducible refine sl 5 ?_); go_must (refine wpL_loadF rfl 4 (.tmp 4) rfl g 0 rfl (.bool true) HG.out HA.out.1 Try.underlying4 rfl ?_); simp only [PT])
        | ((with_reducible refine sl 8 ?_); go_must (refine wpL_loadF rfl 4 (.tmp 7) rfl g 17 rfl (.bool true) HG.out HA.out.2.1 Try.underlying4 rfl ?_); simp only [PT])
        | ((with_reducible refine sl 13 ?_); refine wpL_loadF rfl 4 (.tmp 12) rfl g 0 rfl (.bool true) HG.out HA.out.1 Try.underlying4 rfl ?_; simp only [PT])
        | ((with_reducible refine sl 17 ?_); refine wpL_load rfl 24 (.tmp 16) rfl g 0 rfl (addrC true t.sb) _ (range_sub HG.out HS.out) Try.underlying24 rfl HI1.out ?_; simp only [PT])
        | ((with_reducible refine sl 21 ?_); refine wpL_load rfl 24 (.tmp 20) rfl g 17 rfl (addrC true t.db) _ (range_sub HG.out HD.out) Try.underlying24 rfl HI2.out ?_; simp only [PT])
        | (go_at_call 48; (with_reducible show Calls _ _ #[.agg (addrC true t.sb).toArray] _ _); refine (short_any true t.sb HL.out.1 _).mono ?_; rw [← HZ1.out]; rintro e w2 ⟨rfl, hb2⟩; have hE__ := cU HB bup hb2; replace HB := ck HB hE__; replace HG := ck HG hE__; clear hE__; clear hb2)
        | (go_at_call 48; (with_reducible show Calls _ _ #[.agg (addrC true t.db).toArray] _ _); refine (short_any true t.db HL.out.2 _).mono ?_; rw [← HZ2.out]; rintro e w3 ⟨rfl, hb3⟩; have hE__ := cU HB bup hb3; replace HB := ck HB hE__; replace HG := ck HG hE__; clear hE__; clear hb3)
        | ((with_reducible refine sl 28 ?_); refine wpL_loadF rfl 3 (.tmp 27) rfl g 34 rfl (.int .i64 t.proto) HG.out HA.out.2.2.1 Try.underlying3 rfl ?_; simp only [PT])
        | ((with_reducible refine sl 32 ?_); refine wpL_loadF rfl 3 (.tmp 31) rfl g 34 rfl (.int .i64 t.proto) HG.out HA.out.2.2.1 Try.underlying3 rfl ?_; simp only [PT])
        | ((with_reducible refine sl 37 ?_); refine wpL_loadF rfl 3 (.tmp 36) rfl g 35 rfl (.int .i64 t.sport) HG.out HA.out.2.2.2.1 Try.underlying3 rfl ?_; simp only [PT])
        | ((with_reducible refine sl 42 ?_); refine wpL_loadF rfl 3 (.tmp 41) rfl g 35 rfl (.int .i64 t.sport) HG.out HA.out.2.2.2.1 Try.underlying3 rfl ?_; simp only [PT])
        | ((with_reducible refine sl 47 ?_); refine wpL_loadF rfl 3 (.tmp 46) rfl g 36 rfl (.int .i64 t.dport) HG.out HA.out.2.2.2.2 Try.underlying3 rfl ?_; simp only [PT])
        | ((with_reducible refine sl 52 ?_); refine wpL_loadF rfl 3 (.tmp 51) rfl g 36 rfl (.int .i64 t.dport) HG.out HA.out.2.2.2.2 Try.underlying3 rfl ?_; simp only [PT]))
      go_ret
      rw [HR.out]
      exact ⟨rfl, HB.out⟩
    rcases two (decide (0 ≤ t.dport)) with h4 | h4
    rotate_left
    · have HR : Hid (R = false) := Lib.hid (by rw [hR]; simp only [h0, h1, h2, h3, h4, Bool.and_false, Bool.false_and, Bool.true_and])
      clear hR
      go_wp2_with (first
        | ((with_reducible refine sl 1 ?_); go_must (refine wpL_boxG rfl 26 (.tmp 0) rfl t.cells.toArray rfl ?_); intro w1 g he__ le_g lt_g hg__ hb__; have HG := Lib.hid hg__; have hE__ := cU HB bup hb__; replace HB := ck HB hE__; clear hE__; clear hg__ hb__ he__; simp only [PT])
        | ((with_reducible refine sl 5 ?_); go_must (refine wpL_loadF rfl 4 (.tmp 4) rfl g 0 rfl (.bool true) HG.out HA.out.1 Try.underlying4 rfl ?_); simp only [PT])
        | ((with_reducible refine sl 8 ?_); go_must (refine wpL_loadF rfl 4 (.tmp 7) rfl g 17 rfl (.bool true) HG.out HA.out.2.1 Try.underlying4 rfl ?_); simp only [PT])
        | ((with_reducible refine sl 13 ?_); refine wpL_loadF rfl 4 (.tmp 12) rfl g 0 rfl (.bool true) HG.out HA.out.1 Try.underlying4 rfl ?_; simp only [PT])
        | ((with_reducible refine sl 17 ?_); refine wpL_load rfl 24 (.tmp 16) rfl g 0 rfl (addrC true t.sb) _ (range_sub HG.out HS.out) Try.underlying24 rfl HI1.out ?_; simp only [PT])
        | ((with_reducible refine sl 21 ?_); refine wpL_load rfl 24 (.tmp 20) rfl g 17 rfl (addrC true t.db) _ (range_sub HG.out HD.out) Try.underlying24 rfl HI2.out ?_; simp only [PT])
        | (go_at_call 48; (with_reducible show Calls _ _ #[.agg (addrC true t.sb).toArray] _ _); refine (short_any true t.sb HL.out.1 _).mono ?_; rw [← HZ1.out]; rintro e w2 ⟨rfl, hb2⟩; have hE__ := cU HB bup hb2; replace HB := ck HB hE__; replace HG := ck HG hE__; clear hE__; clear hb2)
        | (go_at_call 48; (with_reducible show Calls _ _ #[.agg (addrC true t.db).toArray] _ _); refine (short_any true t.db HL.out.2 _).mono ?_; rw [← HZ2.out]; rintro e w3 ⟨rfl, hb3⟩; have hE__ := cU HB bup hb3; replace HB := ck HB hE__; replace HG := ck HG hE__; clear hE__; clear hb3)
        | ((with_reducible refine sl 28 ?_); refine wpL_loadF rfl 3 (.tmp 27) rfl g 34 rfl (.int .i64 t.proto) HG.out HA.out.2.2.1 Try.underlying3 rfl ?_; simp only [PT])
        | ((with_reducible refine sl 32 ?_); refine wpL_loadF rfl 3 (.tmp 31) rfl g 34 rfl (.int .i64 t.proto) HG.out HA.out.2.2.1 Try.underlying3 rfl ?_; simp only [PT])
        | ((with_reducible refine sl 37 ?_); refine wpL_loadF rfl 3 (.tmp 36) rfl g 35 rfl (.int .i64 t.sport) HG.out HA.out.2.2.2.1 Try.underlying3 rfl ?_; simp only [PT])
        | ((with_reducible refine sl 42 ?_); refine wpL_loadF rfl 3 (.tmp 41) rfl g 35 rfl (.int .i64 t.sport) HG.out HA.out.2.2.2.1 Try.underlying3 rfl ?_; simp only [PT])
        | ((with_reducible refine sl 47 ?_); refine wpL_loadF rfl 3 (.tmp 46) rfl g 36 rfl (.int .i64 t.dport) HG.out HA.out.2.2.2.2 Try.underlying3 rfl ?_; simp only [PT])
        | ((with_reducible refine sl 52 ?_); refine wpL_loadF rfl 3 (.tmp 51) rfl g 36 rfl (.int .i64 t.dport) HG.out HA.out.2.2.2.2 Try.underlying3 rfl ?_; simp only [PT]))
      go_ret
      rw [HR.out]
      exact ⟨rfl, HB.out⟩
    rcases two (decide (t.dport ≤ 65535)) with h5 | h5
    rotate_left
    · have HR : Hid (R = false) := Lib.hid (by rw [hR]; simp only [h0, h1, h2, h3, h4, h5, Bool.and_false, Bool.false_and, Bool.true_and])
      clear hR
      go_wp2_with (first
        | ((with_reducible refine sl 1 ?_); go_must (refine wpL_boxG rfl 26 (.tmp 0) rfl t.cells.toArray rfl ?_); intro w1 g he__ le_g lt_g hg__ hb__; have HG := Lib.hid hg__; have hE__ := cU HB bup hb__; replace HB := ck HB hE__; clear hE__; clear hg__ hb__ he__; simp only [PT])
        | ((with_reducible refine sl 5 ?_); go_must (refine wpL_loadF rfl 4 (.tmp 4) rfl g 0 rfl (.bool true) HG.out HA.out.1 Try.underlying4 rfl ?_); simp only [PT])
        | ((with_reducible refine sl 8 ?_); go_must (refine wpL_loadF rfl 4 (.tmp 7) rfl g 17 rfl (.bool true) HG.out HA.out.2.1 Try.underlying4 rfl ?_); simp only [PT])
        | ((with_reducible refine sl 13 ?_); refine wpL_loadF rfl 4 (.tmp 12) rfl g 0 rfl (.bool true) HG.out HA.out.1 Try.underlying4 rfl ?_; simp only [PT])
        | ((with_reducible refine sl 17 ?_); refine wpL_load rfl 24 (.tmp 16) rfl g 0 rfl (addrC true t.sb) _ (range_sub HG.out HS.out) Try.underlying24 rfl HI1.out ?_; simp only [PT])
        | ((with_reducible refine sl 21 ?_); refine wpL_load rfl 24 (.tmp 20) rfl g 17 rfl (addrC true t.db) _ (range_sub HG.out HD.out) Try.underlying24 rfl HI2.out ?_; simp only [PT])
        | (go_at_call 48; (with_reducible show Calls _ _ #[.agg (addrC true t.sb).toArray] _ _); refine (short_any true t.sb HL.out.1 _).mono ?_; rw [← HZ1.out]; rintro e w2 ⟨rfl, hb2⟩; have hE__ := cU HB bup hb2; replace HB := ck HB hE__; replace HG := ck HG hE__; clear hE__; clear hb2)
        | (go_at_call 48; (with_reducible show Calls _ _ #[.agg (addrC true t.db).toArray] _ _); refine (short_any true t.db HL.out.2 _).mono ?_; rw [← HZ2.out]; rintro e w3 ⟨rfl, hb3⟩; have hE__ := cU HB bup hb3; replace HB := ck HB hE__; replace HG := ck HG hE__; clear hE__; clear hb3)
        | ((with_reducible refine sl 28 ?_); refine wpL_loadF rfl 3 (.tmp 27) rfl g 34 rfl (.int .i64 t.proto) HG.out HA.out.2.2.1 Try.underlying3 rfl ?_; simp only [PT])
        | ((with_reducible refine sl 32 ?_); refine wpL_loadF rfl 3 (.tmp 31) rfl g 34 rfl (.int .i64 t.proto) HG.out HA.out.2.2.1 Try.underlying3 rfl ?_; simp only [PT])
        | ((with_reducible refine sl 37 ?_); refine wpL_loadF rfl 3 (.tmp 36) rfl g 35 rfl (.int .i64 t.sport) HG.out HA.out.2.2.2.1 Try.underlying3 rfl ?_; simp only [PT])
        | ((with_reducible refine sl 42 ?_); refine wpL_loadF rfl 3 (.tmp 41) rfl g 35 rfl (.int .i64 t.sport) HG.out HA.out.2.2.2.1 Try.underlying3 rfl ?_; simp only [PT])
        | ((with_reducible refine sl 47 ?_); refine wpL_loadF rfl 3 (.tmp 46) rfl g 36 rfl (.int .i64 t.dport) HG.out HA.out.2.2.2.2 Try.underlying3 rfl ?_; simp only [PT])
        | ((with_reducible refine sl 52 ?_); refine wpL_loadF rfl 3 (.tmp 51) rfl g 36 rfl (.int .i64 t.dport) HG.out HA.out.2.2.2.2 Try.underlying3 rfl ?_; simp only [PT]))
      go_ret
      rw [HR.out]
      exact ⟨rfl, HB.out⟩
    have HR : Hid (R = true) := Lib.hid (by rw [hR]; simp only [h0, h1, h2, h3, h4, h5, Bool.true_and])
    clear hR
    go_wp2_with (first
      | ((with_reducible refine sl 1 ?_); go_must (refine wpL_boxG rfl 26 (.tmp 0) rfl t.cells.toArray rfl ?_); intro w1 g he__ le_g lt_g hg__ hb__; have HG := Lib.hid hg__; have hE__ := cU HB bup hb__; replace HB := ck HB hE__; clear hE__; clear hg__ hb__ he__; simp only [PT])
      | ((with_reducible refine sl 5 ?_); go_must (refine wpL_loadF rfl 4 (.tmp 4) rfl g 0 rfl (.bool true) HG.out HA.out.1 Try.underlying4 rfl ?_); simp only [PT])
      | ((with_reducible refine sl 8 ?_); go_must (refine wpL_loadF rfl 4 (.tmp 7) rfl g 17 rfl (.bool true) HG.out HA.out.2.1 Try.underlying4 rfl ?_); simp only [PT])
      | ((with_reducible refine sl 13 ?_); refine wpL_loadF rfl 4 (.tmp 12) rfl g 0 rfl (.bool true) HG.out HA.out.1 Try.underlying4 rfl ?_; simp only [PT])
      | ((with_reducible refine sl 17 ?_); refine wpL_load rfl 24 (.tmp 16) rfl g 0 rfl (addrC true t.sb) _ (range_sub HG.out HS.out) Try.underlying24 rfl HI1.out ?_; simp only [PT])
      | ((with_reducible refine sl 21 ?_); refine wpL_load rfl 24 (.tmp 20) rfl g 17 rfl (addrC true t.db) _ (range_sub HG.out HD.out) Try.underlying24 rfl HI2.out ?_; simp only [PT])
      | (go_at_call 48; (with_reducible show Calls _ _ #[.agg (addrC true t.sb).toArray] _ _); refine (short_any true t.sb HL.out.1 _).mono ?_; rw [← HZ1.out]; rintro e w2 ⟨rfl, hb2⟩; have hE__ := cU HB bup hb2; replace HB := ck HB hE__; replace HG := ck HG hE__; clear hE__; clear hb2)
      | (go_at_call 48; (with_reducible show Calls _ _ #[.agg (addrC true t.db).toArray] _ _); refine (short_any true t.db HL.out.2 _).mono ?_; rw [← HZ2.out]; rintro e w3 ⟨rfl, hb3⟩; have hE__ := cU HB bup hb3; replace HB := ck HB hE__; replace HG := ck HG hE__; clear hE__; clear hb3)
      | ((with_reducible refine sl 28 ?_); refine wpL_loadF rfl 3 (.tmp 27) rfl g 34 rfl (.int .i64 t.proto) HG.out HA.out.2.2.1 Try.underlying3 rfl ?_; simp only [PT])
      | ((with_reducible refine sl 32 ?_); refine wpL_loadF rfl 3 (.tmp 31) rfl g 34 rfl (.int .i64 t.proto) HG.out HA.out.2.2.1 Try.underlying3 rfl ?_; simp only [PT])
      | ((with_reducible refine sl 37 ?_); refine wpL_loadF rfl 3 (.tmp 36) rfl g 35 rfl (.int .i64 t.sport) HG.out HA.out.2.2.2.1 Try.underlying3 rfl ?_; simp only [PT])
      | ((with_reducible refine sl 42 ?_); refine wpL_loadF rfl 3 (.tmp 41) rfl g 35 rfl (.int .i64 t.sport) HG.out HA.out.2.2.2.1 Try.underlying3 rfl ?_; simp only [PT])
      | ((with_reducible refine sl 47 ?_); refine wpL_loadF rfl 3 (.tmp 46) rfl g 36 rfl (.int .i64 t.dport) HG.out HA.out.2.2.2.2 Try.underlying3 rfl ?_; simp only [PT])
      | ((with_reducible refine sl 52 ?_); refine wpL_loadF rfl 3 (.tmp 51) rfl g 36 rfl (.int .i64 t.dport) HG.out HA.out.2.2.2.2 Try.underlying3 rfl ?_; simp only [PT]))
    go_ret
    rw [HR.out]
    exact ⟨rfl, HB.out⟩
  · have HR : Hid (R = false) := Lib.hid (by rw [hR]; simp)
    clear hR
    go_wp2_with (first
      | ((with_reducible refine sl 1 ?_); go_must (refine wpL_boxG rfl 26 (.tmp 0) rfl t.cells.toArray rfl ?_); intro w1 g he__ le_g lt_g hg__ hb__; have HG := Lib.hid hg__; have hE__ := cU HB bup hb__; replace HB := ck HB hE__; clear hE__; clear hg__ hb__ he__; simp only [PT])
      | ((with_reducible refine sl 5 ?_); go_must (refine wpL_loadF rfl 4 (.tmp 4) rfl g 0 rfl (.bool true) HG.out HA.out.1 Try.underlying4 rfl ?_); simp only [PT])
      | ((with_reducible refine sl 8 ?_); go_must (refine wpL_loadF rfl 4 (.tmp 7) rfl g 17 rfl (.bool false) HG.out HA.out.2.1 Try.underlying4 rfl ?_); simp only [PT])
      | ((with_reducible refine sl 13 ?_); refine wpL_loadF rfl 4 (.tmp 12) rfl g 0 rfl (.bool true) HG.out HA.out.1 Try.underlying4 rfl ?_; simp only [PT])
      | ((with_reducible refine sl 17 ?_); refine wpL_load rfl 24 (.tmp 16) rfl g 0 rfl (addrC true t.sb) _ (range_sub HG.out HS.out) Try.underlying24 rfl HI1.out ?_; simp only [PT])
      | ((with_reducible refine sl 21 ?_); refine wpL_load rfl 24 (.tmp 20) rfl g 17 rfl (addrC false t.db) _ (range_sub HG.out HD.out) Try.underlying24 rfl HI2.out ?_; simp only [PT])
      | (go_at_call 48; (with_reducible show Calls _ _ #[.agg (addrC true t.sb).toArray] _ _); refine (short_any true t.sb HL.out.1 _).mono ?_; rw [← HZ1.out]; rintro e w2 ⟨rfl, hb2⟩; have hE__ := cU HB bup hb2; replace HB := ck HB hE__; replace HG := ck HG hE__; clear hE__; clear hb2)
      | (go_at_call 48; (with_reducible show Calls _ _ #[.agg (addrC false t.db).toArray] _ _); refine (short_any false t.db HL.out.2 _).mono ?_; rw [← HZ2.out]; rintro e w3 ⟨rfl, hb3⟩; have hE__ := cU HB bup hb3; replace HB := ck HB hE__; replace HG := ck HG hE__; clear hE__; clear hb3)
      | ((with_reducible refine sl 28 ?_); refine wpL_loadF rfl 3 (.tmp 27) rfl g 34 rfl (.int .i64 t.proto) HG.out HA.out.2.2.1 Try.underlying3 rfl ?_; simp only [PT])
      | ((with_reducible refine sl 32 ?_); refine wpL_loadF rfl 3 (.tmp 31) rfl g 34 rfl (.int .i64 t.proto) HG.out HA.out.2.2.1 Try.underlying3 rfl ?_; simp only [PT])
      | ((with_reducible refine sl 37 ?_); refine wpL_loadF rfl 3 (.tmp 36) rfl g 35 rfl (.int .i64 t.sport) HG.out HA.out.2.2.2.1 Try.underlying3 rfl ?_; simp only [PT])
      | ((with_reducible refine sl 42 ?_); refine wpL_loadF rfl 3 (.tmp 41) rfl g 35 rfl (.int .i64 t.sport) HG.out HA.out.2.2.2.1 Try.underlying3 rfl ?_; simp only [PT])
      | ((with_reducible refine sl 47 ?_); refine wpL_loadF rfl 3 (.tmp 46) rfl g 36 rfl (.int .i64 t.dport) HG.out HA.out.2.2.2.2 Try.underlying3 rfl ?_; simp only [PT])
      | ((with_reducible refine sl 52 ?_); refine wpL_loadF rfl 3 (.tmp 51) rfl g 36 rfl (.int .i64 t.dport) HG.out HA.out.2.2.2.2 Try.underlying3 rfl ?_; simp only [PT]))
    go_ret
    rw [HR.out]
    exact ⟨rfl, HB.out⟩
  · have HR : Hid (R = false) := Lib.hid (by rw [hR]; simp)
    clear hR
    go_wp2_with (first
      | ((with_reducible refine sl 1 ?_); go_must (refine wpL_boxG rfl 26 (.tmp 0) rfl t.cells.toArray rfl ?_); intro w1 g he__ le_g lt_g hg__ hb__; have HG := Lib.hid hg__; have hE__ := cU HB bup hb__; replace HB := ck HB hE__; clear hE__; clear hg__ hb__ he__; simp only [PT])
      | ((with_reducible refine sl 5 ?_); go_must (refine wpL_loadF rfl 4 (.tmp 4) rfl g 0 rfl (.bool false) HG.out HA.out.1 Try.underlying4 rfl ?_); simp only [PT])
      | ((with_reducible refine sl 8 ?_); go_must (refine wpL_loadF rfl 4 (.tmp 7) rfl g 17 rfl (.bool true) HG.out HA.out.2.1 Try.underlying4 rfl ?_); simp only [PT])
      | ((with_reducible refine sl 13 ?_); refine wpL_loadF rfl 4 (.tmp 12) rfl g 0 rfl (.bool false) HG.out HA.out.1 Try.underlying4 rfl ?_; simp only [PT])
      | ((with_reducible refine sl 17 ?_); refine wpL_load rfl 24 (.tmp 16) rfl g 0 rfl (addrC false t.sb) _ (range_sub HG.out HS.out) Try.underlying24 rfl HI1.out ?_; simp only [PT])
      | ((with_reducible refine sl 21 ?_); refine wpL_load rfl 24 (.tmp 20) rfl g 17 rfl (addrC true t.db) _ (range_sub HG.out HD.out) Try.underlying24 rfl HI2.out ?_; simp only [PT])
      | (go_at_call 48; (with_reducible show Calls _ _ #[.agg (addrC false t.sb).toArray] _ _); refine (short_any false t.sb HL.out.1 _).mono ?_; rw [← HZ1.out]; rintro e w2 ⟨rfl, hb2⟩; have hE__ := cU HB bup hb2; replace HB := ck HB hE__; replace HG := ck HG hE__; clear hE__; clear hb2)
      | (go_at_call 48; (with_reducible show Calls _ _ #[.agg (addrC true t.db).toArray] _ _); refine (short_any true t.db HL.out.2 _).mono ?_; rw [← HZ2.out]; rintro e w3 ⟨rfl, hb3⟩; have hE__ := cU HB bup hb3; replace HB := ck HB hE__; replace HG := ck HG hE__; clear hE__; clear hb3)
      | ((with_reducible refine sl 28 ?_); refine wpL_loadF rfl 3 (.tmp 27) rfl g 34 rfl (.int .i64 t.proto) HG.out HA.out.2.2.1 Try.underlying3 rfl ?_; simp only [PT])
      | ((with_reducible refine sl 32 ?_); refine wpL_loadF rfl 3 (.tmp 31) rfl g 34 rfl (.int .i64 t.proto) HG.out HA.out.2.2.1 Try.underlying3 rfl ?_; simp only [PT])
      | ((with_reducible refine sl 37 ?_); refine wpL_loadF rfl 3 (.tmp 36) rfl g 35 rfl (.int .i64 t.sport) HG.out HA.out.2.2.2.1 Try.underlying3 rfl ?_; simp only [PT])
      | ((with_reducible refine sl 42 ?_); refine wpL_loadF rfl 3 (.tmp 41) rfl g 35 rfl (.int .i64 t.sport) HG.out HA.out.2.2.2.1 Try.underlying3 rfl ?_; simp only [PT])
      | ((with_reducible refine sl 47 ?_); refine wpL_loadF rfl 3 (.tmp 46) rfl g 36 rfl (.int .i64 t.dport) HG.out HA.out.2.2.2.2 Try.underlying3 rfl ?_; simp only [PT])
      | ((with_reducible refine sl 52 ?_); refine wpL_loadF rfl 3 (.tmp 51) rfl g 36 rfl (.int .i64 t.dport) HG.out HA.out.2.2.2.2 Try.underlying3 rfl ?_; simp only [PT]))
    go_ret
    rw [HR.out]
    exact ⟨rfl, HB.out⟩
  · rcases two z1 with rfl | rfl
    rotate_left
    · have HR : Hid (R = false) := Lib.hid (by rw [hR]; simp)
      clear hR
      go_wp2_with (first
        | ((with_reducible refine sl 1 ?_); go_must (refine wpL_boxG rfl 26 (.tmp 0) rfl t.cells.toArray rfl ?_); intro w1 g he__ le_g lt_g hg__ hb__; have HG := Lib.hid hg__; have hE__ := cU HB bup hb__; replace HB := ck HB hE__; clear hE__; clear hg__ hb__ he__; simp only [PT])
        | ((with_reducible refine sl 5 ?_); go_must (refine wpL_loadF rfl 4 (.tmp 4) rfl g 0 rfl (.bool false) HG.out HA.out.1 Try.underlying4 rfl ?_); simp only [PT])
        | ((with_reducible refine sl 8 ?_); go_must (refine wpL_loadF rfl 4 (.tmp 7) rfl g 17 rfl (.bool false) HG.out HA.out.2.1 Try.underlying4 rfl ?_); simp only [PT])
        | ((with_reducible refine sl 13 ?_); refine wpL_loadF rfl 4 (.tmp 12) rfl g 0 rfl (.bool false) HG.out HA.out.1 Try.underlying4 rfl ?_; simp only [PT])
        | ((with_reducible refine sl 17 ?_); refine wpL_load rfl 24 (.tmp 16) rfl g 0 rfl (addrC false t.sb) _ (range_sub HG.out HS.out) Try.underlying24 rfl HI1.out ?_; simp only [PT])
        | ((with_reducible refine sl 21 ?_); refine wpL_load rfl 24 (.tmp 20) rfl g 17 rfl (addrC false t.db) _ (range_sub HG.out HD.out) Try.underlying24 rfl HI2.out ?_; simp only [PT])
        | (go_at_call 48; (with_reducible show Calls _ _ #[.agg (addrC false t.sb).toArray] _ _); refine (short_any false t.sb HL.out.1 _).mono ?_; rw [← HZ1.out]; rintro e w2 ⟨rfl, hb2⟩; have hE__ := cU HB bup hb2; replace HB := ck HB hE__; replace HG := ck HG hE__; clear hE__; clear hb2)
        | (go_at_call 48; (with_reducible show Calls _ _ #[.agg (addrC false t.db).toArray] _ _); refine (short_any false t.db HL.out.2 _).mono ?_; rw [← HZ2.out]; rintro e w3 ⟨rfl, hb3⟩; have hE__ := cU HB bup hb3; replace HB := ck HB hE__; replace HG := ck HG hE__; clear hE__; clear hb3)
        | ((with_reducible refine sl 28 ?_); refine wpL_loadF rfl 3 (.tmp 27) rfl g 34 rfl (.int .i64 t.proto) HG.out HA.out.2.2.1 Try.underlying3 rfl ?_; simp only [PT])
        | ((with_reducible refine sl 32 ?_); refine wpL_loadF rfl 3 (.tmp 31) rfl g 34 rfl (.int .i64 t.proto) HG.out HA.out.2.2.1 Try.underlying3 rfl ?_; simp only [PT])
        | ((with_reducible refine sl 37 ?_); refine wpL_loadF rfl 3 (.tmp 36) rfl g 35 rfl (.int .i64 t.sport) HG.out HA.out.2.2.2.1 Try.underlying3 rfl ?_; simp only [PT])
        | ((with_reducible refine sl 42 ?_); refine wpL_loadF rfl 3 (.tmp 41) rfl g 35 rfl (.int .i64 t.sport) HG.out HA.out.2.2.2.1 Try.underlying3 rfl ?_; simp only [PT])
        | ((with_reducible refine sl 47 ?_); refine wpL_loadF rfl 3 (.tmp 46) rfl g 36 rfl (.int .i64 t.dport) HG.out HA.out.2.2.2.2 Try.underlying3 rfl ?_; simp only [PT])
        | ((with_reducible refine sl 52 ?_); refine wpL_loadF rfl 3 (.tmp 51) rfl g 36 rfl (.int .i64 t.dport) HG.out HA.out.2.2.2.2 Try.underlying3 rfl ?_; simp only [PT]))
      go_ret
      rw [HR.out]
      exact ⟨rfl, HB.out⟩
    rcases two z2 with rfl | rfl
    rotate_left
    · have HR : Hid (R = false) := Lib.hid (by rw [hR]; simp)
      clear hR
      go_wp2_with (first
        | ((with_reducible refine sl 1 ?_); go_must (refine wpL_boxG rfl 26 (.tmp 0) rfl t.cells.toArray rfl ?_); intro w1 g he__ le_g lt_g hg__ hb__; have HG := Lib.hid hg__; have hE__ := cU HB bup hb__; replace HB := ck HB hE__; clear hE__; clear hg__ hb__ he__; simp only [PT])
        | ((with_reducible refine sl 5 ?_); go_must (refine wpL_loadF rfl 4 (.tmp 4) rfl g 0 rfl (.bool false) HG.out HA.out.1 Try.underlying4 rfl ?_); simp only [PT])
        | ((with_reducible refine sl 8 ?_); go_must (refine wpL_loadF rfl 4 (.tmp 7) rfl g 17 rfl (.bool false) HG.out HA.out.2.1 Try.underlying4 rfl ?_); simp only [PT])
        | ((with_reducible refine sl 13 ?_); refine wpL_loadF rfl 4 (.tmp 12) rfl g 0 rfl (.bool false) HG.out HA.out.1 Try.underlying4 rfl ?_; simp only [PT])
        | ((with_reducible refine sl 17 ?_); refine wpL_load rfl 24 (.tmp 16) rfl g 0 rfl (addrC false t.sb) _ (range_sub HG.out HS.out) Try.underlying24 rfl HI1.out ?_; simp only [PT])
        | ((with_reducible refine sl 21 ?_); refine wpL_load rfl 24 (.tmp 20) rfl g 17 rfl (addrC false t.db) _ (range_sub HG.out HD.out) Try.underlying24 rfl HI2.out ?_; simp only [PT])
        | (go_at_call 48; (with_reducible show Calls _ _ #[.agg (addrC false t.sb).toArray] _ _); refine (short_any false t.sb HL.out.1 _).mono ?_; rw [← HZ1.out]; rintro e w2 ⟨rfl, hb2⟩; have hE__ := cU HB bup hb2; replace HB := ck HB hE__; replace HG := ck HG hE__; clear hE__; clear hb2)
        | (go_at_call 48; (with_reducible show Calls _ _ #[.agg (addrC false t.db).toArray] _ _); refine (short_any false t.db HL.out.2 _).mono ?_; rw [← HZ2.out]; rintro e w3 ⟨rfl, hb3⟩; have hE__ := cU HB bup hb3; replace HB := ck HB hE__; replace HG := ck HG hE__; clear hE__; clear hb3)
        | ((with_reducible refine sl 28 ?_); refine wpL_loadF rfl 3 (.tmp 27) rfl g 34 rfl (.int .i64 t.proto) HG.out HA.out.2.2.1 Try.underlying3 rfl ?_; simp only [PT])
        | ((with_reducible refine sl 32 ?_); refine wpL_loadF rfl 3 (.tmp 31) rfl g 34 rfl (.int .i64 t.proto) HG.out HA.out.2.2.1 Try.underlying3 rfl ?_; simp only [PT])
        | ((with_reducible refine sl 37 ?_); refine wpL_loadF rfl 3 (.tmp 36) rfl g 35 rfl (.int .i64 t.sport) HG.out HA.out.2.2.2.1 Try.underlying3 rfl ?_; simp only [PT])
        | ((with_reducible refine sl 42 ?_); refine wpL_loadF rfl 3 (.tmp 41) rfl g 35 rfl (.int .i64 t.sport) HG.out HA.out.2.2.2.1 Try.underlying3 rfl ?_; simp only [PT])
        | ((with_reducible refine sl 47 ?_); refine wpL_loadF rfl 3 (.tmp 46) rfl g 36 rfl (.int .i64 t.dport) HG.out HA.out.2.2.2.2 Try.underlying3 rfl ?_; simp only [PT])
        | ((with_reducible refine sl 52 ?_); refine wpL_loadF rfl 3 (.tmp 51) rfl g 36 rfl (.int .i64 t.dport) HG.out HA.out.2.2.2.2 Try.underlying3 rfl ?_; simp only [PT]))
      go_ret
      rw [HR.out]
      exact ⟨rfl, HB.out⟩
    simp only [Bool.true_or, Bool.or_self, Bool.false_or, beq_self_eq_true, Bool.true_and] at hR
    rcases two (decide (0 ≤ t.proto)) with h0 | h0
    rotate_left
    · have HR : Hid (R = false) := Lib.hid (by rw [hR]; simp only [h0, Bool.and_false, Bool.false_and, Bool.true_and])
      clear hR
      go_wp2_with (first
        | ((with_reducible refine sl 1 ?_); go_must (refine wpL_boxG rfl 26 (.tmp 0) rfl t.cells.toArray rfl ?_); intro w1 g he__ le_g lt_g hg__ hb__; have HG := Lib.hid hg__; have hE__ := cU HB bup hb__; replace HB := ck HB hE__; clear hE__; clear hg__ hb__ he__; simp only [PT])
        | ((with_reducible refine sl 5 ?_); go_must (refine wpL_loadF rfl 4 (.tmp 4) rfl g 0 rfl (.bool false) HG.out HA.out.1 Try.underlying4 rfl ?_); simp only [PT])
        | ((with_reducible refine sl 8 ?_); go_must (refine wpL_loadF rfl 4 (.tmp 7) rfl g 17 rfl (.bool false) HG.out HA.out.2.1 Try.underlying4 rfl ?_); simp only [PT])
        | ((with_reducible refine sl 13 ?_); refine wpL_loadF rfl 4 (.tmp 12) rfl g 0 rfl (.bool false) HG.out HA.out.1 Try.underlying4 rfl ?_; simp only [PT])
        | ((with_reducible refine sl 17 ?_); refine wpL_load rfl 24 (.tmp 16) rfl g 0 rfl (addrC false t.sb) _ (range_sub HG.out HS.out) Try.underlying24 rfl HI1.out ?_; simp only [PT])
        | ((with_reducible refine sl 21 ?_); refine wpL_load rfl 24 (.tmp 20) rfl g 17 rfl (addrC false t.db) _ (range_sub HG.out HD.out) Try.underlying24 rfl HI2.out ?_; simp only [PT])
        | (go_at_call 48; (with_reducible show Calls _ _ #[.agg (addrC false t.sb).toArray] _ _); refine (short_any false t.sb HL.out.1 _).mono ?_; rw [← HZ1.out]; rintro e w2 ⟨rfl, hb2⟩; have hE__ := cU HB bup hb2; replace HB := ck HB hE__; replace HG := ck HG hE__; clear hE__; clear hb2)
        | (go_at_call 48; (with_reducible show Calls _ _ #[.agg (addrC false t.db).toArray] _ _); refine (short_any false t.db HL.out.2 _).mono ?_; rw [← HZ2.out]; rintro e w3 ⟨rfl, hb3⟩; have hE__ := cU HB bup hb3; replace HB := ck HB hE__; replace HG := ck HG hE__; clear hE__; clear hb3)
        | ((with_reducible refine sl 28 ?_); refine wpL_loadF rfl 3 (.tmp 27) rfl g 34 rfl (.int .i64 t.proto) HG.out HA.out.2.2.1 Try.underlying3 rfl ?_; simp only [PT])
        | ((with_reducible refine sl 32 ?_); refine wpL_loadF rfl 3 (.tmp 31) rfl g 34 rfl (.int .i64 t.proto) HG.out HA.out.2.2.1 Try.underlying3 rfl ?_; simp only [PT])
        | ((with_reducible refine sl 37 ?_); refine wpL_loadF rfl 3 (.tmp 36) rfl g 35 rfl (.int .i64 t.sport) HG.out HA.out.2.2.2.1 Try.underlying3 rfl ?_; simp only [PT])
        | ((with_reducible refine sl 42 ?_); refine wpL_loadF rfl 3 (.tmp 41) rfl g 35 rfl (.int .i64 t.sport) HG.out HA.out.2.2.2.1 Try.underlying3 rfl ?_; simp only [PT])
        | ((with_reducible refine sl 47 ?_); refine wpL_loadF rfl 3 (.tmp 46) rfl g 36 rfl (.int .i64 t.dport) HG.out HA.out.2.2.2.2 Try.underlying3 rfl ?_; simp only [PT])
        | ((with_reducible refine sl 52 ?_); refine wpL_loadF rfl 3 (.tmp 51) rfl g 36 rfl (.int .i64 t.dport) HG.out HA.out.2.2.2.2 Try.underlying3 rfl ?_; simp only [PT]))
      go_ret
      rw [HR.out]
      exact ⟨rfl, HB.out⟩
    rcases two (decide (t.proto ≤ 255)) with h1 | h1
    rotate_left
    · have HR : Hid (R = false) := Lib.hid (by rw [hR]; simp only [h0, h1, Bool.and_false, Bool.false_and, Bool.true_and])
      clear hR
      go_wp2_with (first
        | ((with_reducible refine sl 1 ?_); go_must (refine wpL_boxG rfl 26 (.tmp 0) rfl t.cells.toArray rfl ?_); intro w1 g he__ le_g lt_g hg__ hb__; have HG := Lib.hid hg__; have hE__ := cU HB bup hb__; replace HB := ck HB hE__; clear hE__; clear hg__ hb__ he__; simp only [PT])
        | ((with_reducible refine sl 5 ?_); go_must (refine wpL_loadF rfl 4 (.tmp 4) rfl g 0 rfl (.bool false) HG.out HA.out.1 Try.underlying4 rfl ?_); simp only [PT])
        | ((with_reducible refine sl 8 ?_); go_must (refine wpL_loadF rfl 4 (.tmp 7) rfl g 17 rfl (.bool false) HG.out HA.out.2.1 Try.underlying4 rfl ?_); simp only [PT])
        | ((with_reducible refine sl 13 ?_); refine wpL_loadF rfl 4 (.tmp 12) rfl g 0 rfl (.bool false) HG.out HA.out.1 Try.underlying4 rfl ?_; simp only [PT])
        | ((with_reducible refine sl 17 ?_); refine wpL_load rfl 24 (.tmp 16) rfl g 0 rfl (addrC false t.sb) _ (range_sub HG.out HS.out) Try.underlying24 rfl HI1.out ?_; simp only [PT])
        | ((with_reducible refine sl 21 ?_); refine wpL_load rfl 24 (.tmp 20) rfl g 17 rfl (addrC false t.db) _ (range_sub HG.out HD.out) Try.underlying24 rfl HI2.out ?_; simp only [PT])
        | (go_at_call 48; (with_reducible show Calls _ _ #[.agg (addrC false t.sb).toArray] _ _); refine (short_any false t.sb HL.out.1 _).mono ?_; rw [← HZ1.out]; rintro e w2 ⟨rfl, hb2⟩; have hE__ := cU HB bup hb2; replace HB := ck HB hE__; replace HG := ck HG hE__; clear hE__; clear hb2)
        | (go_at_call 48; (with_reducible show Calls _ _ #[.agg (addrC false t.db).toArray] _ _); refine (short_any false t.db HL.out.2 _).mono ?_; rw [← HZ2.out]; rintro e w3 ⟨rfl, hb3⟩; have hE__ := cU HB bup hb3; replace HB := ck HB hE__; replace HG := ck HG hE__; clear hE__; clear hb3)
        | ((with_reducible refine sl 28 ?_); refine wpL_loadF rfl 3 (.tmp 27) rfl g 34 rfl (.int .i64 t.proto) HG.out HA.out.2.2.1 Try.underlying3 rfl ?_; simp only [PT])
        | ((with_reducible refine sl 32 ?_); refine wpL_loadF rfl 3 (.tmp 31) rfl g 34 rfl (.int .i64 t.proto) HG.out HA.out.2.2.1 Try.underlying3 rfl ?_; simp only [PT])
        | ((with_reducible refine sl 37 ?_); refine wpL_loadF rfl 3 (.tmp 36) rfl g 35 rfl (.int .i64 t.sport) HG.out HA.out.2.2.2.1 Try.underlying3 rfl ?_; simp only [PT])
        | ((with_reducible refine sl 42 ?_); refine wpL_loadF rfl 3 (.tmp 41) rfl g 35 rfl (.int .i64 t.sport) HG.out HA.out.2.2.2.1 Try.underlying3 rfl ?_; simp only [PT])
        | ((with_reducible refine sl 47 ?_); refine wpL_loadF rfl 3 (.tmp 46) rfl g 36 rfl (.int .i64 t.dport) HG.out HA.out.2.2.2.2 Try.underlying3 rfl ?_; simp only [PT])
        | ((with_reducible refine sl 52 ?_); refine wpL_loadF rfl 3 (.tmp 51) rfl g 36 rfl (.int .i64 t.dport) HG.out HA.out.2.2.2.2 Try.underlying3 rfl ?_; simp only [PT]))
      go_ret
      rw [HR.out]
      exact ⟨rfl, HB.out⟩
    rcases two (decide (0 ≤ t.sport)) with h2 | h2
    rotate_left
    · have HR : Hid (R = false) := Lib.hid (by rw [hR]; simp only [h0, h1, h2, Bool.and_false, Bool.false_and, Bool.true_and])
      clear hR
      go_wp2_with (first
        | ((with_reducible refine sl 1 ?_); go_must (refine wpL_boxG rfl 26 (.tmp 0) rfl t.cells.toArray rfl ?_); intro w1 g he__ le_g lt_g hg__ hb__; have HG := Lib.hid hg__; have hE__ := cU HB bup hb__; replace HB := ck HB hE__; clear hE__; clear hg__ hb__ he__; simp only [PT])
        | ((with_reducible refine sl 5 ?_); go_must (refine wpL_loadF rfl 4 (.tmp 4) rfl g 0 rfl (.bool false) HG.out HA.out.1 Try.underlying4 rfl ?_); simp only [PT])
        | ((with_reducible refine sl 8 ?_); go_must (refine wpL_loadF rfl 4 (.tmp 7) rfl g 17 rfl (.bool false) HG.out HA.out.2.1 Try.underlying4 rfl ?_); simp only [PT])
        | ((with_reducible refine sl 13 ?_); refine wpL_loadF rfl 4 (.tmp 12) rfl g 0 rfl (.bool false) HG.out HA.out.1 Try.underlying4 rfl ?_; simp only [PT])
        | ((with_reducible refine sl 17 ?_); refine wpL_load rfl 24 (.tmp 16) rfl g 0 rfl (addrC false t.sb) _ (range_sub HG.out HS.out) Try.underlying24 rfl HI1.out ?_; simp only [PT])
        | ((with_reducible refine sl 21 ?_); refine wpL_load rfl 24 (.tmp 20) rfl g 17 rfl (addrC false t.db) _ (range_sub HG.out HD.out) Try.underlying24 rfl HI2.out ?_; simp only [PT])
        | (go_at_call 48; (with_reducible show Calls _ _ #[.agg (addrC false t.sb).toArray] _ _); refine (short_any false t.sb HL.out.1 _).mono ?_; rw [← HZ1.out]; rintro e w2 ⟨rfl, hb2⟩; have hE__ := cU HB bup hb2; replace HB := ck HB hE__; replace HG := ck HG hE__; clear hE__; clear hb2)
        | (go_at_call 48; (with_reducible show Calls _ _ #[.agg (addrC false t.db).toArray] _ _); refine (short_any false t.db HL.out.2 _).mono ?_; rw [← HZ2.out]; rintro e w3 ⟨rfl, hb3⟩; have hE__ := cU HB bup hb3; replace HB := ck HB hE__; replace HG := ck HG hE__; clear hE__; clear hb3)
        | ((with_reducible refine sl 28 ?_); refine wpL_loadF rfl 3 (.tmp 27) rfl g 34 rfl (.int .i64 t.proto) HG.out HA.out.2.2.1 Try.underlying3 rfl ?_; simp only [PT])
        | ((with_reducible refine sl 32 ?_); refine wpL_loadF rfl 3 (.tmp 31) rfl g 34 rfl (.int .i64 t.proto) HG.out HA.out.2.2.1 Try.underlying3 rfl ?_; simp only [PT])
        | ((with_reducible refine sl 37 ?_); refine wpL_loadF rfl 3 (.tmp 36) rfl g 35 rfl (.int .i64 t.sport) HG.out HA.out.2.2.2.1 Try.underlying3 rfl ?_; simp only [PT])
        | ((with_reducible refine sl 42 ?_); refine wpL_loadF rfl 3 (.tmp 41) rfl g 35 rfl (.int .i64 t.sport) HG.out HA.out.2.2.2.1 Try.underlying3 rfl ?_; simp only [PT])
        | ((with_reducible refine sl 47 ?_); refine wpL_loadF rfl 3 (.tmp 46) rfl g 36 rfl (.int .i64 t.dport) HG.out HA.out.2.2.2.2 Try.underlying3 rfl ?_; simp only [PT])
        | ((with_reducible refine sl 52 ?_); refine wpL_loadF rfl 3 (.tmp 51) rfl g 36 rfl (.int .i64 t.dport) HG.out HA.out.2.2.2.2 Try.underlying3 rfl ?_; simp only [PT]))
      go_ret
      rw [HR.out]
      exact ⟨rfl, HB.out⟩
    rcases two (decide (t.sport ≤ 65535)) with h3 | h3
    rotate_left
    · have HR : Hid (R = false) := Lib.hid (by rw [hR]; simp only [h0, h1, h2, h3, Bool.and_false, Bool.false_and, Bool.true_and])
      clear hR
      go_wp2_with (first
        | ((with_reducible refine sl 1 ?_); go_must (refine wpL_boxG rfl 26 (.tmp 0) rfl t.cells.toArray rfl ?_); intro w1 g he__ le_g lt_g hg__ hb__; have HG := Lib.hid hg__; have hE__ := cU HB bup hb__; replace HB := ck HB hE__; clear hE__; clear hg__ hb__ he__; simp only [PT])
        | ((with_reducible refine sl 5 ?_); go_must (refine wpL_loadF rfl 4 (.tmp 4) rfl g 0 rfl (.bool false) HG.out HA.out.1 Try.underlying4 rfl ?_); simp only [PT])
        | ((with_reducible refine sl 8 ?_); go_must (refine wpL_loadF rfl 4 (.tmp 7) rfl g 17 rfl (.bool false) HG.out HA.out.2.1 Try.underlying4 rfl ?_); simp only [PT])
        | ((with_reducible refine sl 13 ?_); refine wpL_loadF rfl 4 (.tmp 12) rfl g 0 rfl (.bool false) HG.out HA.out.1 Try.underlying4 rfl ?_; simp only [PT])
        | ((with_reducible refine sl 17 ?_); refine wpL_load rfl 24 (.tmp 16) rfl g 0 rfl (addrC false t.sb) _ (range_sub HG.out HS.out) Try.underlying24 rfl HI1.out ?_; simp only [PT])
        | ((with_reducible refine sl 21 ?_); refine wpL_load rfl 24 (.tmp 20) rfl g 17 rfl (addrC false t.db) _ (range_sub HG.out HD.out) Try.underlying24 rfl HI2.out ?_; simp only [PT])
        | (go_at_call 48; (with_reducible show Calls _ _ #[.agg (addrC false t.sb).toArray] _ _); refine (short_any false t.sb HL.out.1 _).mono ?_; rw [← HZ1.out]; rintro e w2 ⟨rfl, hb2⟩; have hE__ := cU HB bup hb2; replace HB := ck HB hE__; replace HG := ck HG hE__; clear hE__; clear hb2)
        | (go_at_call 48; (with_reducible show Calls _ _ #[.agg (addrC false t.db).toArray] _ _); refine (short_any false t.db HL.out.2 _).mono ?_; rw [← HZ2.out]; rintro e w3 ⟨rfl, hb3⟩; have hE__ := cU HB bup hb3; replace HB := ck HB hE__; replace HG := ck HG hE__; clear hE__; clear hb3)
        | ((with_reducible refine sl 28 ?_); refine wpL_loadF rfl 3 (.tmp 27) rfl g 34 rfl (.int .i64 t.proto) HG.out HA.out.2.2.1 Try.underlying3 rfl ?_; simp only [PT])
        | ((with_reducible refine sl 32 ?_); refine wpL_loadF rfl 3 (.tmp 31) rfl g 34 rfl (.int .i64 t.proto) HG.out HA.out.2.2.1 Try.underlying3 rfl ?_; simp only [PT])
        | ((with_reducible refine sl 37 ?_); refine wpL_loadF rfl 3 (.tmp 36) rfl g 35 rfl (.int .i64 t.sport) HG.out HA.out.2.2.2.1 Try.underlying3 rfl ?_; simp only [PT])
        | ((with_reducible refine sl 42 ?_); refine wpL_loadF rfl 3 (.tmp 41) rfl g 35 rfl (.int .i64 t.sport) HG.out HA.out.2.2.2.1 Try.underlying3 rfl ?_; simp only [PT])
        | ((with_reducible refine sl 47 ?_); refine wpL_loadF rfl 3 (.tmp 46) rfl g 36 rfl (.int .i64 t.dport) HG.out HA.out.2.2.2.2 Try.underlying3 rfl ?_; simp only [PT])
        | ((with_reducible refine sl 52 ?_); refine wpL_loadF rfl 3 (.tmp 51) rfl g 36 rfl (.int .i64 t.dport) HG.out HA.out.2.2.2.2 Try.underlying3 rfl ?_; simp only [PT]))
      go_ret
      rw [HR.out]
      exact ⟨rfl, HB.out⟩
    rcases two (decide (0 ≤ t.dport)) with h4 | h4
    rotate_left
    · have HR : Hid (R = false) := Lib.hid (by rw [hR]; simp only [h0, h1, h2, h3, h4, Bool.and_false, Bool.false_and, Bool.true_and])
      clear hR
      go_wp2_with (first
        | ((with_reducible refine sl 1 ?_); go_must (refine wpL_boxG rfl 26 (.tmp 0) rfl t.cells.toArray rfl ?_); intro w1 g he__ le_g lt_g hg__ hb__; have HG := Lib.hid hg__; have hE__ := cU HB bup hb__; replace HB := ck HB hE__; clear hE__; clear hg__ hb__ he__; simp only [PT])
        | ((with_reducible refine sl 5 ?_); go_must (refine wpL_loadF rfl 4 (.tmp 4) rfl g 0 rfl (.bool false) HG.out HA.out.1 Try.underlying4 rfl ?_); simp only [PT])
        | ((with_reducible refine sl 8 ?_); go_must (refine wpL_loadF rfl 4 (.tmp 7) rfl g 17 rfl (.bool false) HG.out HA.out.2.1 Try.underlying4 rfl ?_); simp only [PT])
        | ((with_reducible refine sl 13 ?_); refine wpL_loadF rfl 4 (.tmp 12) rfl g 0 rfl (.bool false) HG.out HA.out.1 Try.underlying4 rfl ?_; simp only [PT])
        | ((with_reducible refine sl 17 ?_); refine wpL_load rfl 24 (.tmp 16) rfl g 0 rfl (addrC false t.sb) _ (range_sub HG.out HS.out) Try.underlying24 rfl HI1.out ?_; simp only [PT])
        | ((with_reducible refine sl 21 ?_); refine wpL_load rfl 24 (.tmp 20) rfl g 17 rfl (addrC false t.db) _ (range_sub HG.out HD.out) Try.underlying24 rfl HI2.out ?_; simp only [PT])
        | (go_at_call 48; (with_reducible show Calls _ _ #[.agg (addrC false t.sb).toArray] _ _); refine (short_any false t.sb HL.out.1 _).mono ?_; rw [← HZ1.out]; rintro e w2 ⟨rfl, hb2⟩; have hE__ := cU HB bup hb2; replace HB := ck HB hE__; replace HG := ck HG hE__; clear hE__; clear hb2)
        | (go_at_call 48; (with_reducible show Calls _ _ #[.agg (addrC false t.db).toArray] _ _); refine (short_any false t.db HL.out.2 _).mono ?_; rw [← HZ2.out]; rintro e w3 ⟨rfl, hb3⟩; have hE__ := cU HB bup hb3; replace HB := ck HB hE__; replace HG := ck HG hE__; clear hE__; clear hb3)
        | ((with_reducible refine sl 28 ?_); refine wpL_loadF rfl 3 (.tmp 27) rfl g 34 rfl (.int .i64 t.proto) HG.out HA.out.2.2.1 Try.underlying3 rfl ?_; simp only [PT])
        | ((with_reducible refine sl 32 ?_); refine wpL_loadF rfl 3 (.tmp 31) rfl g 34 rfl (.int .i64 t.proto) HG.out HA.out.2.2.1 Try.underlying3 rfl ?_; simp only [PT])
        | ((with_reducible refine sl 37 ?_); refine wpL_loadF rfl 3 (.tmp 36) rfl g 35 rfl (.int .i64 t.sport) HG.out HA.out.2.2.2.1 Try.underlying3 rfl ?_; simp only [PT])
        | ((with_reducible refine sl 42 ?_); refine wpL_loadF rfl 3 (.tmp 41) rfl g 35 rfl (.int .i64 t.sport) HG.out HA.out.2.2.2.1 Try.underlying3 rfl ?_; simp only [PT])
        | ((with_reducible refine sl 47 ?_); refine wpL_loadF rfl 3 (.tmp 46) rfl g 36 rfl (.int .i64 t.dport) HG.out HA.out.2.2.2.2 Try.underlying3 rfl ?_; simp only [PT])
        | ((with_reducible refine sl 52 ?_); refine wpL_loadF rfl 3 (.tmp 51) rfl g 36 rfl (.int .i64 t.dport) HG.out HA.out.2.2.2.2 Try.underlying3 rfl ?_; simp only [PT]))
      go_ret
      rw [HR.out]
      exact ⟨rfl, HB.out⟩
    rcases two (decide (t.dport ≤ 65535)) with h5 | h5
    rotate_left
    · have HR : Hid (R = false) := Lib.hid (by rw [hR]; simp only [h0, h1, h2, h3, h4, h5, Bool.and_false, Bool.false_and, Bool.true_and])
      clear hR
      go_wp2_with (first
        | ((with_reducible refine sl 1 ?_); go_must (refine wpL_boxG rfl 26 (.tmp 0) rfl t.cells.toArray rfl ?_); intro w1 g he__ le_g lt_g hg__ hb__; have HG := Lib.hid hg__; have hE__ := cU HB bup hb__; replace HB := ck HB hE__; clear hE__; clear hg__ hb__ he__; simp only [PT])
        | ((with_reducible refine sl 5 ?_); go_must (refine wpL_loadF rfl 4 (.tmp 4) rfl g 0 rfl (.bool false) HG.out HA.out.1 Try.underlying4 rfl ?_); simp only [PT])
        | ((with_reducible refine sl 8 ?_); go_must (refine wpL_loadF rfl 4 (.tmp 7) rfl g 17 rfl (.bool false) HG.out HA.out.2.1 Try.underlying4 rfl ?_); simp only [PT])
        | ((with_reducible refine sl 13 ?_); refine wpL_loadF rfl 4 (.tmp 12) rfl g 0 rfl (.bool false) HG.out HA.out.1 Try.underlying4 rfl ?_; simp only [PT])
        | ((with_reducible refine sl 17 ?_); refine wpL_load rfl 24 (.tmp 16) rfl g 0 rfl (addrC false t.sb) _ (range_sub HG.out HS.out) Try.underlying24 rfl HI1.out ?_; simp only [PT])
        | ((with_reducible refine sl 21 ?_); refine wpL_load rfl 24 (.tmp 20) rfl g 17 rfl (addrC false t.db) _ (range_sub HG.out HD.out) Try.underlying24 rfl HI2.out ?_; simp only [PT])
        | (go_at_call 48; (with_reducible show Calls _ _ #[.agg (addrC false t.sb).toArray] _ _); refine (short_any false t.sb HL.out.1 _).mono ?_; rw [← HZ1.out]; rintro e w2 ⟨rfl, hb2⟩; have hE__ := cU HB bup hb2; replace HB := ck HB hE__; replace HG := ck HG hE__; clear hE__; clear hb2)
        | (go_at_call 48; (with_reducible show Calls _ _ #[.agg (addrC false t.db).toArray] _ _); refine (short_any false t.db HL.out.2 _).mono ?_; rw [← HZ2.out]; rintro e w3 ⟨rfl, hb3⟩; have hE__ := cU HB bup hb3; replace HB := ck HB hE__; replace HG := ck HG hE__; clear hE__; clear hb3)
        | ((with_reducible refine sl 28 ?_); refine wpL_loadF rfl 3 (.tmp 27) rfl g 34 rfl (.int .i64 t.proto) HG.out HA.out.2.2.1 Try.underlying3 rfl ?_; simp only [PT])
        | ((with_reducible refine sl 32 ?_); refine wpL_loadF rfl 3 (.tmp 31) rfl g 34 rfl (.int .i64 t.proto) HG.out HA.out.2.2.1 Try.underlying3 rfl ?_; simp only [PT])
        | ((with_reducible refine sl 37 ?_); refine wpL_loadF rfl 3 (.tmp 36) rfl g 35 rfl (.int .i64 t.sport) HG.out HA.out.2.2.2.1 Try.underlying3 rfl ?_; simp only [PT])
        | ((with_reducible refine sl 42 ?_); refine wpL_loadF rfl 3 (.tmp 41) rfl g 35 rfl (.int .i64 t.sport) HG.out HA.out.2.2.2.1 Try.underlying3 rfl ?_; simp only [PT])
        | ((with_reducible refine sl 47 ?_); refine wpL_loadF rfl 3 (.tmp 46) rfl g 36 rfl (.int .i64 t.dport) HG.out HA.out.2.2.2.2 Try.underlying3 rfl ?_; simp only [PT])
        | ((with_reducible refine sl 52 ?_); refine wpL_loadF rfl 3 (.tmp 51) rfl g 36 rfl (.int .i64 t.dport) HG.out HA.out.2.2.2.2 Try.underlying3 rfl ?_; simp only [PT]))
      go_ret
      rw [HR.out]
      exact ⟨rfl, HB.out⟩
    have HR : Hid (R = true) := Lib.hid (by rw [hR]; simp only [h0, h1, h2, h3, h4, h5, Bool.true_and])
    clear hR
    go_wp2_with (first
      | ((with_reducible refine sl 1 ?_); go_must (refine wpL_boxG rfl 26 (.tmp 0) rfl t.cells.toArray rfl ?_); intro w1 g he__ le_g lt_g hg__ hb__; have HG := Lib.hid hg__; have hE__ := cU HB bup hb__; replace HB := ck HB hE__; clear hE__; clear hg__ hb__ he__; simp only [PT])
      | ((with_reducible refine sl 5 ?_); go_must (refine wpL_loadF rfl 4 (.tmp 4) rfl g 0 rfl (.bool false) HG.out HA.out.1 Try.underlying4 rfl ?_); simp only [PT])
      | ((with_reducible refine sl 8 ?_); go_must (refine wpL_loadF rfl 4 (.tmp 7) rfl g 17 rfl (.bool false) HG.out HA.out.2.1 Try.underlying4 rfl ?_); simp only [PT])
      | ((with_reducible refine sl 13 ?_); refine wpL_loadF rfl 4 (.tmp 12) rfl g 0 rfl (.bool false) HG.out HA.out.1 Try.underlying4 rfl ?_; simp only [PT])
      | ((with_reducible refine sl 17 ?_); refine wpL_load rfl 24 (.tmp 16) rfl g 0 rfl (addrC false t.sb) _ (range_sub HG.out HS.out) Try.underlying24 rfl HI1.out ?_; simp only [PT])
      | ((with_reducible refine sl 21 ?_); refine wpL_load rfl 24 (.tmp 20) rfl g 17 rfl (addrC false t.db) _ (range_sub HG.out HD.out) Try.underlying24 rfl HI2.out ?_; simp only [PT])
      | (go_at_call 48; (with_reducible show Calls _ _ #[.agg (addrC false t.sb).toArray] _ _); refine (short_any false t.sb HL.out.1 _).mono ?_; rw [← HZ1.out]; rintro e w2 ⟨rfl, hb2⟩; have hE__ := cU HB bup hb2; replace HB := ck HB hE__; replace HG := ck HG hE__; clear hE__; clear hb2)
      | (go_at_call 48; (with_reducible show Calls _ _ #[.agg (addrC false t.db).toArray] _ _); refine (short_any false t.db HL.out.2 _).mono ?_; rw [← HZ2.out]; rintro e w3 ⟨rfl, hb3⟩; have hE__ := cU HB bup hb3; replace HB := ck HB hE__; replace HG := ck HG hE__; clear hE__; clear hb3)
      | ((with_reducible refine sl 28 ?_); refine wpL_loadF rfl 3 (.tmp 27) rfl g 34 rfl (.int .i64 t.proto) HG.out HA.out.2.2.1 Try.underlying3 rfl ?_; simp only [PT])
      | ((with_reducible refine sl 32 ?_); refine wpL_loadF rfl 3 (.tmp 31) rfl g 34 rfl (.int .i64 t.proto) HG.out HA.out.2.2.1 Try.underlying3 rfl ?_; simp only [PT])
      | ((with_reducible refine sl 37 ?_); refine wpL_loadF rfl 3 (.tmp 36) rfl g 35 rfl (.int .i64 t.sport) HG.out HA.out.2.2.2.1 Try.underlying3 rfl ?_; simp only [PT])
      | ((with_reducible refine sl 42 ?_); refine wpL_loadF rfl 3 (.tmp 41) rfl g 35 rfl (.int .i64 t.sport) HG.out HA.out.2.2.2.1 Try.underlying3 rfl ?_; simp only [PT])
      | ((with_reducible refine sl 47 ?_); refine wpL_loadF rfl 3 (.tmp 46) rfl g 36 rfl (.int .i64 t.dport) HG.out HA.out.2.2.2.2 Try.underlying3 rfl ?_; simp only [PT])
      | ((with_reducible refine sl 52 ?_); refine wpL_loadF rfl 3 (.tmp 51) rfl g 36 rfl (.int .i64 t.dport) HG.out HA.out.2.2.2.2 Try.underlying3 rfl ?_; simp only [PT]))
    go_ret
    rw [HR.out]
    exact ⟨rfl, HB.out⟩
end Go.Proofs.Ytgpdlhbndoeldaa
/-
  Chapter 21: the document's side of tuples, which flows are right: walked (written by gen/flo5.py).
-/
namespace Go.Proofs.Ytgpdlhbndoeldaa
open Go.RowKit Go.Sort
set_option linter.unusedVariables false
set_option linter.unusedSimpArgs false
set_option maxRecDepth 100000
set_option maxHeartbeats 4000000

theorem right_any (f : Flo) (ho : f.ok) (hsz : f.name.size ≤ 140737488351232) (w : World) :
    Calls Try.prog 13 #[.agg f.cells.toArray] w fun e w' => e = .returned (.bool (rightF f)) ∧ Below w.heap.size w w' := by
  have HB := Lib.hid (Below.refl w.heap.size w)
  have HA := Lib.hid (Flo.geta ho)
  have HS := Lib.hid (Flo.tup ho)
  have HL := Lib.hid ho
  have HI1 : Hid ((Try.prog.info? 26).map (·.size) = some f.key.cells.length) := Lib.hid (by rw [Tup.length ho.1]; exact tup_size)
  obtain ⟨R, hR⟩ : ∃ R, R = rightF f := ⟨_, rfl⟩
  rw [← hR]
  unfold rightF at hR
  clear ho
  go_enter Try.func13, Try.ntmps13
  rcases two (knownT f.key) with h0 | h0
  rotate_left
  · have HR : Hid (R = false) := Lib.hid (by rw [hR]; simp only [h0, Bool.and_false, Bool.false_and, Bool.true_and])
    clear hR
    go_wp2_with (first
      | ((with_reducible refine sl 1 ?_); go_must (refine wpL_boxG rfl 28 (.tmp 0) rfl f.cells.toArray rfl ?_); intro w1 g he__ le_g lt_g hg__ hb__; have HG := Lib.hid hg__; have hE__ := cU HB bup hb__; replace HB := ck HB hE__; clear hE__; clear hg__ hb__ he__; simp only [PT])
      | ((with_reducible refine sl 4 ?_); refine wpL_load rfl 26 (.tmp 3) rfl g 0 rfl f.key.cells _ (range_sub HG.out HS.out) Try.underlying26 rfl HI1.out ?_; simp only [PT])
      | (go_at_call 32; refine (known_any f.key HL.out.1 _).mono ?_; rintro e w2 ⟨rfl, hb2⟩; have hE__ := cU HB bup hb2; replace HB := ck HB hE__; replace HG := ck HG hE__; clear hE__; clear hb2)
      | ((with_reducible refine sl 8 ?_); refine wpL_loadF rfl 9 (.tmp 7) rfl g 37 rfl (.string f.name) HG.out HA.out.1 Try.underlying9 rfl ?_; simp only [PT])
      | (go_at_call 33; refine (name_any f.name hsz _).mono ?_; rintro e w3 ⟨rfl, hb3⟩; have hE__ := cU HB bup hb3; replace HB := ck HB hE__; replace HG := ck HG hE__; clear hE__; clear hb3)
      | ((with_reducible refine sl 13 ?_); refine wpL_loadF rfl 3 (.tmp 12) rfl g 38 rfl (.int .i64 f.state) HG.out HA.out.2.1 Try.underlying3 rfl ?_; simp only [PT])
      | ((with_reducible refine sl 18 ?_); refine wpL_loadF rfl 3 (.tmp 17) rfl g 38 rfl (.int .i64 f.state) HG.out HA.out.2.1 Try.underlying3 rfl ?_; simp only [PT])
      | ((with_reducible refine sl 23 ?_); refine wpL_loadF rfl 3 (.tmp 22) rfl g 39 rfl (.int .i64 f.seen) HG.out HA.out.2.2.1 Try.underlying3 rfl ?_; simp only [PT])
      | ((with_reducible refine sl 28 ?_); refine wpL_loadF rfl 3 (.tmp 27) rfl g 39 rfl (.int .i64 f.seen) HG.out HA.out.2.2.1 Try.underlying3 rfl ?_; simp only [PT])
      | ((with_reducible refine sl 33 ?_); refine wpL_loadF rfl 3 (.tmp 32) rfl g 40 rfl (.int .i64 f.no) HG.out HA.out.2.2.2 Try.underlying3 rfl ?_; simp only [PT])
      | ((with_reducible refine sl 38 ?_); refine wpL_loadF rfl 3 (.tmp 37) rfl g 40 rfl (.int .i64 f.no) HG.out HA.out.2.2.2 Try.underlying3 rfl ?_; simp only [PT]))
    go_ret
    rw [HR.out]
    exact ⟨rfl, HB.out⟩
  rcases two (nameB f.name) with h1 | h1
  rotate_left
  · have HR : Hid (R = false) := Lib.hid (by rw [hR]; simp only [h0, h1, Bool.and_false, Bool.false_and, Bool.true_and])
    clear hR
    go_wp2_with (first
      | ((with_reducible refine sl 1 ?_); go_must (refine wpL_boxG rfl 28 (.tmp 0) rfl f.cells.toArray rfl ?_); intro w1 g he__ le_g lt_g hg__ hb__; have HG := Lib.hid hg__; have hE__ := cU HB bup hb__; replace HB := ck HB hE__; clear hE__; clear hg__ hb__ he__; simp only [PT])
      | ((with_reducible refine sl 4 ?_); refine wpL_load rfl 26 (.tmp 3) rfl g 0 rfl f.key.cells _ (range_sub HG.out HS.out) Try.underlying26 rfl HI1.out ?_; simp only [PT])
      | (go_at_call 32; refine (known_any f.key HL.out.1 _).mono ?_; rintro e w2 ⟨rfl, hb2⟩; have hE__ := cU HB bup hb2; replace HB := ck HB hE__; replace HG := ck HG hE__; clear hE__; clear hb2)
      | ((with_reducible refine sl 8 ?_); refine wpL_loadF rfl 9 (.tmp 7) rfl g 37 rfl (.string f.name) HG.out HA.out.1 Try.underlying9 rfl ?_; simp only [PT])
      | (go_at_call 33; refine (name_any f.name hsz _).mono ?_; rintro e w3 ⟨rfl, hb3⟩; have hE__ := cU HB bup hb3; replace HB := ck HB hE__; replace HG := ck HG hE__; clear hE__; clear hb3)
      | ((with_reducible refine sl 13 ?_); refine wpL_loadF rfl 3 (.tmp 12) rfl g 38 rfl (.int .i64 f.state) HG.out HA.out.2.1 Try.underlying3 rfl ?_; simp only [PT])
      | ((with_reducible refine sl 18 ?_); refine wpL_loadF rfl 3 (.tmp 17) rfl g 38 rfl (.int .i64 f.state) HG.out HA.out.2.1 Try.underlying3 rfl ?_; simp only [PT])
      | ((with_reducible refine sl 23 ?_); refine wpL_loadF rfl 3 (.tmp 22) rfl g 39 rfl (.int .i64 f.seen) HG.out HA.out.2.2.1 Try.underlying3 rfl ?_; simp only [PT])
      | ((with_reducible refine sl 28 ?_); refine wpL_loadF rfl 3 (.tmp 27) rfl g 39 rfl (.int .i64 f.seen) HG.out HA.out.2.2.1 Try.underlying3 rfl ?_; simp only [PT])
      | ((with_reducible refine sl 33 ?_); refine wpL_loadF rfl 3 (.tmp 32) rfl g 40 rfl (.int .i64 f.no) HG.out HA.out.2.2.2 Try.underlying3 rfl ?_; simp only [PT])
      | ((with_reducible refine sl 38 ?_); refine wpL_loadF rfl 3 (.tmp 37) rfl g 40 rfl (.int .i64 f.no) HG.out HA.out.2.2.2 Try.underlying3 rfl ?_; simp only [PT]))
    go_ret
    rw [HR.out]
    exact ⟨rfl, HB.out⟩
  rcases two (decide (1 ≤ f.state)) with h2 | h2
  rotate_left
  · have HR : Hid (R = false) := Lib.hid (by rw [hR]; simp only [h0, h1, h2, Bool.and_false, Bool.false_and, Bool.true_and])
    clear hR
    go_wp2_with (first
      | ((with_reducible refine sl 1 ?_); go_must (refine wpL_boxG rfl 28 (.tmp 0) rfl f.cells.toArray rfl ?_); intro w1 g he__ le_g lt_g hg__ hb__; have HG := Lib.hid hg__; have hE__ := cU HB bup hb__; replace HB := ck HB hE__; clear hE__; clear hg__ hb__ he__; simp only [PT])
      | ((with_reducible refine sl 4 ?_); refine wpL_load rfl 26 (.tmp 3) rfl g 0 rfl f.key.cells _ (range_sub HG.out HS.out) Try.underlying26 rfl HI1.out ?_; simp only [PT])
      | (go_at_call 32; refine (known_any f.key HL.out.1 _).mono ?_; rintro e w2 ⟨rfl, hb2⟩; have hE__ := cU HB bup hb2; replace HB := ck HB hE__; replace HG := ck HG hE__; clear hE__; clear hb2)
      | ((with_reducible refine sl 8 ?_); refine wpL_loadF rfl 9 (.tmp 7) rfl g 37 rfl (.string f.name) HG.out HA.out.1 Try.underlying9 rfl ?_; simp only [PT])
      | (go_at_call 33; refine (name_any f.name hsz _).mono ?_; rintro e w3 ⟨rfl, hb3⟩; have hE__ := cU HB bup hb3; replace HB := ck HB hE__; replace HG := ck HG hE__; clear hE__; clear hb3)
      | ((with_reducible refine sl 13 ?_); refine wpL_loadF rfl 3 (.tmp 12) rfl g 38 rfl (.int .i64 f.state) HG.out HA.out.2.1 Try.underlying3 rfl ?_; simp only [PT])
      | ((with_reducible refine sl 18 ?_); refine wpL_loadF rfl 3 (.tmp 17) rfl g 38 rfl (.int .i64 f.state) HG.out HA.out.2.1 Try.underlying3 rfl ?_; simp only [PT])
      | ((with_reducible refine sl 23 ?_); refine wpL_loadF rfl 3 (.tmp 22) rfl g 39 rfl (.int .i64 f.seen) HG.out HA.out.2.2.1 Try.underlying3 rfl ?_; simp only [PT])
      | ((with_reducible refine sl 28 ?_); refine wpL_loadF rfl 3 (.tmp 27) rfl g 39 rfl (.int .i64 f.seen) HG.out HA.out.2.2.1 Try.underlying3 rfl ?_; simp only [PT])
      | ((with_reducible refine sl 33 ?_); refine wpL_loadF rfl 3 (.tmp 32) rfl g 40 rfl (.int .i64 f.no) HG.out HA.out.2.2.2 Try.underlying3 rfl ?_; simp only [PT])
      | ((with_reducible refine sl 38 ?_); refine wpL_loadF rfl 3 (.tmp 37) rfl g 40 rfl (.int .i64 f.no) HG.out HA.out.2.2.2 Try.underlying3 rfl ?_; simp only [PT]))
    go_ret
    rw [HR.out]
    exact ⟨rfl, HB.out⟩
  rcases two (decide (f.state ≤ 5)) with h3 | h3
  rotate_left
  · have HR : Hid (R = false) := Lib.hid (by rw [hR]; simp only [h0, h1, h2, h3, Bool.and_false, Bool.false_and, Bool.true_and])
    clear hR
    go_wp2_with (first
      | ((with_reducible refine sl 1 ?_); go_must (refine wpL_boxG rfl 28 (.tmp 0) rfl f.cells.toArray rfl ?_); intro w1 g he__ le_g lt_g hg__ hb__; have HG := Lib.hid hg__; have hE__ := cU HB bup hb__; replace HB := ck HB hE__; clear hE__; clear hg__ hb__ he__; simp only [PT])
      | ((with_reducible refine sl 4 ?_); refine wpL_load rfl 26 (.tmp 3) rfl g 0 rfl f.key.cells _ (range_sub HG.out HS.out) Try.underlying26 rfl HI1.out ?_; simp only [PT])
      | (go_at_call 32; refine (known_any f.key HL.out.1 _).mono ?_; rintro e w2 ⟨rfl, hb2⟩; have hE__ := cU HB bup hb2; replace HB := ck HB hE__; replace HG := ck HG hE__; clear hE__; clear hb2)
      | ((with_reducible refine sl 8 ?_); refine wpL_loadF rfl 9 (.tmp 7) rfl g 37 rfl (.string f.name) HG.out HA.out.1 Try.underlying9 rfl ?_; simp only [PT])
      | (go_at_call 33; refine (name_any f.name hsz _).mono ?_; rintro e w3 ⟨rfl, hb3⟩; have hE__ := cU HB bup hb3; replace HB := ck HB hE__; replace HG := ck HG hE__; clear hE__; clear hb3)
      | ((with_reducible refine sl 13 ?_); refine wpL_loadF rfl 3 (.tmp 12) rfl g 38 rfl (.int .i64 f.state) HG.out HA.out.2.1 Try.underlying3 rfl ?_; simp only [PT])
      | ((with_reducible refine sl 18 ?_); refine wpL_loadF rfl 3 (.tmp 17) rfl g 38 rfl (.int .i64 f.state) HG.out HA.out.2.1 Try.underlying3 rfl ?_; simp only [PT])
      | ((with_reducible refine sl 23 ?_); refine wpL_loadF rfl 3 (.tmp 22) rfl g 39 rfl (.int .i64 f.seen) HG.out HA.out.2.2.1 Try.underlying3 rfl ?_; simp only [PT])
      | ((with_reducible refine sl 28 ?_); refine wpL_loadF rfl 3 (.tmp 27) rfl g 39 rfl (.int .i64 f.seen) HG.out HA.out.2.2.1 Try.underlying3 rfl ?_; simp only [PT])
      | ((with_reducible refine sl 33 ?_); refine wpL_loadF rfl 3 (.tmp 32) rfl g 40 rfl (.int .i64 f.no) HG.out HA.out.2.2.2 Try.underlying3 rfl ?_; simp only [PT])
      | ((with_reducible refine sl 38 ?_); refine wpL_loadF rfl 3 (.tmp 37) rfl g 40 rfl (.int .i64 f.no) HG.out HA.out.2.2.2 Try.underlying3 rfl ?_; simp only [PT]))
    go_ret
    rw [HR.out]
    exact ⟨rfl, HB.out⟩
  rcases two (decide (0 ≤ f.seen)) with h4 | h4
  rotate_left
  · have HR : Hid (R = false) := Lib.hid (by rw [hR]; simp only [h0, h1, h2, h3, h4, Bool.and_false, Bool.false_and, Bool.true_and])
    clear hR
    go_wp2_with (first
      | ((with_reducible refine sl 1 ?_); go_must (refine wpL_boxG rfl 28 (.tmp 0) rfl f.cells.toArray rfl ?_); intro w1 g he__ le_g lt_g hg__ hb__; have HG := Lib.hid hg__; have hE__ := cU HB bup hb__; replace HB := ck HB hE__; clear hE__; clear hg__ hb__ he__; simp only [PT])
      | ((with_reducible refine sl 4 ?_); refine wpL_load rfl 26 (.tmp 3) rfl g 0 rfl f.key.cells _ (range_sub HG.out HS.out) Try.underlying26 rfl HI1.out ?_; simp only [PT])
      | (go_at_call 32; refine (known_any f.key HL.out.1 _).mono ?_; rintro e w2 ⟨rfl, hb2⟩; have hE__ := cU HB bup hb2; replace HB := ck HB hE__; replace HG := ck HG hE__; clear hE__; clear hb2)
      | ((with_reducible refine sl 8 ?_); refine wpL_loadF rfl 9 (.tmp 7) rfl g 37 rfl (.string f.name) HG.out HA.out.1 Try.underlying9 rfl ?_; simp only [PT])
      | (go_at_call 33; refine (name_any f.name hsz _).mono ?_; rintro e w3 ⟨rfl, hb3⟩; have hE__ := cU HB bup hb3; replace HB := ck HB hE__; replace HG := ck HG hE__; clear hE__; clear hb3)
      | ((with_reducible refine sl 13 ?_); refine wpL_loadF rfl 3 (.tmp 12) rfl g 38 rfl (.int .i64 f.state) HG.out HA.out.2.1 Try.underlying3 rfl ?_; simp only [PT])
      | ((with_reducible refine sl 18 ?_); refine wpL_loadF rfl 3 (.tmp 17) rfl g 38 rfl (.int .i64 f.state) HG.out HA.out.2.1 Try.underlying3 rfl ?_; simp only [PT])
      | ((with_reducible refine sl 23 ?_); refine wpL_loadF rfl 3 (.tmp 22) rfl g 39 rfl (.int .i64 f.seen) HG.out HA.out.2.2.1 Try.underlying3 rfl ?_; simp only [PT])
      | ((with_reducible refine sl 28 ?_); refine wpL_loadF rfl 3 (.tmp 27) rfl g 39 rfl (.int .i64 f.seen) HG.out HA.out.2.2.1 Try.underlying3 rfl ?_; simp only [PT])
      | ((with_reducible refine sl 33 ?_); refine wpL_loadF rfl 3 (.tmp 32) rfl g 40 rfl (.int .i64 f.no) HG.out HA.out.2.2.2 Try.underlying3 rfl ?_; simp only [PT])
      | ((with_reducible refine sl 38 ?_); refine wpL_loadF rfl 3 (.tmp 37) rfl g 40 rfl (.int .i64 f.no) HG.out HA.out.2.2.2 Try.underlying3 rfl ?_; simp only [PT]))
    go_ret
    rw [HR.out]
    exact ⟨rfl, HB.out⟩
  rcases two (decide (f.seen ≤ 1099511627776)) with h5 | h5
  rotate_left
  · have HR : Hid (R = false) := Lib.hid (by rw [hR]; simp only [h0, h1, h2, h3, h4, h5, Bool.and_false, Bool.false_and, Bool.true_and])
    clear hR
    go_wp2_with (first
      | ((with_reducible refine sl 1 ?_); go_must (refine wpL_boxG rfl 28 (.tmp 0) rfl f.cells.toArray rfl ?_); intro w1 g he__ le_g lt_g hg__ hb__; have HG := Lib.hid hg__; have hE__ := cU HB bup hb__; replace HB := ck HB hE__; clear hE__; clear hg__ hb__ he__; simp only [PT])
      | ((with_reducible refine sl 4 ?_); refine wpL_load rfl 26 (.tmp 3) rfl g 0 rfl f.key.cells _ (range_sub HG.out HS.out) Try.underlying26 rfl HI1.out ?_; simp only [PT])
      | (go_at_call 32; refine (known_any f.key HL.out.1 _).mono ?_; rintro e w2 ⟨rfl, hb2⟩; have hE__ := cU HB bup hb2; replace HB := ck HB hE__; replace HG := ck HG hE__; clear hE__; clear hb2)
      | ((with_reducible refine sl 8 ?_); refine wpL_loadF rfl 9 (.tmp 7) rfl g 37 rfl (.string f.name) HG.out HA.out.1 Try.underlying9 rfl ?_; simp only [PT])
      | (go_at_call 33; refine (name_any f.name hsz _).mono ?_; rintro e w3 ⟨rfl, hb3⟩; have hE__ := cU HB bup hb3; replace HB := ck HB hE__; replace HG := ck HG hE__; clear hE__; clear hb3)
      | ((with_reducible refine sl 13 ?_); refine wpL_loadF rfl 3 (.tmp 12) rfl g 38 rfl (.int .i64 f.state) HG.out HA.out.2.1 Try.underlying3 rfl ?_; simp only [PT])
      | ((with_reducible refine sl 18 ?_); refine wpL_loadF rfl 3 (.tmp 17) rfl g 38 rfl (.int .i64 f.state) HG.out HA.out.2.1 Try.underlying3 rfl ?_; simp only [PT])
      | ((with_reducible refine sl 23 ?_); refine wpL_loadF rfl 3 (.tmp 22) rfl g 39 rfl (.int .i64 f.seen) HG.out HA.out.2.2.1 Try.underlying3 rfl ?_; simp only [PT])
      | ((with_reducible refine sl 28 ?_); refine wpL_loadF rfl 3 (.tmp 27) rfl g 39 rfl (.int .i64 f.seen) HG.out HA.out.2.2.1 Try.underlying3 rfl ?_; simp only [PT])
      | ((with_reducible refine sl 33 ?_); refine wpL_loadF rfl 3 (.tmp 32) rfl g 40 rfl (.int .i64 f.no) HG.out HA.out.2.2.2 Try.underlying3 rfl ?_; simp only [PT])
      | ((with_reducible refine sl 38 ?_); refine wpL_loadF rfl 3 (.tmp 37) rfl g 40 rfl (.int .i64 f.no) HG.out HA.out.2.2.2 Try.underlying3 rfl ?_; simp only [PT]))
    go_ret
    rw [HR.out]
    exact ⟨rfl, HB.out⟩
  rcases two (decide (0 ≤ f.no)) with h6 | h6
  rotate_left
  · have HR : Hid (R = false) := Lib.hid (by rw [hR]; simp only [h0, h1, h2, h3, h4, h5, h6, Bool.and_false, Bool.false_and, Bool.true_and])
    clear hR
    go_wp2_with (first
      | ((with_reducible refine sl 1 ?_); go_must (refine wpL_boxG rfl 28 (.tmp 0) rfl f.cells.toArray rfl ?_); intro w1 g he__ le_g lt_g hg__ hb__; have HG := Lib.hid hg__; have hE__ := cU HB bup hb__; replace HB := ck HB hE__; clear hE__; clear hg__ hb__ he__; simp only [PT])
      | ((with_reducible refine sl 4 ?_); refine wpL_load rfl 26 (.tmp 3) rfl g 0 rfl f.key.cells _ (range_sub HG.out HS.out) Try.underlying26 rfl HI1.out ?_; simp only [PT])
      | (go_at_call 32; refine (known_any f.key HL.out.1 _).mono ?_; rintro e w2 ⟨rfl, hb2⟩; have hE__ := cU HB bup hb2; replace HB := ck HB hE__; replace HG := ck HG hE__; clear hE__; clear hb2)
      | ((with_reducible refine sl 8 ?_); refine wpL_loadF rfl 9 (.tmp 7) rfl g 37 rfl (.string f.name) HG.out HA.out.1 Try.underlying9 rfl ?_; simp only [PT])
      | (go_at_call 33; refine (name_any f.name hsz _).mono ?_; rintro e w3 ⟨rfl, hb3⟩; have hE__ := cU HB bup hb3; replace HB := ck HB hE__; replace HG := ck HG hE__; clear hE__; clear hb3)
      | ((with_reducible refine sl 13 ?_); refine wpL_loadF rfl 3 (.tmp 12) rfl g 38 rfl (.int .i64 f.state) HG.out HA.out.2.1 Try.underlying3 rfl ?_; simp only [PT])
      | ((with_reducible refine sl 18 ?_); refine wpL_loadF rfl 3 (.tmp 17) rfl g 38 rfl (.int .i64 f.state) HG.out HA.out.2.1 Try.underlying3 rfl ?_; simp only [PT])
      | ((with_reducible refine sl 23 ?_); refine wpL_loadF rfl 3 (.tmp 22) rfl g 39 rfl (.int .i64 f.seen) HG.out HA.out.2.2.1 Try.underlying3 rfl ?_; simp only [PT])
      | ((with_reducible refine sl 28 ?_); refine wpL_loadF rfl 3 (.tmp 27) rfl g 39 rfl (.int .i64 f.seen) HG.out HA.out.2.2.1 Try.underlying3 rfl ?_; simp only [PT])
      | ((with_reducible refine sl 33 ?_); refine wpL_loadF rfl 3 (.tmp 32) rfl g 40 rfl (.int .i64 f.no) HG.out HA.out.2.2.2 Try.underlying3 rfl ?_; simp only [PT])
      | ((with_reducible refine sl 38 ?_); refine wpL_loadF rfl 3 (.tmp 37) rfl g 40 rfl (.int .i64 f.no) HG.out HA.out.2.2.2 Try.underlying3 rfl ?_; simp only [PT]))
    go_ret
    rw [HR.out]
    exact ⟨rfl, HB.out⟩
  rcases two (decide (f.no ≤ 1152921504606846976)) with h7 | h7
  rotate_left
  · have HR : Hid (R = false) := Lib.hid (by rw [hR]; simp only [h0, h1, h2, h3, h4, h5, h6, h7, Bool.and_false, Bool.false_and, Bool.true_and])
    clear hR
    go_wp2_with (first
      | ((with_reducible refine sl 1 ?_); go_must (refine wpL_boxG rfl 28 (.tmp 0) rfl f.cells.toArray rfl ?_); intro w1 g he__ le_g lt_g hg__ hb__; have HG := Lib.hid hg__; have hE__ := cU HB bup hb__; replace HB := ck HB hE__; clear hE__; clear hg__ hb__ he__; simp only [PT])
      | ((with_reducible refine sl 4 ?_); refine wpL_load rfl 26 (.tmp 3) rfl g 0 rfl f.key.cells _ (range_sub HG.out HS.out) Try.underlying26 rfl HI1.out ?_; simp only [PT])
      | (go_at_call 32; refine (known_any f.key HL.out.1 _).mono ?_; rintro e w2 ⟨rfl, hb2⟩; have hE__ := cU HB bup hb2; replace HB := ck HB hE__; replace HG := ck HG hE__; clear hE__; clear hb2)
      | ((with_reducible refine sl 8 ?_); refine wpL_loadF rfl 9 (.tmp 7) rfl g 37 rfl (.string f.name) HG.out HA.out.1 Try.underlying9 rfl ?_; simp only [PT])
      | (go_at_call 33; refine (name_any f.name hsz _).mono ?_; rintro e w3 ⟨rfl, hb3⟩; have hE__ := cU HB bup hb3; replace HB := ck HB hE__; replace HG := ck HG hE__; clear hE__; clear hb3)
      | ((with_reducible refine sl 13 ?_); refine wpL_loadF rfl 3 (.tmp 12) rfl g 38 rfl (.int .i64 f.state) HG.out HA.out.2.1 Try.underlying3 rfl ?_; simp only [PT])
      | ((with_reducible refine sl 18 ?_); refine wpL_loadF rfl 3 (.tmp 17) rfl g 38 rfl (.int .i64 f.state) HG.out HA.out.2.1 Try.underlying3 rfl ?_; simp only [PT])
      | ((with_reducible refine sl 23 ?_); refine wpL_loadF rfl 3 (.tmp 22) rfl g 39 rfl (.int .i64 f.seen) HG.out HA.out.2.2.1 Try.underlying3 rfl ?_; simp only [PT])
      | ((with_reducible refine sl 28 ?_); refine wpL_loadF rfl 3 (.tmp 27) rfl g 39 rfl (.int .i64 f.seen) HG.out HA.out.2.2.1 Try.underlying3 rfl ?_; simp only [PT])
      | ((with_reducible refine sl 33 ?_); refine wpL_loadF rfl 3 (.tmp 32) rfl g 40 rfl (.int .i64 f.no) HG.out HA.out.2.2.2 Try.underlying3 rfl ?_; simp only [PT])
      | ((with_reducible refine sl 38 ?_); refine wpL_loadF rfl 3 (.tmp 37) rfl g 40 rfl (.int .i64 f.no) HG.out HA.out.2.2.2 Try.underlying3 rfl ?_; simp only [PT]))
    go_ret
    rw [HR.out]
    exact ⟨rfl, HB.out⟩
  have HR : Hid (R = true) := Lib.hid (by rw [hR]; simp only [h0, h1, h2, h3, h4, h5, h6, h7, Bool.true_and])
  clear hR
  go_wp2_with (first
    | ((with_reducible refine sl 1 ?_); go_must (refine wpL_boxG rfl 28 (.tmp 0) rfl f.cells.toArray rfl ?_); intro w1 g he__ le_g lt_g hg__ hb__; have HG := Lib.hid hg__; have hE__ := cU HB bup hb__; replace HB := ck HB hE__; clear hE__; clear hg__ hb__ he__; simp only [PT])
    | ((with_reducible refine sl 4 ?_); refine wpL_load rfl 26 (.tmp 3) rfl g 0 rfl f.key.cells _ (range_sub HG.out HS.out) Try.underlying26 rfl HI1.out ?_; simp only [PT])
    | (go_at_call 32; refine (known_any f.key HL.out.1 _).mono ?_; rintro e w2 ⟨rfl, hb2⟩; have hE__ := cU HB bup hb2; replace HB := ck HB hE__; replace HG := ck HG hE__; clear hE__; clear hb2)
    | ((with_reducible refine sl 8 ?_); refine wpL_loadF rfl 9 (.tmp 7) rfl g 37 rfl (.string f.name) HG.out HA.out.1 Try.underlying9 rfl ?_; simp only [PT])
    | (go_at_call 33; refine (name_any f.name hsz _).mono ?_; rintro e w3 ⟨rfl, hb3⟩; have hE__ := cU HB bup hb3; replace HB := ck HB hE__; replace HG := ck HG hE__; clear hE__; clear hb3)
    | ((with_reducible refine sl 13 ?_); refine wpL_loadF rfl 3 (.tmp 12) rfl g 38 rfl (.int .i64 f.state) HG.out HA.out.2.1 Try.underlying3 rfl ?_; simp only [PT])
    | ((with_reducible refine sl 18 ?_); refine wpL_loadF rfl 3 (.tmp 17) rfl g 38 rfl (.int .i64 f.state) HG.out HA.out.2.1 Try.underlying3 rfl ?_; simp only [PT])
    | ((with_reducible refine sl 23 ?_); refine wpL_loadF rfl 3 (.tmp 22) rfl g 39 rfl (.int .i64 f.seen) HG.out HA.out.2.2.1 Try.underlying3 rfl ?_; simp only [PT])
    | ((with_reducible refine sl 28 ?_); refine wpL_loadF rfl 3 (.tmp 27) rfl g 39 rfl (.int .i64 f.seen) HG.out HA.out.2.2.1 Try.underlying3 rfl ?_; simp only [PT])
    | ((with_reducible refine sl 33 ?_); refine wpL_loadF rfl 3 (.tmp 32) rfl g 40 rfl (.int .i64 f.no) HG.out HA.out.2.2.2 Try.underlying3 rfl ?_; simp only [PT])
    | ((with_reducible refine sl 38 ?_); refine wpL_loadF rfl 3 (.tmp 37) rfl g 40 rfl (.int .i64 f.no) HG.out HA.out.2.2.2 Try.underlying3 rfl ?_; simp only [PT]))
  go_ret
  rw [HR.out]
  exact ⟨rfl, HB.out⟩
theorem refRight_any (f : Flo) (ho : f.ok) (hsz : f.name.size ≤ 140737488351232) (w : World) :
    Calls Try.prog 14 #[.agg f.cells.toArray] w fun e w' => e = .returned (.bool (rightF f)) ∧ Below w.heap.size w w' := by
  have HB := Lib.hid (Below.refl w.heap.size w)
  have HA := Lib.hid (Flo.geta ho)
  have HS := Lib.hid (Flo.tup ho)
  have HL := Lib.hid ho
  have HI1 : Hid ((Try.prog.info? 26).map (·.size) = some f.key.cells.length) := Lib.hid (by rw [Tup.length ho.1]; exact tup_size)
  obtain ⟨R, hR⟩ : ∃ R, R = rightF f := ⟨_, rfl⟩
  rw [← hR]
  unfold rightF at hR
  clear ho
  go_enter Try.func14, Try.ntmps14
  rcases two (knownT f.key) with h0 | h0
  rotate_left
  · have HR : Hid (R = false) := Lib.hid (by rw [hR]; simp only [h0, Bool.and_false, Bool.false_and, Bool.true_and])
    clear hR
    go_wp2_with (first
      | ((with_reducible refine sl 1 ?_); go_must (refine wpL_boxG rfl 28 (.tmp 0) rfl f.cells.toArray rfl ?_); intro w1 g he__ le_g lt_g hg__ hb__; have HG := Lib.hid hg__; have hE__ := cU HB bup hb__; replace HB := ck HB hE__; clear hE__; clear hg__ hb__ he__; simp only [PT])
      | ((with_reducible refine sl 4 ?_); refine wpL_load rfl 26 (.tmp 3) rfl g 0 rfl f.key.cells _ (range_sub HG.out HS.out) Try.underlying26 rfl HI1.out ?_; simp only [PT])
      | (go_at_call 34; refine (refKnown_any f.key HL.out.1 _).mono ?_; rintro e w2 ⟨rfl, hb2⟩; have hE__ := cU HB bup hb2; replace HB := ck HB hE__; replace HG := ck HG hE__; clear hE__; clear hb2)
      | ((with_reducible refine sl 8 ?_); refine wpL_loadF rfl 9 (.tmp 7) rfl g 37 rfl (.string f.name) HG.out HA.out.1 Try.underlying9 rfl ?_; simp only [PT])
      | (go_at_call 35; refine (refName_any f.name hsz _).mono ?_; rintro e w3 ⟨rfl, rfl⟩)
      | ((with_reducible refine sl 13 ?_); refine wpL_loadF rfl 3 (.tmp 12) rfl g 38 rfl (.int .i64 f.state) HG.out HA.out.2.1 Try.underlying3 rfl ?_; simp only [PT])
      | ((with_reducible refine sl 18 ?_); refine wpL_loadF rfl 3 (.tmp 17) rfl g 38 rfl (.int .i64 f.state) HG.out HA.out.2.1 Try.underlying3 rfl ?_; simp only [PT])
      | ((with_reducible refine sl 23 ?_); refine wpL_loadF rfl 3 (.tmp 22) rfl g 39 rfl (.int .i64 f.seen) HG.out HA.out.2.2.1 Try.underlying3 rfl ?_; simp only [PT])
      | ((with_reducible refine sl 28 ?_); refine wpL_loadF rfl 3 (.tmp 27) rfl g 39 rfl (.int .i64 f.seen) HG.out HA.out.2.2.1 Try.underlying3 rfl ?_; simp only [PT])
      | ((with_reducible refine sl 33 ?_); refine wpL_loadF rfl 3 (.tmp 32) rfl g 40 rfl (.int .i64 f.no) HG.out HA.out.2.2.2 Try.underlying3 rfl ?_; simp only [PT])
      | ((with_reducible refine sl 38 ?_); refine wpL_loadF rfl 3 (.tmp 37) rfl g 40 rfl (.int .i64 f.no) HG.out HA.out.2.2.2 Try.underlying3 rfl ?_; simp only [PT]))
    go_ret
    rw [HR.out]
    exact ⟨rfl, HB.out⟩
  rcases two (nameB f.name) with h1 | h1
  rotate_left
  · have HR : Hid (R = false) := Lib.hid (by rw [hR]; simp only [h0, h1, Bool.and_false, Bool.false_and, Bool.true_and])
    clear hR
    go_wp2_with (first
      | ((with_reducible refine sl 1 ?_); go_must (refine wpL_boxG rfl 28 (.tmp 0) rfl f.cells.toArray rfl ?_); intro w1 g he__ le_g lt_g hg__ hb__; have HG := Lib.hid hg__; have hE__ := cU HB bup hb__; replace HB := ck HB hE__; clear hE__; clear hg__ hb__ he__; simp only [PT])
      | ((with_reducible refine sl 4 ?_); refine wpL_load rfl 26 (.tmp 3) rfl g 0 rfl f.key.cells _ (range_sub HG.out HS.out) Try.underlying26 rfl HI1.out ?_; simp only [PT])
      | (go_at_call 34; refine (refKnown_any f.key HL.out.1 _).mono ?_; rintro e w2 ⟨rfl, hb2⟩; have hE__ := cU HB bup hb2; replace HB := ck HB hE__; replace HG := ck HG hE__; clear hE__; clear hb2)
      | ((with_reducible refine sl 8 ?_); refine wpL_loadF rfl 9 (.tmp 7) rfl g 37 rfl (.string f.name) HG.out HA.out.1 Try.underlying9 rfl ?_; simp only [PT])
      | (go_at_call 35; refine (refName_any f.name hsz _).mono ?_; rintro e w3 ⟨rfl, rfl⟩)
      | ((with_reducible refine sl 13 ?_); refine wpL_loadF rfl 3 (.tmp 12) rfl g 38 rfl (.int .i64 f.state) HG.out HA.out.2.1 Try.underlying3 rfl ?_; simp only [PT])
      | ((with_reducible refine sl 18 ?_); refine wpL_loadF rfl 3 (.tmp 17) rfl g 38 rfl (.int .i64 f.state) HG.out HA.out.2.1 Try.underlying3 rfl ?_; simp only [PT])
      | ((with_reducible refine sl 23 ?_); refine wpL_loadF rfl 3 (.tmp 22) rfl g 39 rfl (.int .i64 f.seen) HG.out HA.out.2.2.1 Try.underlying3 rfl ?_; simp only [PT])
      | ((with_reducible refine sl 28 ?_); refine wpL_loadF rfl 3 (.tmp 27) rfl g 39 rfl (.int .i64 f.seen) HG.out HA.out.2.2.1 Try.underlying3 rfl ?_; simp only [PT])
      | ((with_reducible refine sl 33 ?_); refine wpL_loadF rfl 3 (.tmp 32) rfl g 40 rfl (.int .i64 f.no) HG.out HA.out.2.2.2 Try.underlying3 rfl ?_; simp only [PT])
      | ((with_reducible refine sl 38 ?_); refine wpL_loadF rfl 3 (.tmp 37) rfl g 40 rfl (.int .i64 f.no) HG.out HA.out.2.2.2 Try.underlying3 rfl ?_; simp only [PT]))
    go_ret
    rw [HR.out]
    exact ⟨rfl, HB.out⟩
  rcases two (decide (1 ≤ f.state)) with h2 | h2
  rotate_left
  · have HR : Hid (R = false) := Lib.hid (by rw [hR]; simp only [h0, h1, h2, Bool.and_false, Bool.false_and, Bool.true_and])
    clear hR
    go_wp2_with (first
      | ((with_reducible refine sl 1 ?_); go_must (refine wpL_boxG rfl 28 (.tmp 0) rfl f.cells.toArray rfl ?_); intro w1 g he__ le_g lt_g hg__ hb__; have HG := Lib.hid hg__; have hE__ := cU HB bup hb__; replace HB := ck HB hE__; clear hE__; clear hg__ hb__ he__; simp only [PT])
      | ((with_reducible refine sl 4 ?_); refine wpL_load rfl 26 (.tmp 3) rfl g 0 rfl f.key.cells _ (range_sub HG.out HS.out) Try.underlying26 rfl HI1.out ?_; simp only [PT])
      | (go_at_call 34; refine (refKnown_any f.key HL.out.1 _).mono ?_; rintro e w2 ⟨rfl, hb2⟩; have hE__ := cU HB bup hb2; replace HB := ck HB hE__; replace HG := ck HG hE__; clear hE__; clear hb2)
      | ((with_reducible refine sl 8 ?_); refine wpL_loadF rfl 9 (.tmp 7) rfl g 37 rfl (.string f.name) HG.out HA.out.1 Try.underlying9 rfl ?_; simp only [PT])
      | (go_at_call 35; refine (refName_any f.name hsz _).mono ?_; rintro e w3 ⟨rfl, rfl⟩)
      | ((with_reducible refine sl 13 ?_); refine wpL_loadF rfl 3 (.tmp 12) rfl g 38 rfl (.int .i64 f.state) HG.out HA.out.2.1 Try.underlying3 rfl ?_; simp only [PT])
      | ((with_reducible refine sl 18 ?_); refine wpL_loadF rfl 3 (.tmp 17) rfl g 38 rfl (.int .i64 f.state) HG.out HA.out.2.1 Try.underlying3 rfl ?_; simp only [PT])
      | ((with_reducible refine sl 23 ?_); refine wpL_loadF rfl 3 (.tmp 22) rfl g 39 rfl (.int .i64 f.seen) HG.out HA.out.2.2.1 Try.underlying3 rfl ?_; simp only [PT])
      | ((with_reducible refine sl 28 ?_); refine wpL_loadF rfl 3 (.tmp 27) rfl g 39 rfl (.int .i64 f.seen) HG.out HA.out.2.2.1 Try.underlying3 rfl ?_; simp only [PT])
      | ((with_reducible refine sl 33 ?_); refine wpL_loadF rfl 3 (.tmp 32) rfl g 40 rfl (.int .i64 f.no) HG.out HA.out.2.2.2 Try.underlying3 rfl ?_; simp only [PT])
      | ((with_reducible refine sl 38 ?_); refine wpL_loadF rfl 3 (.tmp 37) rfl g 40 rfl (.int .i64 f.no) HG.out HA.out.2.2.2 Try.underlying3 rfl ?_; simp only [PT]))
    go_ret
    rw [HR.out]
    exact ⟨rfl, HB.out⟩
  rcases two (decide (f.state ≤ 5)) with h3 | h3
  rotate_left
  · have HR : Hid (R = false) := Lib.hid (by rw [hR]; simp only [h0, h1, h2, h3, Bool.and_false, Bool.false_and, Bool.true_and])
    clear hR
    go_wp2_with (first
      | ((with_reducible refine sl 1 ?_); go_must (refine wpL_boxG rfl 28 (.tmp 0) rfl f.cells.toArray rfl ?_); intro w1 g he__ le_g lt_g hg__ hb__; have HG := Lib.hid hg__; have hE__ := cU HB bup hb__; replace HB := ck HB hE__; clear hE__; clear hg__ hb__ he__; simp only [PT])
      | ((with_reducible refine sl 4 ?_); refine wpL_load rfl 26 (.tmp 3) rfl g 0 rfl f.key.cells _ (range_sub HG.out HS.out) Try.underlying26 rfl HI1.out ?_; simp only [PT])
      | (go_at_call 34; refine (refKnown_any f.key HL.out.1 _).mono ?_; rintro e w2 ⟨rfl, hb2⟩; have hE__ := cU HB bup hb2; replace HB := ck HB hE__; replace HG := ck HG hE__; clear hE__; clear hb2)
      | ((with_reducible refine sl 8 ?_); refine wpL_loadF rfl 9 (.tmp 7) rfl g 37 rfl (.string f.name) HG.out HA.out.1 Try.underlying9 rfl ?_; simp only [PT])
      | (go_at_call 35; refine (refName_any f.name hsz _).mono ?_; rintro e w3 ⟨rfl, rfl⟩)
      | ((with_reducible refine sl 13 ?_); refine wpL_loadF rfl 3 (.tmp 12) rfl g 38 rfl (.int .i64 f.state) HG.out HA.out.2.1 Try.underlying3 rfl ?_; simp only [PT])
      | ((with_reducible refine sl 18 ?_); refine wpL_loadF rfl 3 (.tmp 17) rfl g 38 rfl (.int .i64 f.state) HG.out HA.out.2.1 Try.underlying3 rfl ?_; simp only [PT])
      | ((with_reducible refine sl 23 ?_); refine wpL_loadF rfl 3 (.tmp 22) rfl g 39 rfl (.int .i64 f.seen) HG.out HA.out.2.2.1 Try.underlying3 rfl ?_; simp only [PT])
      | ((with_reducible refine sl 28 ?_); refine wpL_loadF rfl 3 (.tmp 27) rfl g 39 rfl (.int .i64 f.seen) HG.out HA.out.2.2.1 Try.underlying3 rfl ?_; simp only [PT])
      | ((with_reducible refine sl 33 ?_); refine wpL_loadF rfl 3 (.tmp 32) rfl g 40 rfl (.int .i64 f.no) HG.out HA.out.2.2.2 Try.underlying3 rfl ?_; simp only [PT])
      | ((with_reducible refine sl 38 ?_); refine wpL_loadF rfl 3 (.tmp 37) rfl g 40 rfl (.int .i64 f.no) HG.out HA.out.2.2.2 Try.underlying3 rfl ?_; simp only [PT]))
    go_ret
    rw [HR.out]
    exact ⟨rfl, HB.out⟩
  rcases two (decide (0 ≤ f.seen)) with h4 | h4
  rotate_left
  · have HR : Hid (R = false) := Lib.hid (by rw [hR]; simp only [h0, h1, h2, h3, h4, Bool.and_false, Bool.false_and, Bool.true_and])
    clear hR
    go_wp2_with (first
      | ((with_reducible refine sl 1 ?_); go_must (refine wpL_boxG rfl 28 (.tmp 0) rfl f.cells.toArray rfl ?_); intro w1 g he__ le_g lt_g hg__ hb__; have HG := Lib.hid hg__; have hE__ := cU HB bup hb__; replace HB := ck HB hE__; clear hE__; clear hg__ hb__ he__; simp only [PT])
      | ((with_reducible refine sl 4 ?_); refine wpL_load rfl 26 (.tmp 3) rfl g 0 rfl f.key.cells _ (range_sub HG.out HS.out) Try.underlying26 rfl HI1.out ?_; simp only [PT])
      | (go_at_call 34; refine (refKnown_any f.key HL.out.1 _).mono ?_; rintro e w2 ⟨rfl, hb2⟩; have hE__ := cU HB bup hb2; replace HB := ck HB hE__; replace HG := ck HG hE__; clear hE__; clear hb2)
      | ((with_reducible refine sl 8 ?_); refine wpL_loadF rfl 9 (.tmp 7) rfl g 37 rfl (.string f.name) HG.out HA.out.1 Try.underlying9 rfl ?_; simp only [PT])
      | (go_at_call 35; refine (refName_any f.name hsz _).mono ?_; rintro e w3 ⟨rfl, rfl⟩)
      | ((with_reducible refine sl 13 ?_); refine wpL_loadF rfl 3 (.tmp 12) rfl g 38 rfl (.int .i64 f.state) HG.out HA.out.2.1 Try.underlying3 rfl ?_; simp only [PT])
      | ((with_reducible refine sl 18 ?_); refine wpL_loadF rfl 3 (.tmp 17) rfl g 38 rfl (.int .i64 f.state) HG.out HA.out.2.1 Try.underlying3 rfl ?_; simp only [PT])
      | ((with_reducible refine sl 23 ?_); refine wpL_loadF rfl 3 (.tmp 22) rfl g 39 rfl (.int .i64 f.seen) HG.out HA.out.2.2.1 Try.underlying3 rfl ?_; simp only [PT])
      | ((with_reducible refine sl 28 ?_); refine wpL_loadF rfl 3 (.tmp 27) rfl g 39 rfl (.int .i64 f.seen) HG.out HA.out.2.2.1 Try.underlying3 rfl ?_; simp only [PT])
      | ((with_reducible refine sl 33 ?_); refine wpL_loadF rfl 3 (.tmp 32) rfl g 40 rfl (.int .i64 f.no) HG.out HA.out.2.2.2 Try.underlying3 rfl ?_; simp only [PT])
      | ((with_reducible refine sl 38 ?_); refine wpL_loadF rfl 3 (.tmp 37) rfl g 40 rfl (.int .i64 f.no) HG.out HA.out.2.2.2 Try.underlying3 rfl ?_; simp only [PT]))
    go_ret
    rw [HR.out]
    exact ⟨rfl, HB.out⟩
  rcases two (decide (f.seen ≤ 1099511627776)) with h5 | h5
  rotate_left
  · have HR : Hid (R = false) := Lib.hid (by rw [hR]; simp only [h0, h1, h2, h3, h4, h5, Bool.and_false, Bool.false_and, Bool.true_and])
    clear hR
    go_wp2_with (first
      | ((with_reducible refine sl 1 ?_); go_must (refine wpL_boxG rfl 28 (.tmp 0) rfl f.cells.toArray rfl ?_); intro w1 g he__ le_g lt_g hg__ hb__; have HG := Lib.hid hg__; have hE__ := cU HB bup hb__; replace HB := ck HB hE__; clear hE__; clear hg__ hb__ he__; simp only [PT])
      | ((with_reducible refine sl 4 ?_); refine wpL_load rfl 26 (.tmp 3) rfl g 0 rfl f.key.cells _ (range_sub HG.out HS.out) Try.underlying26 rfl HI1.out ?_; simp only [PT])
      | (go_at_call 34; refine (refKnown_any f.key HL.out.1 _).mono ?_; rintro e w2 ⟨rfl, hb2⟩; have hE__ := cU HB bup hb2; replace HB := ck HB hE__; replace HG := ck HG hE__; clear hE__; clear hb2)
      | ((with_reducible refine sl 8 ?_); refine wpL_loadF rfl 9 (.tmp 7) rfl g 37 rfl (.string f.name) HG.out HA.out.1 Try.underlying9 rfl ?_; simp only [PT])
      | (go_at_call 35; refine (refName_any f.name hsz _).mono ?_; rintro e w3 ⟨rfl, rfl⟩)
      | ((with_reducible refine sl 13 ?_); refine wpL_loadF rfl 3 (.tmp 12) rfl g 38 rfl (.int .i64 f.state) HG.out HA.out.2.1 Try.underlying3 rfl ?_; simp only [PT])
      | ((with_reducible refine sl 18 ?_); refine wpL_loadF rfl 3 (.tmp 17) rfl g 38 rfl (.int .i64 f.state) HG.out HA.out.2.1 Try.underlying3 rfl ?_; simp only [PT])
      | ((with_reducible refine sl 23 ?_); refine wpL_loadF rfl 3 (.tmp 22) rfl g 39 rfl (.int .i64 f.seen) HG.out HA.out.2.2.1 Try.underlying3 rfl ?_; simp only [PT])
      | ((with_reducible refine sl 28 ?_); refine wpL_loadF rfl 3 (.tmp 27) rfl g 39 rfl (.int .i64 f.seen) HG.out HA.out.2.2.1 Try.underlying3 rfl ?_; simp only [PT])
      | ((with_reducible refine sl 33 ?_); refine wpL_loadF rfl 3 (.tmp 32) rfl g 40 rfl (.int .i64 f.no) HG.out HA.out.2.2.2 Try.underlying3 rfl ?_; simp only [PT])
      | ((with_reducible refine sl 38 ?_); refine wpL_loadF rfl 3 (.tmp 37) rfl g 40 rfl (.int .i64 f.no) HG.out HA.out.2.2.2 Try.underlying3 rfl ?_; simp only [PT]))
    go_ret
    rw [HR.out]
    exact ⟨rfl, HB.out⟩
  rcases two (decide (0 ≤ f.no)) with h6 | h6
  rotate_left
  · have HR : Hid (R = false) := Lib.hid (by rw [hR]; simp only [h0, h1, h2, h3, h4, h5, h6, Bool.and_false, Bool.false_and, Bool.true_and])
    clear hR
    go_wp2_with (first
      | ((with_reducible refine sl 1 ?_); go_must (refine wpL_boxG rfl 28 (.tmp 0) rfl f.cells.toArray rfl ?_); intro w1 g he__ le_g lt_g hg__ hb__; have HG := Lib.hid hg__; have hE__ := cU HB bup hb__; replace HB := ck HB hE__; clear hE__; clear hg__ hb__ he__; simp only [PT])
      | ((with_reducible refine sl 4 ?_); refine wpL_load rfl 26 (.tmp 3) rfl g 0 rfl f.key.cells _ (range_sub HG.out HS.out) Try.underlying26 rfl HI1.out ?_; simp only [PT])
      | (go_at_call 34; refine (refKnown_any f.key HL.out.1 _).mono ?_; rintro e w2 ⟨rfl, hb2⟩; have hE__ := cU HB bup hb2; replace HB := ck HB hE__; replace HG := ck HG hE__; clear hE__; clear hb2)
      | ((with_reducible refine sl 8 ?_); refine wpL_loadF rfl 9 (.tmp 7) rfl g 37 rfl (.string f.name) HG.out HA.out.1 Try.underlying9 rfl ?_; simp only [PT])
      | (go_at_call 35; refine (refName_any f.name hsz _).mono ?_; rintro e w3 ⟨rfl, rfl⟩)
      | ((with_reducible refine sl 13 ?_); refine wpL_loadF rfl 3 (.tmp 12) rfl g 38 rfl (.int .i64 f.state) HG.out HA.out.2.1 Try.underlying3 rfl ?_; simp only [PT])
      | ((with_reducible refine sl 18 ?_); refine wpL_loadF rfl 3 (.tmp 17) rfl g 38 rfl (.int .i64 f.state) HG.out HA.out.2.1 Try.underlying3 rfl ?_; simp only [PT])
      | ((with_reducible refine sl 23 ?_); refine wpL_loadF rfl 3 (.tmp 22) rfl g 39 rfl (.int .i64 f.seen) HG.out HA.out.2.2.1 Try.underlying3 rfl ?_; simp only [PT])
      | ((with_reducible refine sl 28 ?_); refine wpL_loadF rfl 3 (.tmp 27) rfl g 39 rfl (.int .i64 f.seen) HG.out HA.out.2.2.1 Try.underlying3 rfl ?_; simp only [PT])
      | ((with_reducible refine sl 33 ?_); refine wpL_loadF rfl 3 (.tmp 32) rfl g 40 rfl (.int .i64 f.no) HG.out HA.out.2.2.2 Try.underlying3 rfl ?_; simp only [PT])
      | ((with_reducible refine sl 38 ?_); refine wpL_loadF rfl 3 (.tmp 37) rfl g 40 rfl (.int .i64 f.no) HG.out HA.out.2.2.2 Try.underlying3 rfl ?_; simp only [PT]))
    go_ret
    rw [HR.out]
    exact ⟨rfl, HB.out⟩
  rcases two (decide (f.no ≤ 1152921504606846976)) with h7 | h7
  rotate_left
  · have HR : Hid (R = false) := Lib.hid (by rw [hR]; simp only [h0, h1, h2, h3, h4, h5, h6, h7, Bool.and_false, Bool.false_and, Bool.true_and])
    clear hR
    go_wp2_with (first
      | ((with_reducible refine sl 1 ?_); go_must (refine wpL_boxG rfl 28 (.tmp 0) rfl f.cells.toArray rfl ?_); intro w1 g he__ le_g lt_g hg__ hb__; have HG := Lib.hid hg__; have hE__ := cU HB bup hb__; replace HB := ck HB hE__; clear hE__; clear hg__ hb__ he__; simp only [PT])
      | ((with_reducible refine sl 4 ?_); refine wpL_load rfl 26 (.tmp 3) rfl g 0 rfl f.key.cells _ (range_sub HG.out HS.out) Try.underlying26 rfl HI1.out ?_; simp only [PT])
      | (go_at_call 34; refine (refKnown_any f.key HL.out.1 _).mono ?_; rintro e w2 ⟨rfl, hb2⟩; have hE__ := cU HB bup hb2; replace HB := ck HB hE__; replace HG := ck HG hE__; clear hE__; clear hb2)
      | ((with_reducible refine sl 8 ?_); refine wpL_loadF rfl 9 (.tmp 7) rfl g 37 rfl (.string f.name) HG.out HA.out.1 Try.underlying9 rfl ?_; simp only [PT])
      | (go_at_call 35; refine (refName_any f.name hsz _).mono ?_; rintro e w3 ⟨rfl, rfl⟩)
      | ((with_reducible refine sl 13 ?_); refine wpL_loadF rfl 3 (.tmp 12) rfl g 38 rfl (.int .i64 f.state) HG.out HA.out.2.1 Try.underlying3 rfl ?_; simp only [PT])
      | ((with_reducible refine sl 18 ?_); refine wpL_loadF rfl 3 (.tmp 17) rfl g 38 rfl (.int .i64 f.state) HG.out HA.out.2.1 Try.underlying3 rfl ?_; simp only [PT])
      | ((with_reducible refine sl 23 ?_); refine wpL_loadF rfl 3 (.tmp 22) rfl g 39 rfl (.int .i64 f.seen) HG.out HA.out.2.2.1 Try.underlying3 rfl ?_; simp only [PT])
      | ((with_reducible refine sl 28 ?_); refine wpL_loadF rfl 3 (.tmp 27) rfl g 39 rfl (.int .i64 f.seen) HG.out HA.out.2.2.1 Try.underlying3 rfl ?_; simp only [PT])
      | ((with_reducible refine sl 33 ?_); refine wpL_loadF rfl 3 (.tmp 32) rfl g 40 rfl (.int .i64 f.no) HG.out HA.out.2.2.2 Try.underlying3 rfl ?_; simp only [PT])
      | ((with_reducible refine sl 38 ?_); refine wpL_loadF rfl 3 (.tmp 37) rfl g 40 rfl (.int .i64 f.no) HG.out HA.out.2.2.2 Try.underlying3 rfl ?_; simp only [PT]))
    go_ret
    rw [HR.out]
    exact ⟨rfl, HB.out⟩
  have HR : Hid (R = true) := Lib.hid (by rw [hR]; simp only [h0, h1, h2, h3, h4, h5, h6, h7, Bool.true_and])
  clear hR
  go_wp2_with (first
    | ((with_reducible refine sl 1 ?_); go_must (refine wpL_boxG rfl 28 (.tmp 0) rfl f.cells.toArray rfl ?_); intro w1 g he__ le_g lt_g hg__ hb__; have HG := Lib.hid hg__; have hE__ := cU HB bup hb__; replace HB := ck HB hE__; clear hE__; clear hg__ hb__ he__; simp only [PT])
    | ((with_reducible refine sl 4 ?_); refine wpL_load rfl 26 (.tmp 3) rfl g 0 rfl f.key.cells _ (range_sub HG.out HS.out) Try.underlying26 rfl HI1.out ?_; simp only [PT])
    | (go_at_call 34; refine (refKnown_any f.key HL.out.1 _).mono ?_; rintro e w2 ⟨rfl, hb2⟩; have hE__ := cU HB bup hb2; replace HB := ck HB hE__; replace HG := ck HG hE__; clear hE__; clear hb2)
    | ((with_reducible refine sl 8 ?_); refine wpL_loadF rfl 9 (.tmp 7) rfl g 37 rfl (.string f.name) HG.out HA.out.1 Try.underlying9 rfl ?_; simp only [PT])
    | (go_at_call 35; refine (refName_any f.name hsz _).mono ?_; rintro e w3 ⟨rfl, rfl⟩)
    | ((with_reducible refine sl 13 ?_); refine wpL_loadF rfl 3 (.tmp 12) rfl g 38 rfl (.int .i64 f.state) HG.out HA.out.2.1 Try.underlying3 rfl ?_; simp only [PT])
    | ((with_reducible refine sl 18 ?_); refine wpL_loadF rfl 3 (.tmp 17) rfl g 38 rfl (.int .i64 f.state) HG.out HA.out.2.1 Try.underlying3 rfl ?_; simp only [PT])
    | ((with_reducible refine sl 23 ?_); refine wpL_loadF rfl 3 (.tmp 22) rfl g 39 rfl (.int .i64 f.seen) HG.out HA.out.2.2.1 Try.underlying3 rfl ?_; simp only [PT])
    | ((with_reducible refine sl 28 ?_); refine wpL_loadF rfl 3 (.tmp 27) rfl g 39 rfl (.int .i64 f.seen) HG.out HA.out.2.2.1 Try.underlying3 rfl ?_; simp only [PT])
    | ((with_reducible refine sl 33 ?_); refine wpL_loadF rfl 3 (.tmp 32) rfl g 40 rfl (.int .i64 f.no) HG.out HA.out.2.2.2 Try.underlying3 rfl ?_; simp only [PT])
    | ((with_reducible refine sl 38 ?_); refine wpL_loadF rfl 3 (.tmp 37) rfl g 40 rfl (.int .i64 f.no) HG.out HA.out.2.2.2 Try.underlying3 rfl ?_; simp only [PT]))
  go_ret
  rw [HR.out]
  exact ⟨rfl, HB.out⟩
end Go.Proofs.Ytgpdlhbndoeldaa
/-
  Plain: bytes compared, the age of flows.
-/
namespace Go.Proofs.Ytgpdlhbndoeldaa
open Go.RowKit Go.Sort
set_option linter.unusedVariables false
set_option linter.unusedSimpArgs false

/-- one ahead of the other, byte by byte -/
def ltB : List UInt8 → List UInt8 → Bool
  | x :: a, y :: b => if x = y then ltB a b else decide (x < y)
  | _, _ => false
theorem ltB_irr : ∀ a, ltB a a = false
  | [] => rfl
  | x :: a => by simp [ltB, ltB_irr a]
theorem ltB_tri : ∀ a b : List UInt8, a.length = b.length → ltB a b = false → ltB b a = false → a = b
  | [], [], _, _, _ => rfl
  | x :: a, y :: b, hl, h1, h2 => by
    unfold ltB at h1 h2
    by_cases e : x = y
    · subst e
      rw [if_pos rfl] at h1 h2
      rw [ltB_tri a b (by simpa using hl) h1 h2]
    · rw [if_neg e] at h1
      rw [if_neg (fun h => e h.symm)] at h2
      simp at h1 h2
      exact absurd (UInt8.le_antisymm h2 h1) e
theorem ltB_trans : ∀ a b c : List UInt8, a.length = b.length → b.length = c.length → ltB a b = true → ltB b c = true → ltB a c = true
  | [], _, _, _, _, h, _ => by simp [ltB] at h
  | x :: a, [], _, hl, _, _, _ => by simp at hl
  | x :: a, y :: b, [], _, hl, _, _ => by simp at hl
  | x :: a, y :: b, z :: c, h1, h2, h, k => by
    unfold ltB at h k ⊢
    by_cases e1 : x = y
    · subst e1
      rw [if_pos rfl] at h
      by_cases e2 : x = z
      · subst e2
        rw [if_pos rfl] at k ⊢
        exact ltB_trans a b c (by simpa using h1) (by simpa using h2) h k
      · rw [if_neg e2] at k ⊢; exact k
    · rw [if_neg e1] at h
      by_cases e2 : y = z
      · subst e2
        rw [if_neg e1]; exact h
      · rw [if_neg e2] at k
        simp only [decide_eq_true_eq] at h k
        have : x < z := UInt8.lt_trans h k
        have hn : x ≠ z := fun e => by subst e; exact UInt8.lt_irrefl _ this
        rw [if_neg hn]; simpa using this
theorem ltB_asym {a b : List UInt8} (hl : a.length = b.length) (h : ltB a b = true) : ltB b a = false := by
  cases h2 : ltB b a with
  | false => rfl
  | true => have := ltB_trans a b a hl hl.symm h h2; rw [ltB_irr] at this; cases this
def cmpB (a b : List UInt8) : Int := if ltB a b then -1 else if ltB b a then 1 else 0
theorem cmpB_neg (a b : List UInt8) : decide (cmpB a b < 0) = ltB a b := by
  unfold cmpB
  split
  · simp [*]
  · split <;> simp [*]

def findD (a b : List UInt8) (n : Nat) : Int :=
  match (List.range n).find? (fun i => a.getD i 0 != b.getD i 0) with
  | some i => if a.getD i 0 < b.getD i 0 then -1 else 1
  | none => 0
theorem findD_cmp : ∀ a b : List UInt8, a.length = b.length → findD a b a.length = cmpB a b
  | [], [], _ => rfl
  | x :: a, y :: b, hl => by
    have ih := findD_cmp a b (by simpa using hl)
    unfold findD at ih ⊢
    rw [List.length_cons, List.range_succ_eq_map, List.find?_cons]
    by_cases e : x = y
    · subst e
      simp only [List.getD_cons_zero, bne_self_eq_false, List.find?_map]
      have e2 : cmpB (x :: a) (x :: b) = cmpB a b := by simp [cmpB, ltB]
      rw [e2, ← ih]
      have e3 : ((fun i => (x :: a).getD i 0 != (x :: b).getD i 0) ∘ Nat.succ) = fun i => a.getD i 0 != b.getD i 0 := by
        funext i; simp
      rw [e3]
      cases (List.range a.length).find? (fun i => a.getD i 0 != b.getD i 0) <;> simp
    · have e2 : ((x :: a).getD 0 0 != (y :: b).getD 0 0) = true := by simpa using e
      rw [e2]
      simp only [List.getD_cons_zero]
      have e' : ¬ y = x := fun h => e h.symm
      have k1 : ltB (x :: a) (y :: b) = decide (x < y) := by unfold ltB; rw [if_neg e]
      have k2 : ltB (y :: b) (x :: a) = decide (y < x) := by unfold ltB; rw [if_neg e']
      unfold cmpB
      rw [k1, k2]
      by_cases h : x < y
      · simp [h]
      · have h2 : y < x := by
          rcases UInt8.lt_or_lt_of_ne e with h3 | h3
          · exact absurd h3 h
          · exact h3
        simp [h, h2]
theorem cmp_ext (a b : List UInt8) (hl : a.length = b.length) : Extern.BytealgCompare.cmp ⟨a.toArray⟩ ⟨b.toArray⟩ = cmpB a b := by
  rw [← findD_cmp a b hl]
  have e1 : ∀ (l : List UInt8) (i : Nat), (⟨l.toArray⟩ : ByteArray)[i]! = l.getD i 0 := by
    intro l i
    by_cases h : i < l.length
    · rw [getElem!_pos (⟨l.toArray⟩ : ByteArray) i (by simpa [ByteArray.size] using h)]
      simp [List.getD, h]
      rfl
    · rw [getElem!_neg (⟨l.toArray⟩ : ByteArray) i (by simpa [ByteArray.size] using h)]
      simp [List.getD, h]
      rfl
  unfold Extern.BytealgCompare.cmp findD
  simp only [e1]
  have s1 : (⟨a.toArray⟩ : ByteArray).size = a.length := by simp [ByteArray.size]
  have s2 : (⟨b.toArray⟩ : ByteArray).size = a.length := by simp [ByteArray.size, hl]
  rw [s1, s2, Nat.min_self]
  cases (List.range a.length).find? (fun i => a.getD i 0 != b.getD i 0) with
  | none => simp
  | some i => rfl

/-- the age -/
def ordF (a b : Flo) : Int := if a.no ≠ b.no then a.no - b.no else cmpB a.key.bytes b.key.bytes
def oldF (a b : Flo) : Bool := if a.no ≠ b.no then decide (a.no < b.no) else ltB a.key.bytes b.key.bytes
theorem ordF_neg (a b : Flo) : decide (ordF a b < 0) = oldF a b := by
  unfold ordF oldF
  split
  · simp; omega
  · exact cmpB_neg _ _
end Go.Proofs.Ytgpdlhbndoeldaa
