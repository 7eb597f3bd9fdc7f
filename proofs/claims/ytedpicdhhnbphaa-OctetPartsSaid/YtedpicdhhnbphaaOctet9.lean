/-
  The laws of chapter 01, walked: OctetParts.
-/
import Derived.Test.YtedpicdhhnbphaaOctet5
import Derived.Test.YtedpicdhhnbphaaPlain1
import Derived.Deep.RegionWith
namespace Go.Proofs.Ytedpicdhhnbphaa
open Go.RowKit Go.Sort
set_option linter.unusedVariables false

theorem less_num : ∀ (l m : List UInt8), l.length = m.length → Op.bytesLess l m = decide (numBE l < numBE m) := by
  intro l
  induction l with
  | nil =>
    intro m h
    cases m with
    | nil => rfl
    | cons b m => simp at h
  | cons a l ih =>
    intro m h
    cases m with
    | nil => simp at h
    | cons b m =>
      simp only [List.length_cons, Nat.add_right_cancel_iff] at h
      have h1 := numBE_lt l
      have h2 := numBE_lt m
      rw [h] at h1
      simp only [Op.bytesLess, ih m h, numBE_cons, h]
      generalize 256 ^ m.length = P at *
      generalize numBE l = x at *
      generalize numBE m = y at *
      have ea : (a < b) ↔ a.toNat < b.toNat := UInt8.lt_iff_toNat_lt
      have eb : (a = b) ↔ a.toNat = b.toNat := UInt8.toNat_inj.symm
      by_cases c1 : a.toNat < b.toNat
      · have : a.toNat * P + x < b.toNat * P + y := by
          have := Nat.mul_le_mul_right P (show a.toNat + 1 ≤ b.toNat from c1)
          rw [Nat.add_mul] at this
          omega
        simp [ea, c1, this]
      · by_cases c2 : a.toNat = b.toNat
        · have e := eb.2 c2
          subst e
          simp
        · have : ¬ a.toNat * P + x < b.toNat * P + y := by
            have := Nat.mul_le_mul_right P (show b.toNat + 1 ≤ a.toNat by omega)
            rw [Nat.add_mul] at this
            omega
          have e : ¬ a = b := fun h => c2 (eb.1 h)
          simp [ea, c1, this, e]

theorem less_putL (c d : Nat) (hc : c < 18446744073709551616) (hd : d < 18446744073709551616) : Op.bytesLess (strOf (putL c 8 true)).toList (strOf (putL d 8 true)).toList = decide (c < d) := by
  rw [strOf_toList, strOf_toList, less_num _ _ (by rw [putL_length, putL_length])]
  have e : ∀ n, n < 18446744073709551616 → numBE (putL n 8 true) = n := fun n h => by
    unfold putL
    simp only [if_true]
    rw [numBE_putLE]
    exact Nat.mod_eq_of_lt h
  rw [e c hc, e d hd]

theorem or_word (a b : Int) (ha : 0 ≤ a) (ha2 : a ≤ 4294967295) (hb : 0 ≤ b) (hb2 : b ≤ 4294967295) : bits BinOp.or .u64 (a * 4294967296) b = a * 4294967296 + b := by
  obtain ⟨x, rfl⟩ : ∃ x : Nat, a = x := ⟨a.toNat, by omega⟩
  obtain ⟨y, rfl⟩ : ∃ y : Nat, b = y := ⟨b.toNat, by omega⟩
  show IntKind.u64.wrap ((BitVec.ofInt 64 ((x : Int) * 4294967296) ||| BitVec.ofInt 64 (y : Int)).toNat : Int) = _
  rw [BitVec.toNat_or]
  have e1 : (BitVec.ofInt 64 ((x : Int) * 4294967296)).toNat = x * 4294967296 := by rw [BitVec.toNat_ofInt]; show (((x : Int) * 4294967296) % 18446744073709551616).toNat = _; omega
  have e2 : (BitVec.ofInt 64 (y : Int)).toNat = y := by rw [BitVec.toNat_ofInt]; show ((y : Int) % 18446744073709551616).toNat = _; omega
  rw [e1, e2]
  have : x * 4294967296 ||| y = x * 4294967296 + y := by
    have := Nat.two_pow_add_eq_or_of_lt (i := 32) (b := y) (by omega) x
    rw [Nat.mul_comm x 4294967296]
    exact this.symm
  rw [this, IntKind.wrap_u64]
  omega

set_option maxRecDepth 100000 in
set_option maxHeartbeats 8000000 in
theorem parts_walk (a b u v : Int) (w : World) (a0 : 0 ≤ a) (a1 : a ≤ 4294967295) (b0 : 0 ≤ b) (b1 : b ≤ 4294967295) (u0 : 0 ≤ u) (u1 : u ≤ 18446744073709551615) (v0 : 0 ≤ v) (v1 : v ≤ 18446744073709551615) :
    Calls Try.prog 6 #[.int .u32 a, .int .u32 b, .int .u64 u, .int .u64 v] w fun e w' => e = .returned (.bool true) ∧ Below w.heap.size w w' := by
  have HK := Lib.hid (Below.refl w.heap.size w)
  have hor := or_word a b a0 a1 b0 b1
  have a2 : a ≤ 18446744073709551615 := by omega
  have b2 : b ≤ 18446744073709551615 := by omega
  obtain ⟨A, hA⟩ : ∃ A, A = putL a.toNat 4 true := ⟨_, rfl⟩
  obtain ⟨B, hB⟩ : ∃ A, A = putL b.toNat 4 true := ⟨_, rfl⟩
  obtain ⟨C, hC⟩ : ∃ A, A = putL b.toNat 4 false := ⟨_, rfl⟩
  obtain ⟨D, hD⟩ : ∃ A, A = putL a.toNat 4 false := ⟨_, rfl⟩
  have lA : A.length = 4 := by rw [hA, putL_length]; rfl
  have lB : B.length = 4 := by rw [hB, putL_length]; rfl
  have lC : C.length = 4 := by rw [hC, putL_length]; rfl
  have lD : D.length = 4 := by rw [hD, putL_length]; rfl
  have HA := Lib.hid hA
  have HB := Lib.hid hB
  have HC := Lib.hid hC
  have HD := Lib.hid hD
  have LA := Lib.hid lA
  have LB := Lib.hid lB
  have LC := Lib.hid lC
  have LD := Lib.hid lD
  have T1 := Lib.hid True.intro
  obtain ⟨E, hE⟩ : ∃ A, A = putL u.toNat 8 true := ⟨_, rfl⟩
  obtain ⟨F, hF⟩ : ∃ A, A = putL v.toNat 8 true := ⟨_, rfl⟩
  obtain ⟨G1, hG1⟩ : ∃ G, G = getN (A ++ B) true := ⟨_, rfl⟩
  obtain ⟨G2, hG2⟩ : ∃ G, G = getN (C ++ D) false := ⟨_, rfl⟩
  have g1 : (G1 : Int) = a * 4294967296 + b := by rw [hG1, hA, hB, parts_big _ _ (by omega) (by omega)]; omega
  have g2 : (G2 : Int) = a * 4294967296 + b := by rw [hG2, hC, hD, parts_small _ _ (by omega) (by omega)]; omega
  have hlt : Op.bytesLess (strOf E).toList (strOf F).toList = decide (u < v) := by
    rw [hE, hF, less_putL _ _ (by omega) (by omega)]
    by_cases h : u < v
    · rw [decide_eq_true h, decide_eq_true (by omega)]
    · rw [decide_eq_false h, decide_eq_false (by omega)]
  have HE := Lib.hid hE
  have HF := Lib.hid hF
  have HG1 := Lib.hid hG1
  have HG2 := Lib.hid hG2
  clear hA hB hC hD lA lB lC lD hE hF hG1 hG2
  go_enter Try.func6, Try.ntmps6
  go_wp2_with (first
    | (go_at_call 9; refine (awake_any _).mono ?_; rintro e w1 ⟨rfl, hb1⟩; (first | (have HK' := cB HK (by first | exact Below.refl _ _ | exact (Below.refl _ _).drew | exact ((Below.refl _ _).drew).alloc (Nat.le_refl _) _ | exact (Below.refl _ _).alloc (Nat.le_refl _) _ | exact ((Below.refl _ _).alloc (Nat.le_refl _) _).alloc (by simp) _ | exact (((Below.refl _ _).alloc (Nat.le_refl _) _).alloc (by simp) _).alloc (by simp; omega) _) hb1; clear HK; have HK := HK'; clear HK') | (have HK' := cO HK (by first | exact Below.refl _ _ | exact (Below.refl _ _).drew | exact ((Below.refl _ _).drew).alloc (Nat.le_refl _) _ | exact (Below.refl _ _).alloc (Nat.le_refl _) _ | exact ((Below.refl _ _).alloc (Nat.le_refl _) _).alloc (by simp) _ | exact (((Below.refl _ _).alloc (Nat.le_refl _) _).alloc (by simp) _).alloc (by simp; omega) _) hb1; clear HK; have HK := HK'; clear HK') | (have HK' := cK HK (by first | exact Below.refl _ _ | exact (Below.refl _ _).drew | exact ((Below.refl _ _).drew).alloc (Nat.le_refl _) _ | exact (Below.refl _ _).alloc (Nat.le_refl _) _ | exact ((Below.refl _ _).alloc (Nat.le_refl _) _).alloc (by simp) _ | exact (((Below.refl _ _).alloc (Nat.le_refl _) _).alloc (by simp) _).alloc (by simp; omega) _) hb1; clear HK; have HK := HK'; clear HK')); have HX := Lib.hid (Below.refl w1.heap.size w1); clear hb1)
    | (go_at_call 11; have t1 := T1; refine (put_int a _ _ _ a0 a2).mono ?_; intro e w2 hr2; unfold RetB at hr2; rw [← HA.out] at hr2; obtain ⟨ad2, c2, rfl, ho2, hb2⟩ := hr2; clear T1 t1; (first | (have HX' := cB HX (by first | exact Below.refl _ _ | exact (Below.refl _ _).drew | exact ((Below.refl _ _).drew).alloc (Nat.le_refl _) _ | exact (Below.refl _ _).alloc (Nat.le_refl _) _ | exact ((Below.refl _ _).alloc (Nat.le_refl _) _).alloc (by simp) _ | exact (((Below.refl _ _).alloc (Nat.le_refl _) _).alloc (by simp) _).alloc (by simp; omega) _) hb2; clear HX; have HX := HX'; clear HX') | (have HX' := cO HX (by first | exact Below.refl _ _ | exact (Below.refl _ _).drew | exact ((Below.refl _ _).drew).alloc (Nat.le_refl _) _ | exact (Below.refl _ _).alloc (Nat.le_refl _) _ | exact ((Below.refl _ _).alloc (Nat.le_refl _) _).alloc (by simp) _ | exact (((Below.refl _ _).alloc (Nat.le_refl _) _).alloc (by simp) _).alloc (by simp; omega) _) hb2; clear HX; have HX := HX'; clear HX') | (have HX' := cK HX (by first | exact Below.refl _ _ | exact (Below.refl _ _).drew | exact ((Below.refl _ _).drew).alloc (Nat.le_refl _) _ | exact (Below.refl _ _).alloc (Nat.le_refl _) _ | exact ((Below.refl _ _).alloc (Nat.le_refl _) _).alloc (by simp) _ | exact (((Below.refl _ _).alloc (Nat.le_refl _) _).alloc (by simp) _).alloc (by simp; omega) _) hb2; clear HX; have HX := HX'; clear HX')); have H2 := Lib.hid ho2; clear hb2 ho2)
    | (go_at_call 11; have t2 := H2; refine (put_int b _ _ _ b0 b2).mono ?_; clear t2; intro e w3 hr3; unfold RetB at hr3; rw [← HB.out] at hr3; obtain ⟨ad3, c3, rfl, ho3, hb3⟩ := hr3; (first | (have HX' := cB HX (by first | exact Below.refl _ _ | exact (Below.refl _ _).drew | exact ((Below.refl _ _).drew).alloc (Nat.le_refl _) _ | exact (Below.refl _ _).alloc (Nat.le_refl _) _ | exact ((Below.refl _ _).alloc (Nat.le_refl _) _).alloc (by simp) _ | exact (((Below.refl _ _).alloc (Nat.le_refl _) _).alloc (by simp) _).alloc (by simp; omega) _) hb3; clear HX; have HX := HX'; clear HX') | (have HX' := cO HX (by first | exact Below.refl _ _ | exact (Below.refl _ _).drew | exact ((Below.refl _ _).drew).alloc (Nat.le_refl _) _ | exact (Below.refl _ _).alloc (Nat.le_refl _) _ | exact ((Below.refl _ _).alloc (Nat.le_refl _) _).alloc (by simp) _ | exact (((Below.refl _ _).alloc (Nat.le_refl _) _).alloc (by simp) _).alloc (by simp; omega) _) hb3; clear HX; have HX := HX'; clear HX') | (have HX' := cK HX (by first | exact Below.refl _ _ | exact (Below.refl _ _).drew | exact ((Below.refl _ _).drew).alloc (Nat.le_refl _) _ | exact (Below.refl _ _).alloc (Nat.le_refl _) _ | exact ((Below.refl _ _).alloc (Nat.le_refl _) _).alloc (by simp) _ | exact (((Below.refl _ _).alloc (Nat.le_refl _) _).alloc (by simp) _).alloc (by simp; omega) _) hb3; clear HX; have HX := HX'; clear HX')); (first | (have H2' := cB H2 (by first | exact Below.refl _ _ | exact (Below.refl _ _).drew | exact ((Below.refl _ _).drew).alloc (Nat.le_refl _) _ | exact (Below.refl _ _).alloc (Nat.le_refl _) _ | exact ((Below.refl _ _).alloc (Nat.le_refl _) _).alloc (by simp) _ | exact (((Below.refl _ _).alloc (Nat.le_refl _) _).alloc (by simp) _).alloc (by simp; omega) _) hb3; clear H2; have H2 := H2'; clear H2') | (have H2' := cO H2 (by first | exact Below.refl _ _ | exact (Below.refl _ _).drew | exact ((Below.refl _ _).drew).alloc (Nat.le_refl _) _ | exact (Below.refl _ _).alloc (Nat.le_refl _) _ | exact ((Below.refl _ _).alloc (Nat.le_refl _) _).alloc (by simp) _ | exact (((Below.refl _ _).alloc (Nat.le_refl _) _).alloc (by simp) _).alloc (by simp; omega) _) hb3; clear H2; have H2 := H2'; clear H2') | (have H2' := cK H2 (by first | exact Below.refl _ _ | exact (Below.refl _ _).drew | exact ((Below.refl _ _).drew).alloc (Nat.le_refl _) _ | exact (Below.refl _ _).alloc (Nat.le_refl _) _ | exact ((Below.refl _ _).alloc (Nat.le_refl _) _).alloc (by simp) _ | exact (((Below.refl _ _).alloc (Nat.le_refl _) _).alloc (by simp) _).alloc (by simp; omega) _) hb3; clear H2; have H2 := H2'; clear H2')); have H3 := Lib.hid (Bs.of_own ho3); clear hb3 ho3)
    | ((with_reducible show wpList _ _ _ (⟨some 20, _, _, _, _, _⟩ :: _) _ _); go_must (refine wpL_append elB rfl (.tmp 16) (.tmp 19) rfl w1.heap.size rfl H2.out rfl H3.out (BV_one _) (by have := LA.out; have := LB.out; unfold maxLen; omega) (by have := LA.out; have := LB.out; omega) HX.out.size ?_)))
  intro ad4 c4 w4 hown4 hgrow4 hat4 hnil4
  have hb4 : Below w1.heap.size w1 w4 := HX.out.grown hgrow4 HX.out.size (ownBlock_ge H2.out)
  have H4 : Hid (Bs w4 ad4 (A.length + B.length) c4 (A ++ B)) := Lib.hid (by unfold Bs; rw [BV_append]; exact Sl.of_own hown4)
  have HX4 := Lib.hid (Below.refl w4.heap.size w4)
  have T3 := Lib.hid True.intro
  (first | (have HK' := cB HK (by first | exact Below.refl _ _ | exact (Below.refl _ _).drew | exact ((Below.refl _ _).drew).alloc (Nat.le_refl _) _ | exact (Below.refl _ _).alloc (Nat.le_refl _) _ | exact ((Below.refl _ _).alloc (Nat.le_refl _) _).alloc (by simp) _ | exact (((Below.refl _ _).alloc (Nat.le_refl _) _).alloc (by simp) _).alloc (by simp; omega) _) hb4; clear HK; have HK := HK'; clear HK') | (have HK' := cO HK (by first | exact Below.refl _ _ | exact (Below.refl _ _).drew | exact ((Below.refl _ _).drew).alloc (Nat.le_refl _) _ | exact (Below.refl _ _).alloc (Nat.le_refl _) _ | exact ((Below.refl _ _).alloc (Nat.le_refl _) _).alloc (by simp) _ | exact (((Below.refl _ _).alloc (Nat.le_refl _) _).alloc (by simp) _).alloc (by simp; omega) _) hb4; clear HK; have HK := HK'; clear HK') | (have HK' := cK HK (by first | exact Below.refl _ _ | exact (Below.refl _ _).drew | exact ((Below.refl _ _).drew).alloc (Nat.le_refl _) _ | exact (Below.refl _ _).alloc (Nat.le_refl _) _ | exact ((Below.refl _ _).alloc (Nat.le_refl _) _).alloc (by simp) _ | exact (((Below.refl _ _).alloc (Nat.le_refl _) _).alloc (by simp) _).alloc (by simp; omega) _) hb4; clear HK; have HK := HK'; clear HK'))
  clear hb4 hown4 hgrow4 hat4 hnil4 H2 H3 HX
  go_wp2_with (first
    | (go_at_call 11; have t1 := T3; refine (put_int b _ _ _ b0 b2).mono ?_; intro e w5 hr5; unfold RetB at hr5; rw [← HC.out] at hr5; obtain ⟨ad5, c5, rfl, ho5, hb5⟩ := hr5; clear T3 t1; (first | (have HX4' := cB HX4 (by first | exact Below.refl _ _ | exact (Below.refl _ _).drew | exact ((Below.refl _ _).drew).alloc (Nat.le_refl _) _ | exact (Below.refl _ _).alloc (Nat.le_refl _) _ | exact ((Below.refl _ _).alloc (Nat.le_refl _) _).alloc (by simp) _ | exact (((Below.refl _ _).alloc (Nat.le_refl _) _).alloc (by simp) _).alloc (by simp; omega) _) hb5; clear HX4; have HX4 := HX4'; clear HX4') | (have HX4' := cO HX4 (by first | exact Below.refl _ _ | exact (Below.refl _ _).drew | exact ((Below.refl _ _).drew).alloc (Nat.le_refl _) _ | exact (Below.refl _ _).alloc (Nat.le_refl _) _ | exact ((Below.refl _ _).alloc (Nat.le_refl _) _).alloc (by simp) _ | exact (((Below.refl _ _).alloc (Nat.le_refl _) _).alloc (by simp) _).alloc (by simp; omega) _) hb5; clear HX4; have HX4 := HX4'; clear HX4') | (have HX4' := cK HX4 (by first | exact Below.refl _ _ | exact (Below.refl _ _).drew | exact ((Below.refl _ _).drew).alloc (Nat.le_refl _) _ | exact (Below.refl _ _).alloc (Nat.le_refl _) _ | exact ((Below.refl _ _).alloc (Nat.le_refl _) _).alloc (by simp) _ | exact (((Below.refl _ _).alloc (Nat.le_refl _) _).alloc (by simp) _).alloc (by simp; omega) _) hb5; clear HX4; have HX4 := HX4'; clear HX4')); have H5 := Lib.hid ho5; clear hb5 ho5)
    | (go_at_call 11; have t2 := H5; refine (put_int a _ _ _ a0 a2).mono ?_; clear t2; intro e w6 hr6; unfold RetB at hr6; rw [← HD.out] at hr6; obtain ⟨ad6, c6, rfl, ho6, hb6⟩ := hr6; (first | (have HX4' := cB HX4 (by first | exact Below.refl _ _ | exact (Below.refl _ _).drew | exact ((Below.refl _ _).drew).alloc (Nat.le_refl _) _ | exact (Below.refl _ _).alloc (Nat.le_refl _) _ | exact ((Below.refl _ _).alloc (Nat.le_refl _) _).alloc (by simp) _ | exact (((Below.refl _ _).alloc (Nat.le_refl _) _).alloc (by simp) _).alloc (by simp; omega) _) hb6; clear HX4; have HX4 := HX4'; clear HX4') | (have HX4' := cO HX4 (by first | exact Below.refl _ _ | exact (Below.refl _ _).drew | exact ((Below.refl _ _).drew).alloc (Nat.le_refl _) _ | exact (Below.refl _ _).alloc (Nat.le_refl _) _ | exact ((Below.refl _ _).alloc (Nat.le_refl _) _).alloc (by simp) _ | exact (((Below.refl _ _).alloc (Nat.le_refl _) _).alloc (by simp) _).alloc (by simp; omega) _) hb6; clear HX4; have HX4 := HX4'; clear HX4') | (have HX4' := cK HX4 (by first | exact Below.refl _ _ | exact (Below.refl _ _).drew | exact ((Below.refl _ _).drew).alloc (Nat.le_refl _) _ | exact (Below.refl _ _).alloc (Nat.le_refl _) _ | exact ((Below.refl _ _).alloc (Nat.le_refl _) _).alloc (by simp) _ | exact (((Below.refl _ _).alloc (Nat.le_refl _) _).alloc (by simp) _).alloc (by simp; omega) _) hb6; clear HX4; have HX4 := HX4'; clear HX4')); (first | (have H5' := cB H5 (by first | exact Below.refl _ _ | exact (Below.refl _ _).drew | exact ((Below.refl _ _).drew).alloc (Nat.le_refl _) _ | exact (Below.refl _ _).alloc (Nat.le_refl _) _ | exact ((Below.refl _ _).alloc (Nat.le_refl _) _).alloc (by simp) _ | exact (((Below.refl _ _).alloc (Nat.le_refl _) _).alloc (by simp) _).alloc (by simp; omega) _) hb6; clear H5; have H5 := H5'; clear H5') | (have H5' := cO H5 (by first | exact Below.refl _ _ | exact (Below.refl _ _).drew | exact ((Below.refl _ _).drew).alloc (Nat.le_refl _) _ | exact (Below.refl _ _).alloc (Nat.le_refl _) _ | exact ((Below.refl _ _).alloc (Nat.le_refl _) _).alloc (by simp) _ | exact (((Below.refl _ _).alloc (Nat.le_refl _) _).alloc (by simp) _).alloc (by simp; omega) _) hb6; clear H5; have H5 := H5'; clear H5') | (have H5' := cK H5 (by first | exact Below.refl _ _ | exact (Below.refl _ _).drew | exact ((Below.refl _ _).drew).alloc (Nat.le_refl _) _ | exact (Below.refl _ _).alloc (Nat.le_refl _) _ | exact ((Below.refl _ _).alloc (Nat.le_refl _) _).alloc (by simp) _ | exact (((Below.refl _ _).alloc (Nat.le_refl _) _).alloc (by simp) _).alloc (by simp; omega) _) hb6; clear H5; have H5 := H5'; clear H5')); have H6 := Lib.hid (Bs.of_own ho6); clear hb6 ho6)
    | ((with_reducible show wpList _ _ _ (⟨some 27, _, _, _, _, _⟩ :: _) _ _); go_must (refine wpL_append elB rfl (.tmp 23) (.tmp 26) rfl w4.heap.size rfl H5.out rfl H6.out (BV_one _) (by have := LC.out; have := LD.out; unfold maxLen; omega) (by have := LC.out; have := LD.out; omega) HX4.out.size ?_)))
  intro ad7 c7 w7 hown7 hgrow7 hat7 hnil7
  have hb7 : Below w4.heap.size w4 w7 := HX4.out.grown hgrow7 HX4.out.size (ownBlock_ge H5.out)
  have H7 : Hid (Bs w7 ad7 (C.length + D.length) c7 (C ++ D)) := Lib.hid (by unfold Bs; rw [BV_append]; exact Sl.of_own hown7)
  (first | (have HK' := cB HK (by first | exact Below.refl _ _ | exact (Below.refl _ _).drew | exact ((Below.refl _ _).drew).alloc (Nat.le_refl _) _ | exact (Below.refl _ _).alloc (Nat.le_refl _) _ | exact ((Below.refl _ _).alloc (Nat.le_refl _) _).alloc (by simp) _ | exact (((Below.refl _ _).alloc (Nat.le_refl _) _).alloc (by simp) _).alloc (by simp; omega) _) hb7; clear HK; have HK := HK'; clear HK') | (have HK' := cO HK (by first | exact Below.refl _ _ | exact (Below.refl _ _).drew | exact ((Below.refl _ _).drew).alloc (Nat.le_refl _) _ | exact (Below.refl _ _).alloc (Nat.le_refl _) _ | exact ((Below.refl _ _).alloc (Nat.le_refl _) _).alloc (by simp) _ | exact (((Below.refl _ _).alloc (Nat.le_refl _) _).alloc (by simp) _).alloc (by simp; omega) _) hb7; clear HK; have HK := HK'; clear HK') | (have HK' := cK HK (by first | exact Below.refl _ _ | exact (Below.refl _ _).drew | exact ((Below.refl _ _).drew).alloc (Nat.le_refl _) _ | exact (Below.refl _ _).alloc (Nat.le_refl _) _ | exact ((Below.refl _ _).alloc (Nat.le_refl _) _).alloc (by simp) _ | exact (((Below.refl _ _).alloc (Nat.le_refl _) _).alloc (by simp) _).alloc (by simp; omega) _) hb7; clear HK; have HK := HK'; clear HK')); (first | (have H4' := cB H4 (by first | exact Below.refl _ _ | exact (Below.refl _ _).drew | exact ((Below.refl _ _).drew).alloc (Nat.le_refl _) _ | exact (Below.refl _ _).alloc (Nat.le_refl _) _ | exact ((Below.refl _ _).alloc (Nat.le_refl _) _).alloc (by simp) _ | exact (((Below.refl _ _).alloc (Nat.le_refl _) _).alloc (by simp) _).alloc (by simp; omega) _) hb7; clear H4; have H4 := H4'; clear H4') | (have H4' := cO H4 (by first | exact Below.refl _ _ | exact (Below.refl _ _).drew | exact ((Below.refl _ _).drew).alloc (Nat.le_refl _) _ | exact (Below.refl _ _).alloc (Nat.le_refl _) _ | exact ((Below.refl _ _).alloc (Nat.le_refl _) _).alloc (by simp) _ | exact (((Below.refl _ _).alloc (Nat.le_refl _) _).alloc (by simp) _).alloc (by simp; omega) _) hb7; clear H4; have H4 := H4'; clear H4') | (have H4' := cK H4 (by first | exact Below.refl _ _ | exact (Below.refl _ _).drew | exact ((Below.refl _ _).drew).alloc (Nat.le_refl _) _ | exact (Below.refl _ _).alloc (Nat.le_refl _) _ | exact ((Below.refl _ _).alloc (Nat.le_refl _) _).alloc (by simp) _ | exact (((Below.refl _ _).alloc (Nat.le_refl _) _).alloc (by simp) _).alloc (by simp; omega) _) hb7; clear H4; have H4 := H4'; clear H4'))
  have T1 := Lib.hid True.intro
  clear hb7 hown7 hgrow7 hat7 hnil7 H5 H6 HX4
  go_wp2_with fail
  go_region_with (first
    | (go_at_call 13; (with_reducible show Calls _ _ #[_, .bool true] _ _); refine (get_any _ _ _ _ _ _ (H4.out.below (by first | exact Below.refl _ _ | exact (Below.refl _ _).drew | exact ((Below.refl _ _).drew).alloc (Nat.le_refl _) _ | exact (Below.refl _ _).alloc (Nat.le_refl _) _ | exact ((Below.refl _ _).alloc (Nat.le_refl _) _).alloc (by simp) _ | exact (((Below.refl _ _).alloc (Nat.le_refl _) _).alloc (by simp) _).alloc (by simp; omega) _))).mono ?_; intro e w8 hr8; rw [← HG1.out] at hr8; obtain ⟨rfl, hb8⟩ := hr8; (first | (have HK' := cB HK (by first | exact Below.refl _ _ | exact (Below.refl _ _).drew | exact ((Below.refl _ _).drew).alloc (Nat.le_refl _) _ | exact (Below.refl _ _).alloc (Nat.le_refl _) _ | exact ((Below.refl _ _).alloc (Nat.le_refl _) _).alloc (by simp) _ | exact (((Below.refl _ _).alloc (Nat.le_refl _) _).alloc (by simp) _).alloc (by simp; omega) _) hb8; clear HK; have HK := HK'; clear HK') | (have HK' := cO HK (by first | exact Below.refl _ _ | exact (Below.refl _ _).drew | exact ((Below.refl _ _).drew).alloc (Nat.le_refl _) _ | exact (Below.refl _ _).alloc (Nat.le_refl _) _ | exact ((Below.refl _ _).alloc (Nat.le_refl _) _).alloc (by simp) _ | exact (((Below.refl _ _).alloc (Nat.le_refl _) _).alloc (by simp) _).alloc (by simp; omega) _) hb8; clear HK; have HK := HK'; clear HK') | (have HK' := cK HK (by first | exact Below.refl _ _ | exact (Below.refl _ _).drew | exact ((Below.refl _ _).drew).alloc (Nat.le_refl _) _ | exact (Below.refl _ _).alloc (Nat.le_refl _) _ | exact ((Below.refl _ _).alloc (Nat.le_refl _) _).alloc (by simp) _ | exact (((Below.refl _ _).alloc (Nat.le_refl _) _).alloc (by simp) _).alloc (by simp; omega) _) hb8; clear HK; have HK := HK'; clear HK')); (first | (have H7' := cB H7 (by first | exact Below.refl _ _ | exact (Below.refl _ _).drew | exact ((Below.refl _ _).drew).alloc (Nat.le_refl _) _ | exact (Below.refl _ _).alloc (Nat.le_refl _) _ | exact ((Below.refl _ _).alloc (Nat.le_refl _) _).alloc (by simp) _ | exact (((Below.refl _ _).alloc (Nat.le_refl _) _).alloc (by simp) _).alloc (by simp; omega) _) hb8; clear H7; have H7 := H7'; clear H7') | (have H7' := cO H7 (by first | exact Below.refl _ _ | exact (Below.refl _ _).drew | exact ((Below.refl _ _).drew).alloc (Nat.le_refl _) _ | exact (Below.refl _ _).alloc (Nat.le_refl _) _ | exact ((Below.refl _ _).alloc (Nat.le_refl _) _).alloc (by simp) _ | exact (((Below.refl _ _).alloc (Nat.le_refl _) _).alloc (by simp) _).alloc (by simp; omega) _) hb8; clear H7; have H7 := H7'; clear H7') | (have H7' := cK H7 (by first | exact Below.refl _ _ | exact (Below.refl _ _).drew | exact ((Below.refl _ _).drew).alloc (Nat.le_refl _) _ | exact (Below.refl _ _).alloc (Nat.le_refl _) _ | exact ((Below.refl _ _).alloc (Nat.le_refl _) _).alloc (by simp) _ | exact (((Below.refl _ _).alloc (Nat.le_refl _) _).alloc (by simp) _).alloc (by simp; omega) _) hb8; clear H7; have H7 := H7'; clear H7')); clear hb8 H4)
    | (go_at_call 13; (with_reducible show Calls _ _ #[_, .bool false] _ _); refine (get_any _ _ _ _ _ _ (H7.out.below (by first | exact Below.refl _ _ | exact (Below.refl _ _).drew | exact ((Below.refl _ _).drew).alloc (Nat.le_refl _) _ | exact (Below.refl _ _).alloc (Nat.le_refl _) _ | exact ((Below.refl _ _).alloc (Nat.le_refl _) _).alloc (by simp) _ | exact (((Below.refl _ _).alloc (Nat.le_refl _) _).alloc (by simp) _).alloc (by simp; omega) _))).mono ?_; intro e w9 hr9; rw [← HG2.out] at hr9; obtain ⟨rfl, hb9⟩ := hr9; (first | (have HK' := cB HK (by first | exact Below.refl _ _ | exact (Below.refl _ _).drew | exact ((Below.refl _ _).drew).alloc (Nat.le_refl _) _ | exact (Below.refl _ _).alloc (Nat.le_refl _) _ | exact ((Below.refl _ _).alloc (Nat.le_refl _) _).alloc (by simp) _ | exact (((Below.refl _ _).alloc (Nat.le_refl _) _).alloc (by simp) _).alloc (by simp; omega) _) hb9; clear HK; have HK := HK'; clear HK') | (have HK' := cO HK (by first | exact Below.refl _ _ | exact (Below.refl _ _).drew | exact ((Below.refl _ _).drew).alloc (Nat.le_refl _) _ | exact (Below.refl _ _).alloc (Nat.le_refl _) _ | exact ((Below.refl _ _).alloc (Nat.le_refl _) _).alloc (by simp) _ | exact (((Below.refl _ _).alloc (Nat.le_refl _) _).alloc (by simp) _).alloc (by simp; omega) _) hb9; clear HK; have HK := HK'; clear HK') | (have HK' := cK HK (by first | exact Below.refl _ _ | exact (Below.refl _ _).drew | exact ((Below.refl _ _).drew).alloc (Nat.le_refl _) _ | exact (Below.refl _ _).alloc (Nat.le_refl _) _ | exact ((Below.refl _ _).alloc (Nat.le_refl _) _).alloc (by simp) _ | exact (((Below.refl _ _).alloc (Nat.le_refl _) _).alloc (by simp) _).alloc (by simp; omega) _) hb9; clear HK; have HK := HK'; clear HK')); clear hb9 H7)
    | (go_at_call 11; have t1 := T1; refine (put_int u _ _ _ u0 u1).mono ?_; intro e w10 hr10; unfold RetB at hr10; rw [← HE.out] at hr10; obtain ⟨ad10, c10, rfl, ho10, hb10⟩ := hr10; clear T1 t1; (first | (have HK' := cB HK (by first | exact Below.refl _ _ | exact (Below.refl _ _).drew | exact ((Below.refl _ _).drew).alloc (Nat.le_refl _) _ | exact (Below.refl _ _).alloc (Nat.le_refl _) _ | exact ((Below.refl _ _).alloc (Nat.le_refl _) _).alloc (by simp) _ | exact (((Below.refl _ _).alloc (Nat.le_refl _) _).alloc (by simp) _).alloc (by simp; omega) _) hb10; clear HK; have HK := HK'; clear HK') | (have HK' := cO HK (by first | exact Below.refl _ _ | exact (Below.refl _ _).drew | exact ((Below.refl _ _).drew).alloc (Nat.le_refl _) _ | exact (Below.refl _ _).alloc (Nat.le_refl _) _ | exact ((Below.refl _ _).alloc (Nat.le_refl _) _).alloc (by simp) _ | exact (((Below.refl _ _).alloc (Nat.le_refl _) _).alloc (by simp) _).alloc (by simp; omega) _) hb10; clear HK; have HK := HK'; clear HK') | (have HK' := cK HK (by first | exact Below.refl _ _ | exact (Below.refl _ _).drew | exact ((Below.refl _ _).drew).alloc (Nat.le_refl _) _ | exact (Below.refl _ _).alloc (Nat.le_refl _) _ | exact ((Below.refl _ _).alloc (Nat.le_refl _) _).alloc (by simp) _ | exact (((Below.refl _ _).alloc (Nat.le_refl _) _).alloc (by simp) _).alloc (by simp; omega) _) hb10; clear HK; have HK := HK'; clear HK')); have H10 := Lib.hid (Bs.of_own ho10); have hcE := run_str (dst := 9) elB.1 (by kernel_rfl) (by kernel_rfl) (P := Try.prog) H10.out; clear hb10 ho10)
    | (go_at_call 11; have t2 := H10; refine (put_int v _ _ _ v0 v1).mono ?_; clear t2 hcE; intro e w11 hr11; unfold RetB at hr11; rw [← HF.out] at hr11; obtain ⟨ad11, c11, rfl, ho11, hb11⟩ := hr11; (first | (have HK' := cB HK (by first | exact Below.refl _ _ | exact (Below.refl _ _).drew | exact ((Below.refl _ _).drew).alloc (Nat.le_refl _) _ | exact (Below.refl _ _).alloc (Nat.le_refl _) _ | exact ((Below.refl _ _).alloc (Nat.le_refl _) _).alloc (by simp) _ | exact (((Below.refl _ _).alloc (Nat.le_refl _) _).alloc (by simp) _).alloc (by simp; omega) _) hb11; clear HK; have HK := HK'; clear HK') | (have HK' := cO HK (by first | exact Below.refl _ _ | exact (Below.refl _ _).drew | exact ((Below.refl _ _).drew).alloc (Nat.le_refl _) _ | exact (Below.refl _ _).alloc (Nat.le_refl _) _ | exact ((Below.refl _ _).alloc (Nat.le_refl _) _).alloc (by simp) _ | exact (((Below.refl _ _).alloc (Nat.le_refl _) _).alloc (by simp) _).alloc (by simp; omega) _) hb11; clear HK; have HK := HK'; clear HK') | (have HK' := cK HK (by first | exact Below.refl _ _ | exact (Below.refl _ _).drew | exact ((Below.refl _ _).drew).alloc (Nat.le_refl _) _ | exact (Below.refl _ _).alloc (Nat.le_refl _) _ | exact ((Below.refl _ _).alloc (Nat.le_refl _) _).alloc (by simp) _ | exact (((Below.refl _ _).alloc (Nat.le_refl _) _).alloc (by simp) _).alloc (by simp; omega) _) hb11; clear HK; have HK := HK'; clear HK')); (first | (have H10' := cB H10 (by first | exact Below.refl _ _ | exact (Below.refl _ _).drew | exact ((Below.refl _ _).drew).alloc (Nat.le_refl _) _ | exact (Below.refl _ _).alloc (Nat.le_refl _) _ | exact ((Below.refl _ _).alloc (Nat.le_refl _) _).alloc (by simp) _ | exact (((Below.refl _ _).alloc (Nat.le_refl _) _).alloc (by simp) _).alloc (by simp; omega) _) hb11; clear H10; have H10 := H10'; clear H10') | (have H10' := cO H10 (by first | exact Below.refl _ _ | exact (Below.refl _ _).drew | exact ((Below.refl _ _).drew).alloc (Nat.le_refl _) _ | exact (Below.refl _ _).alloc (Nat.le_refl _) _ | exact ((Below.refl _ _).alloc (Nat.le_refl _) _).alloc (by simp) _ | exact (((Below.refl _ _).alloc (Nat.le_refl _) _).alloc (by simp) _).alloc (by simp; omega) _) hb11; clear H10; have H10 := H10'; clear H10') | (have H10' := cK H10 (by first | exact Below.refl _ _ | exact (Below.refl _ _).drew | exact ((Below.refl _ _).drew).alloc (Nat.le_refl _) _ | exact (Below.refl _ _).alloc (Nat.le_refl _) _ | exact ((Below.refl _ _).alloc (Nat.le_refl _) _).alloc (by simp) _ | exact (((Below.refl _ _).alloc (Nat.le_refl _) _).alloc (by simp) _).alloc (by simp; omega) _) hb11; clear H10; have H10 := H10'; clear H10')); have H11 := Lib.hid (Bs.of_own ho11); have hcE := run_str (dst := 9) elB.1 (by kernel_rfl) (by kernel_rfl) (P := Try.prog) H10.out; have hcF := run_str (dst := 9) elB.1 (by kernel_rfl) (by kernel_rfl) (P := Try.prog) H11.out; clear hb11 ho11))
  all_goals
    go_wp2_with fail
    go_ret
    exact ⟨rfl, HK.out⟩
end Go.Proofs.Ytedpicdhhnbphaa
