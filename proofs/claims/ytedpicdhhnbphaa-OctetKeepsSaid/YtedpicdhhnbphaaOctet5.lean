/-
  What is known is carried from call to call; what the anchor asks.
-/
import Derived.Test.YtedpicdhhnbphaaOctet4
namespace Go.Proofs.Ytedpicdhhnbphaa
open Go.RowKit Go.Sort
set_option linter.unusedVariables false

theorem Below.next {A : Nat} {v w a w' : World} (h : Below A v w) (hA : A ≤ w.heap.size) (hu : Below w.heap.size w a) (hb : Below a.heap.size a w') : Below A v w' :=
  h.trans ((hu.trans (hb.mono hu.size)).mono hA)
theorem cB {w a w' : World} {ad : Option Addr} {n c : Nat} {l : List UInt8} (h : Hid (Bs w ad n c l)) (hu : Below w.heap.size w a) (hb : Below a.heap.size a w') : Hid (Bs w' ad n c l) :=
  Lib.hid ((h.out.below hu).below hb)
theorem cK {v w a w' : World} (h : Hid (Below v.heap.size v w)) (hu : Below w.heap.size w a) (hb : Below a.heap.size a w') : Hid (Below v.heap.size v w') :=
  Lib.hid (Below.next h.out h.out.size hu hb)
theorem cO {w a w' : World} {base : Nat} {e : TypeId} {size : Nat} {ad : Option Addr} {n c : Nat} {xs : List Value} (h : Hid (w.ownsRow base e size (.slice ad n c) n xs)) (hu : Below w.heap.size w a) (hb : Below a.heap.size a w') : Hid (w'.ownsRow base e size (.slice ad n c) n xs) :=
  Lib.hid (own_keep (own_keep h.out hu) hb)

theorem put_int (z : Int) (size : Int) (big : Bool) (w : World) (h0 : 0 ≤ z) (h1 : z ≤ 18446744073709551615) :
    Calls Try.prog 11 #[.int .u64 z, .int .i64 size, .bool big] w (RetB 5 (putL z.toNat size big) w) := by
  have := put_any z.toNat size big w (by omega)
  rwa [Int.toNat_of_nonneg h0] at this
theorem refPut_int (z : Int) (size : Int) (big : Bool) (w : World) (h0 : 0 ≤ z) (h1 : z ≤ 18446744073709551615) :
    Calls Try.prog 12 #[.int .u64 z, .int .i64 size, .bool big] w (RetB 5 (putL z.toNat size big) w) := by
  have := refPut_any z.toNat size big w (by omega)
  rwa [Int.toNat_of_nonneg h0] at this

set_option maxRecDepth 100000 in
set_option maxHeartbeats 1000000 in
theorem awake_any (w : World) : Calls Try.prog 9 #[] w fun e w' => e = .returned (.bool true) ∧ Below w.heap.size w w' := by
  have HK := Lib.hid (Below.refl w.heap.size w)
  obtain ⟨l1, hl1⟩ : ∃ l, l = putL (258 : Int).toNat 2 true := ⟨_, rfl⟩
  obtain ⟨l2, hl2⟩ : ∃ l, l = putL (258 : Int).toNat 3 false := ⟨_, rfl⟩
  obtain ⟨l3, hl3⟩ : ∃ l : List UInt8, l = [1, 2].reverse := ⟨_, rfl⟩
  have s1 : ((strOf l1).toList == [1, 2]) = true := by rw [hl1, strOf_toList]; rfl
  have s2 : ((strOf l2).toList == [2, 1, 0]) = true := by rw [hl2, strOf_toList]; rfl
  have s3 : ((strOf l3).toList == [2, 1]) = true := by rw [hl3, strOf_toList]; rfl
  have b12 : ∀ w : World, Bs (w.alloc (.cells #[.int .u8 1, .int .u8 2] 5)) (some ⟨w.heap.size, 0, none⟩) 2 2 [1, 2] := fun w => Sl.lit w #[.int .u8 1, .int .u8 2] _ 2 1 rfl (by simp [maxLen])
  have b7 : ∀ w : World, Bs (w.alloc (.cells #[.int .u8 7] 5)) (some ⟨w.heap.size, 0, none⟩) 1 1 [7] := fun w => Sl.lit w #[.int .u8 7] _ 1 1 rfl (by simp [maxLen])
  have g1 : getN [1, 2] true = 258 := by rfl
  have g2 : getN [1, 2] false = 513 := by rfl
  have p5 : padI 5 = 3 := by rfl
  have HL1 := Lib.hid hl1
  have HL2 := Lib.hid hl2
  have HL3 := Lib.hid hl3
  clear hl1 hl2 hl3
  go_enter Try.func9, Try.ntmps9
  go_wp2_with (first
    | (go_at_call 11; (with_reducible show Calls _ _ #[.int .u64 258, .int .i64 2, _] _ _); refine (put_int 258 2 true _ (by omega) (by omega)).mono ?_; intro e w1 hr1; unfold RetB at hr1; rw [← HL1.out] at hr1; obtain ⟨ad1, c1, rfl, ho1, hb1⟩ := hr1; (first | (have HK' := cB HK (by first | exact Below.refl _ _ | exact (Below.refl _ _).alloc (Nat.le_refl _) _ | exact ((Below.refl _ _).alloc (Nat.le_refl _) _).alloc (by simp) _ | exact (((Below.refl _ _).alloc (Nat.le_refl _) _).alloc (by simp) _).alloc (by simp; omega) _) hb1; clear HK; have HK := HK'; clear HK') | (have HK' := cO HK (by first | exact Below.refl _ _ | exact (Below.refl _ _).alloc (Nat.le_refl _) _ | exact ((Below.refl _ _).alloc (Nat.le_refl _) _).alloc (by simp) _ | exact (((Below.refl _ _).alloc (Nat.le_refl _) _).alloc (by simp) _).alloc (by simp; omega) _) hb1; clear HK; have HK := HK'; clear HK') | (have HK' := cK HK (by first | exact Below.refl _ _ | exact (Below.refl _ _).alloc (Nat.le_refl _) _ | exact ((Below.refl _ _).alloc (Nat.le_refl _) _).alloc (by simp) _ | exact (((Below.refl _ _).alloc (Nat.le_refl _) _).alloc (by simp) _).alloc (by simp; omega) _) hb1; clear HK; have HK := HK'; clear HK')); have H1 := Lib.hid (Bs.of_own ho1); clear ho1 hb1)
    | ((with_reducible show wpList _ _ _ (⟨some 2, _, _, _, _, _⟩ :: _) _ _); go_must (refine wpL_str elB.1 (by kernel_rfl) (by kernel_rfl) rfl (.tmp 1) rfl rfl H1.out ?_))
    | (go_at_call 11; (with_reducible show Calls _ _ #[.int .u64 258, .int .i64 3, _] _ _); refine (put_int 258 3 false _ (by omega) (by omega)).mono ?_; intro e w2 hr2; unfold RetB at hr2; rw [← HL2.out] at hr2; obtain ⟨ad2, c2, rfl, ho2, hb2⟩ := hr2; (first | (have HK' := cB HK (by first | exact Below.refl _ _ | exact (Below.refl _ _).alloc (Nat.le_refl _) _ | exact ((Below.refl _ _).alloc (Nat.le_refl _) _).alloc (by simp) _ | exact (((Below.refl _ _).alloc (Nat.le_refl _) _).alloc (by simp) _).alloc (by simp; omega) _) hb2; clear HK; have HK := HK'; clear HK') | (have HK' := cO HK (by first | exact Below.refl _ _ | exact (Below.refl _ _).alloc (Nat.le_refl _) _ | exact ((Below.refl _ _).alloc (Nat.le_refl _) _).alloc (by simp) _ | exact (((Below.refl _ _).alloc (Nat.le_refl _) _).alloc (by simp) _).alloc (by simp; omega) _) hb2; clear HK; have HK := HK'; clear HK') | (have HK' := cK HK (by first | exact Below.refl _ _ | exact (Below.refl _ _).alloc (Nat.le_refl _) _ | exact ((Below.refl _ _).alloc (Nat.le_refl _) _).alloc (by simp) _ | exact (((Below.refl _ _).alloc (Nat.le_refl _) _).alloc (by simp) _).alloc (by simp; omega) _) hb2; clear HK; have HK := HK'; clear HK')); have H2 := Lib.hid (Bs.of_own ho2); clear ho2 hb2)
    | ((with_reducible show wpList _ _ _ (⟨some 6, _, _, _, _, _⟩ :: _) _ _); go_must (refine wpL_str elB.1 (by kernel_rfl) (by kernel_rfl) rfl (.tmp 5) rfl rfl H2.out ?_))
    | (go_at_call 13; (with_reducible show Calls _ _ #[_, .bool true] _ _); refine (get_any _ 2 2 [1, 2] true _ (b12 _)).mono ?_; intro e w3 hr3; unfold RetN at hr3; obtain ⟨rfl, hb3⟩ := hr3; (first | (have HK' := cB HK (by first | exact Below.refl _ _ | exact (Below.refl _ _).alloc (Nat.le_refl _) _ | exact ((Below.refl _ _).alloc (Nat.le_refl _) _).alloc (by simp) _ | exact (((Below.refl _ _).alloc (Nat.le_refl _) _).alloc (by simp) _).alloc (by simp; omega) _) hb3; clear HK; have HK := HK'; clear HK') | (have HK' := cO HK (by first | exact Below.refl _ _ | exact (Below.refl _ _).alloc (Nat.le_refl _) _ | exact ((Below.refl _ _).alloc (Nat.le_refl _) _).alloc (by simp) _ | exact (((Below.refl _ _).alloc (Nat.le_refl _) _).alloc (by simp) _).alloc (by simp; omega) _) hb3; clear HK; have HK := HK'; clear HK') | (have HK' := cK HK (by first | exact Below.refl _ _ | exact (Below.refl _ _).alloc (Nat.le_refl _) _ | exact ((Below.refl _ _).alloc (Nat.le_refl _) _).alloc (by simp) _ | exact (((Below.refl _ _).alloc (Nat.le_refl _) _).alloc (by simp) _).alloc (by simp; omega) _) hb3; clear HK; have HK := HK'; clear HK')); clear hb3)
    | (go_at_call 13; (with_reducible show Calls _ _ #[_, .bool false] _ _); refine (get_any _ 2 2 [1, 2] false _ (b12 _)).mono ?_; intro e w4 hr4; unfold RetN at hr4; obtain ⟨rfl, hb4⟩ := hr4; (first | (have HK' := cB HK (by first | exact Below.refl _ _ | exact (Below.refl _ _).alloc (Nat.le_refl _) _ | exact ((Below.refl _ _).alloc (Nat.le_refl _) _).alloc (by simp) _ | exact (((Below.refl _ _).alloc (Nat.le_refl _) _).alloc (by simp) _).alloc (by simp; omega) _) hb4; clear HK; have HK := HK'; clear HK') | (have HK' := cO HK (by first | exact Below.refl _ _ | exact (Below.refl _ _).alloc (Nat.le_refl _) _ | exact ((Below.refl _ _).alloc (Nat.le_refl _) _).alloc (by simp) _ | exact (((Below.refl _ _).alloc (Nat.le_refl _) _).alloc (by simp) _).alloc (by simp; omega) _) hb4; clear HK; have HK := HK'; clear HK') | (have HK' := cK HK (by first | exact Below.refl _ _ | exact (Below.refl _ _).alloc (Nat.le_refl _) _ | exact ((Below.refl _ _).alloc (Nat.le_refl _) _).alloc (by simp) _ | exact (((Below.refl _ _).alloc (Nat.le_refl _) _).alloc (by simp) _).alloc (by simp; omega) _) hb4; clear HK; have HK := HK'; clear HK')); clear hb4)
    | (go_at_call 17; refine (pad_any 5 _ (by omega) (by omega)).mono ?_; rintro e w5 ⟨rfl, rfl⟩)
    | (go_at_call 18; refine (padded_any _ 1 1 [7] _ (b7 _) (by omega)).mono ?_; intro e w6 hr6; unfold RetB at hr6; obtain ⟨ad6, c6, rfl, ho6, hb6⟩ := hr6; (first | (have HK' := cB HK (by first | exact Below.refl _ _ | exact (Below.refl _ _).alloc (Nat.le_refl _) _ | exact ((Below.refl _ _).alloc (Nat.le_refl _) _).alloc (by simp) _ | exact (((Below.refl _ _).alloc (Nat.le_refl _) _).alloc (by simp) _).alloc (by simp; omega) _) hb6; clear HK; have HK := HK'; clear HK') | (have HK' := cO HK (by first | exact Below.refl _ _ | exact (Below.refl _ _).alloc (Nat.le_refl _) _ | exact ((Below.refl _ _).alloc (Nat.le_refl _) _).alloc (by simp) _ | exact (((Below.refl _ _).alloc (Nat.le_refl _) _).alloc (by simp) _).alloc (by simp; omega) _) hb6; clear HK; have HK := HK'; clear HK') | (have HK' := cK HK (by first | exact Below.refl _ _ | exact (Below.refl _ _).alloc (Nat.le_refl _) _ | exact ((Below.refl _ _).alloc (Nat.le_refl _) _).alloc (by simp) _ | exact (((Below.refl _ _).alloc (Nat.le_refl _) _).alloc (by simp) _).alloc (by simp; omega) _) hb6; clear HK; have HK := HK'; clear HK')); clear hb6 ho6)
    | (go_at_call 15; refine (turn_any _ 2 2 [1, 2] _ (b12 _) (by omega)).mono ?_; intro e w7 hr7; unfold RetB at hr7; rw [← HL3.out] at hr7; obtain ⟨ad7, c7, rfl, ho7, hb7⟩ := hr7; (first | (have HK' := cB HK (by first | exact Below.refl _ _ | exact (Below.refl _ _).alloc (Nat.le_refl _) _ | exact ((Below.refl _ _).alloc (Nat.le_refl _) _).alloc (by simp) _ | exact (((Below.refl _ _).alloc (Nat.le_refl _) _).alloc (by simp) _).alloc (by simp; omega) _) hb7; clear HK; have HK := HK'; clear HK') | (have HK' := cO HK (by first | exact Below.refl _ _ | exact (Below.refl _ _).alloc (Nat.le_refl _) _ | exact ((Below.refl _ _).alloc (Nat.le_refl _) _).alloc (by simp) _ | exact (((Below.refl _ _).alloc (Nat.le_refl _) _).alloc (by simp) _).alloc (by simp; omega) _) hb7; clear HK; have HK := HK'; clear HK') | (have HK' := cK HK (by first | exact Below.refl _ _ | exact (Below.refl _ _).alloc (Nat.le_refl _) _ | exact ((Below.refl _ _).alloc (Nat.le_refl _) _).alloc (by simp) _ | exact (((Below.refl _ _).alloc (Nat.le_refl _) _).alloc (by simp) _).alloc (by simp; omega) _) hb7; clear HK; have HK := HK'; clear HK')); have H7 := Lib.hid (Bs.of_own ho7); clear ho7 hb7)
    | ((with_reducible show wpList _ _ _ (⟨some 32, _, _, _, _, _⟩ :: _) _ _); go_must (refine wpL_str elB.1 (by kernel_rfl) (by kernel_rfl) rfl (.tmp 31) rfl rfl H7.out ?_)))
  go_ret
  exact ⟨rfl, HK.out⟩
end Go.Proofs.Ytedpicdhhnbphaa
