/-
  The document's words of bytes.
-/
import Derived.Test.YtndmpphkgcjnkaaPlainSip
namespace Go.Proofs.Ytndmpphkgcjnkaa
open Go.RowKit Go.Sort
set_option linter.unusedVariables false

theorem elW : Elem Try.prog 55 40 1 8 (.int .u64 0) := ⟨Try.underlying55, by kernel_rfl, rfl, by omega⟩
/-- the cells of words -/
def WV (l : List Nat) : List Value := l.map fun n : Nat => Value.int .u64 (n : Int)
theorem WV_one (l : List Nat) : ∀ u ∈ WV l, u.oneCell' = true := by
  intro u hu
  obtain ⟨x, _, rfl⟩ := List.mem_map.1 hu
  rfl
theorem getN_take (l : List UInt8) (k : Nat) (h : 8 ≤ k) (big : Bool) : getN (l.take k) big = getN l big := by
  unfold getN
  rw [List.take_take, Nat.min_eq_left h]
theorem Bs.part {w : World} {ad : Option Addr} {n c : Nat} {l : List UInt8} (h : Bs w ad n c l) (i j : Nat) (hij : i ≤ j) (hj : j ≤ n) : Bs w (subAd ad c i 1) (j - i) (c - i) ((l.drop i).take (j - i)) := by
  have := Sl.sub h (l := i) (h := j) hij hj
  have e : ((BV l).drop (i * 1)).take ((j - i) * 1) = BV ((l.drop i).take (j - i)) := by
    simp only [Nat.mul_one]
    unfold BV
    rw [List.map_take, List.map_drop]
  rw [e] at this
  exact this

set_option maxRecDepth 100000 in
set_option maxHeartbeats 600000 in
theorem words_any (ad : Option Addr) (n c : Nat) (l : List UInt8) (w : World) (hs : Bs w ad n c l) (hsz : n ≤ 1000000) :
    Calls Try.prog 28 #[.slice ad n c] w fun e w' => ∃ ad' c', e = .returned (.slice ad' (l.length / 8 + 1) c') ∧ w'.ownsRow w.heap.size 40 1 (.slice ad' (l.length / 8 + 1) c') (l.length / 8 + 1) (WV (wordsOf l)) ∧ Below w.heap.size w w' := by
  have hn := hs.len
  subst hn
  have HS := Lib.hid hs
  obtain ⟨bl, hbl⟩ : ∃ b, b = UInt8.ofNat (l.length % 256) := ⟨_, rfl⟩
  have fb : ((l.length : Nat) : Int) % 256 = (bl.toNat : Int) := by rw [hbl]; simp
  have HBL := Lib.hid hbl
  have hb255 := bl.toNat_lt
  have hp7 : pad7 l.length ≤ 7 := by unfold pad7; omega
  clear hs hbl
  go_enter Try.func28, Try.ntmps28
  go_wp2_with ((with_reducible show wpList _ _ _ (⟨some 8, _, _, _, _, _⟩ :: _) _ _); go_must (refine wpL_append elB rfl (.tmp 6) (.tmp 7) rfl w.heap.size rfl (World.ownsRow_lit (size := 1) (e := 5) w #[] 0 (Nat.le_refl _) (by simp [maxLen]) rfl) rfl (HS.out.below ((Below.refl _ _).alloc (Nat.le_refl _) _)) (BV_one _) (by unfold maxLen; omega) (by omega) (by simp) ?_))
  intro ad1 c1 w1 hown1 hgrow1 hat1 hnil1
  try simp only [Nat.zero_add, List.nil_append] at hown1
  have hb1 : Below w.heap.size w w1 := ((Below.refl w.heap.size w).alloc (Nat.le_refl _) _).grown hgrow1 (by simp) (fun k e => by simp [Value.ownBlock] at e; omega)
  have HO1 := Lib.hid hown1
  have HB1 := Lib.hid hb1
  clear hown1 hgrow1 hat1 hnil1 hb1
  go_wp2_with fail
  go_loopw [3] (fun v wr => ∃ (k : Nat) (ad' : Option Addr) (c' : Nat), k ≤ pad7 l.length ∧ v = .slice ad' (l.length + k) c' ∧ wr.ownsRow w.heap.size 5 1 (.slice ad' (l.length + k) c') (l.length + k) (BV (padTo l k)) ∧ Below w.heap.size w wr) (fun v _ => l.length + pad7 l.length - lenV v)
  case atStart => exact ⟨0, ad1, c1, Nat.zero_le _, by simp, by rw [padTo_zero]; exact HO1.out, HB1.out⟩
  case round =>
    obtain ⟨k, ad2, c2, hk, rfl, ho, hb⟩ := hrel
    have HO := Lib.hid ho
    have HB := Lib.hid hb
    have H1 : Hid ((l.length + k) % 8 = 7 → k = pad7 l.length) := Lib.hid (by unfold pad7 at *; omega)
    have H2 : Hid (¬ (l.length + k) % 8 = 7 → k < pad7 l.length) := Lib.hid (by unfold pad7 at *; omega)
    clear ho hb HO1 HB1
    by_cases h4 : (l.length + k) % 8 = 7
    · have hkk := H1.out h4
      have h5 : (((l.length + k : Nat) : Int)) % 8 = 7 := by omega
      subst hkk
      go_wp2_with ((with_reducible show wpList _ _ _ (⟨some 22, _, _, _, _, _⟩ :: _) _ _); go_must (refine wpL_append elB rfl (.tmp 16) (.tmp 21) rfl w.heap.size rfl (HO.out.alloc _) rfl (Bs.one _ _ bl) (BV_one [bl]) (by unfold maxLen; omega) (by omega) (by have := HB.out.size; simp; omega) ?_))
      intro ad4 c4 w4 hown4 hgrow4 hat4 hnil4
      have HB4 : Hid (Below w.heap.size w w4) := Lib.hid ((HB.out.alloc HB.out.size _).grown hgrow4 (by have := HB.out.size; simp; omega) (ownBlock_ge HO.out))
      have hN : l.length + pad7 l.length + 1 = 8 * (l.length / 8 + 1) := by have := allOf_length l; simp [allOf] at this; omega
      have H4 : Hid (Bs w4 ad4 (l.length + pad7 l.length + 1) c4 (allOf l)) := Lib.hid (by
        have e : allOf l = padTo l (pad7 l.length) ++ [bl] := by rw [HBL.out]; rfl
        rw [e]
        unfold Bs
        rw [BV_append]
        exact Sl.of_own hown4)
      obtain ⟨N, hNN⟩ : ∃ N, N = l.length + pad7 l.length + 1 := ⟨_, rfl⟩
      rw [← hNN] at H4 hN ⊢
      clear hown4 hgrow4 hat4 hnil4 h5 HO HB H1 H2 fb HS
      have hNc := H4.out.le
      go_wp2_with fail
      go_loopw [4, 5] (fun v i wr => ∃ (j : Nat) (ad' : Option Addr) (c' : Nat), j ≤ l.length / 8 + 1 ∧ i = .int .i64 ((8 * j : Nat) : Int) ∧ v = .slice ad' j c' ∧ wr.ownsRow w4.heap.size 40 1 (.slice ad' j c') j (WV ((List.range j).map (wordAt l))) ∧ Below w4.heap.size w4 wr) (fun v _ _ => l.length / 8 + 1 - lenV v)
      case atStart => exact ⟨0, none, 0, Nat.zero_le _, rfl, rfl, World.ownsRow_nil _ _ _ _, Below.refl _ _⟩
      case round =>
        obtain ⟨j, ad5, c5, hj, rfl, rfl, ho, hb⟩ := hrel
        have HO := Lib.hid ho
        have HB := Lib.hid hb
        have H5 := Lib.hid (H4.out.below hb)
        clear ho hb
        by_cases hlt : j < l.length / 8 + 1
        · have hjN : 8 * j + 8 ≤ N := by omega
          have hp := Bs.part H5.out (8 * j) (8 * j + 8) (by omega) hjN
          have e8 : 8 * j + 8 - 8 * j = 8 := by omega
          rw [e8] at hp
          have HPT := Lib.hid hp
          obtain ⟨G, hG⟩ : ∃ G, G = wordAt l j := ⟨_, rfl⟩
          have hGG : Hid (G = getN (((allOf l).drop (8 * j)).take 8) false) := Lib.hid (by rw [getN_take _ _ (by omega), hG]; rfl)
          have HG := Lib.hid hG
          clear hG hN hNN hp
          go_wp2_with (first
            | ((with_reducible show wpList _ _ _ (⟨some 34, _, _, _, _, _⟩ :: _) _ _); go_must (refine wpL_slice elB rfl (.tmp 30) (some (.tmp 31)) (some (.tmp 33)) rfl rfl (8 * j) (8 * j + 8) (.inr ⟨.i64, rfl⟩) (.inr ⟨.i64, rfl⟩) (by omega) (by omega) ?_)))
          intro adp hadp
          rw [← hadp.out] at HPT
          try rw [e8]
          clear e8
          go_wp2_with (first
            | (go_at_call 27; refine (refGet_any _ _ _ _ _ _ HPT.out).mono ?_; rw [← hGG.out]; rintro e w' ⟨rfl, rfl⟩)
            | ((with_reducible show wpList _ _ _ (⟨some 37, _, _, _, _, _⟩ :: _) _ _); go_must (refine wpL_append elW rfl (.tmp 29) (.tmp 36) rfl w4.heap.size rfl (HO.out.alloc _) rfl (Sl.lit _ #[.int .u64 (G : Int)] _ 1 1 rfl (by simp [maxLen])) (WV_one [G]) (by unfold maxLen; omega) (by omega) (by have := HB.out.size; simp; omega) ?_)))
          intro ad7 c7 w7 hown7 hgrow7 hat7 hnil7
          have HO7 := Lib.hid hown7
          have HB7 : Hid (Below w4.heap.size w4 w7) := Lib.hid ((HB.out.alloc HB.out.size _).grown hgrow7 (by have := HB.out.size; simp; omega) (ownBlock_ge HO.out))
          clear hown7 hgrow7 hat7 hnil7
          go_wp2_with fail
          go_roundw
          case rel =>
            refine ⟨j + 1, ad7, c7, by omega, by go_num, rfl, ?_, HB7.out⟩
            have := HO7.out
            rw [List.range_succ, List.map_append, List.map_cons, List.map_nil, ← HG.out]
            unfold WV at *
            rw [List.map_append]
            exact this
          case measure => simp only [lenV]; omega
        · obtain rfl : j = l.length / 8 + 1 := by omega
          have hx : ¬ (8 * ((l.length : Int) / 8 + 1) < (N : Int)) := by omega
          clear hN hNN
          go_wp2_with fail
          go_ret
          exact ⟨ad5, c5, rfl, own_base HO.out HB4.out.size, HB4.out.trans (HB.out.mono HB4.out.size)⟩
    · have hlt := H2.out h4
      have h5 : (((l.length + k : Nat) : Int)) % 8 ≠ 7 := by omega
      go_wp2_with ((with_reducible show wpList _ _ _ (⟨some 15, _, _, _, _, _⟩ :: _) _ _); go_must (refine wpL_append elB rfl (.tmp 13) (.tmp 14) rfl w.heap.size rfl (HO.out.alloc _) rfl (Bs.one _ _ 0) (BV_one [0]) (by unfold maxLen; omega) (by omega) (by have := HB.out.size; simp; omega) ?_))
      intro ad3 c3 w3 hown3 hgrow3 hat3 hnil3
      have HO3 := Lib.hid hown3
      have HB3 : Hid (Below w.heap.size w w3) := Lib.hid ((HB.out.alloc HB.out.size _).grown hgrow3 (by have := HB.out.size; simp; omega) (ownBlock_ge HO.out))
      clear hown3 hgrow3 hat3 hnil3
      go_wp2_with fail
      go_roundw
      case rel => exact ⟨k + 1, ad3, c3, by omega, rfl, by rw [padTo_succ, BV_append]; exact HO3.out, HB3.out⟩
      case measure => simp only [lenV]; omega
end Go.Proofs.Ytndmpphkgcjnkaa
