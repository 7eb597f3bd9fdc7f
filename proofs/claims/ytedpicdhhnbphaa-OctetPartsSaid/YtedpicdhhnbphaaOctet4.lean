/-
  The contracts of the document's functions on bytes, continued: Turn, Padded, Same; what the anchor asks.
-/
import Derived.Test.YtedpicdhhnbphaaOctet3
namespace Go.Proofs.Ytedpicdhhnbphaa
open Go.RowKit Go.Sort
set_option linter.unusedVariables false

/-- how long a slice is -/
def lenV : Value → Nat
  | .slice _ n _ => n
  | _ => 0

theorem take_snocR (l : List UInt8) (k : Nat) (h : k < l.length) : l.reverse.take (k + 1) = l.reverse.take k ++ [at8 l (l.length - 1 - k)] := by
  rw [List.take_add_one, List.getElem?_eq_getElem (by simpa using h), at8_get l _ (by omega), List.getElem_reverse]; rfl

theorem refTurn_any (ad : Option Addr) (n c : Nat) (l : List UInt8) (w : World) (hs : Bs w ad n c l) (hsz : n ≤ 140737488351232) :
    Calls Try.prog 16 #[.slice ad n c] w (RetB 5 l.reverse w) := by
  have hn := hs.len
  have HS := Lib.hid hs
  have HN := Lib.hid hn
  clear hs hn
  go_enter Try.func16, Try.ntmps16
  go_wp2_with fail
  go_loopw [3, 4] (fun v i wr => ∃ (k : Nat) (ad' : Option Addr) (c' : Nat), k ≤ n ∧ i = .int .i64 ((n : Int) - 1 - k) ∧ v = .slice ad' k c' ∧ wr.ownsRow w.heap.size 5 1 (.slice ad' k c') k (BV (l.reverse.take k)) ∧ Below w.heap.size w wr) (fun v _ _ => n - lenV v)
  case atStart => exact ⟨0, none, 0, Nat.zero_le _, by simp, rfl, World.ownsRow_nil _ _ _ _, Below.refl _ _⟩
  case round =>
    obtain ⟨k, ad2, c2, hk, rfl, rfl, ho, hb⟩ := hrel
    have HO := Lib.hid ho
    have HB := Lib.hid hb
    by_cases hlt : k < n
    · obtain ⟨b, off, rfl, hbl, hcc⟩ := (HS.out.below hb).at (j := 0) (by have := HN.out; omega)
      have hcx := hcc (n - 1 - k) (by have := HN.out; omega)
      obtain ⟨by8, hby⟩ : ∃ by8, by8 = at8 l (n - 1 - k) := ⟨_, rfl⟩
      have hst := take_snocR l k (by have := HN.out; omega)
      rw [← HN.out, ← hby] at hst
      rw [← hby] at hcx
      have HST := Lib.hid hst
      have b1 : (0 : Int) ≤ (n : Int) - 1 - k := by omega
      clear hst hby hcc ho hb
      go_wp2_with ((with_reducible show wpList _ _ _ (⟨some 18, _, _, _, _, _⟩ :: _) _ _); go_must (refine wpL_append elB rfl (.tmp 12) (.tmp 17) rfl w.heap.size rfl (HO.out.alloc _) rfl (Bs.one _ _ by8) (BV_one [by8]) (by unfold maxLen; omega) (by omega) (by have := HB.out.size; simp; omega) ?_))
      intro ad3 c3 w3 hown3 hgrow3 hat3 hnil3
      have HO3 := Lib.hid hown3
      have HB3 : Hid (Below w.heap.size w w3) := Lib.hid ((HB.out.alloc HB.out.size _).grown hgrow3 (by have := HB.out.size; simp; omega) (ownBlock_ge HO.out))
      clear hown3 hgrow3 hat3 hnil3
      go_wp2_with fail
      go_roundw
      case rel => exact ⟨k + 1, ad3, c3, by omega, by go_num, rfl, by rw [HST.out, BV_append]; exact HO3.out, HB3.out⟩
      case measure => simp only [lenV]; omega
    · obtain rfl : k = n := by omega
      clear ho hb
      have b1 : ¬ (0 : Int) ≤ (k : Int) - 1 - k := by omega
      go_wp2_with fail
      go_ret
      have hn := HN.out
      have ho := HO.out
      rw [List.take_of_length_le (by simp; omega)] at ho
      refine ⟨ad2, c2, by rw [List.length_reverse, ← hn]; rfl, by rw [List.length_reverse, ← hn]; exact ho, HB.out⟩

theorem refPadded_any (ad : Option Addr) (n c : Nat) (l : List UInt8) (w : World) (hs : Bs w ad n c l) (hsz : n ≤ 140737488351232) :
    Calls Try.prog 19 #[.slice ad n c] w (RetB 5 (padL l) w) := by
  have hn := hs.len
  subst hn
  have HS := Lib.hid hs
  have hp3 := padN_le l.length
  clear hs
  go_enter Try.func19, Try.ntmps19
  go_wp2_with ((with_reducible show wpList _ _ _ (⟨some 6, _, _, _, _, _⟩ :: _) _ _); go_must (refine wpL_append elB rfl (.tmp 4) (.tmp 5) rfl w.heap.size rfl (World.ownsRow_lit (size := 1) (e := 5) w #[] 0 (Nat.le_refl _) (by simp [maxLen]) rfl) rfl (HS.out.below ((Below.refl _ _).alloc (Nat.le_refl _) _)) (BV_one _) (by unfold maxLen; omega) (by omega) (by simp) ?_))
  intro ad1 c1 w1 hown1 hgrow1 hat1 hnil1
  try simp only [Nat.zero_add, List.nil_append] at hown1
  have hb1 : Below w.heap.size w w1 := ((Below.refl w.heap.size w).alloc (Nat.le_refl _) _).grown hgrow1 (by simp) (fun k e => by simp [Value.ownBlock] at e; omega)
  have HO1 := Lib.hid hown1
  have HB1 := Lib.hid hb1
  clear hown1 hgrow1 hat1 hnil1 hb1
  go_wp2_with fail
  go_loopw [3] (fun v wr => ∃ (k : Nat) (ad' : Option Addr) (c' : Nat), k ≤ padN l.length ∧ v = .slice ad' (l.length + k) c' ∧ wr.ownsRow w.heap.size 5 1 (.slice ad' (l.length + k) c') (l.length + k) (BV (padTo l k)) ∧ Below w.heap.size w wr) (fun v _ => l.length + padN l.length - lenV v)
  case atStart => exact ⟨0, ad1, c1, Nat.zero_le _, by simp, by rw [padTo_zero]; exact HO1.out, HB1.out⟩
  case round =>
    obtain ⟨k, ad2, c2, hk, rfl, ho, hb⟩ := hrel
    have HO := Lib.hid ho
    have HB := Lib.hid hb
    have H1 := Lib.hid (padN_end l.length k · hk)
    have H2 := Lib.hid (padN_more l.length k · hk)
    clear ho hb HO1 HB1
    by_cases h4 : (l.length + k) % 4 = 0
    · have hkk := H1.out h4
      have h5 : (((l.length + k : Nat) : Int)) % 4 = 0 := by omega
      subst hkk
      go_wp2_with fail
      go_ret
      refine ⟨ad2, c2, by rw [padL_length]; rfl, ?_, HB.out⟩
      rw [padL_length]
      exact HO.out
    · have hlt := H2.out h4
      have h5 : (((l.length + k : Nat) : Int)) % 4 ≠ 0 := by omega
      go_wp2_with ((with_reducible show wpList _ _ _ (⟨some 13, _, _, _, _, _⟩ :: _) _ _); go_must (refine wpL_append elB rfl (.tmp 11) (.tmp 12) rfl w.heap.size rfl (HO.out.alloc _) rfl (Bs.one _ _ 0) (BV_one [0]) (by unfold maxLen; omega) (by omega) (by have := HB.out.size; simp; omega) ?_))
      intro ad3 c3 w3 hown3 hgrow3 hat3 hnil3
      have HO3 := Lib.hid hown3
      have HB3 : Hid (Below w.heap.size w w3) := Lib.hid ((HB.out.alloc HB.out.size _).grown hgrow3 (by have := HB.out.size; simp; omega) (ownBlock_ge HO.out))
      clear hown3 hgrow3 hat3 hnil3
      go_wp2_with fail
      go_roundw
      case rel => exact ⟨k + 1, ad3, c3, by omega, rfl, by rw [padTo_succ, BV_append]; exact HO3.out, HB3.out⟩
      case measure => simp only [lenV]; omega

theorem same_any (ad : Option Addr) (n c : Nat) (l : List UInt8) (ad' : Option Addr) (n' c' : Nat) (m : List UInt8) (w : World) (hs : Bs w ad n c l) (hs' : Bs w ad' n' c' m) :
    Calls Try.prog 10 #[.slice ad n c, .slice ad' n' c'] w fun e w' => e = .returned (.bool (sameB l m)) ∧ w = w' := by
  have HS := Lib.hid hs
  have HS' := Lib.hid hs'
  clear hs hs'
  go_enter Try.func10, Try.ntmps10
  go_wp2_with (first
    | ((with_reducible show wpList _ _ _ (⟨some 6, _, _, _, _, _⟩ :: _) _ _); go_must (refine wpL_str elB.1 (by kernel_rfl) (by kernel_rfl) rfl (.tmp 5) rfl rfl HS.out ?_))
    | ((with_reducible show wpList _ _ _ (⟨some 8, _, _, _, _, _⟩ :: _) _ _); go_must (refine wpL_str elB.1 (by kernel_rfl) (by kernel_rfl) rfl (.tmp 7) rfl rfl HS'.out ?_)))
  rw [sameB_str]
  go_ret
  exact ⟨rfl, rfl⟩

end Go.Proofs.Ytedpicdhhnbphaa
