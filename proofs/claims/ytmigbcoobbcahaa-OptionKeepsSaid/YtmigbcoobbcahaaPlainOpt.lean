/-
  Plain laws of chapter 25: options laid and read.
-/
import Derived.Test.YtmigbcoobbcahaaPlain1
namespace Go.Proofs.Ytmigbcoobbcahaa
open Go.RowKit Go.Sort
set_option linter.unusedVariables false

/-- an option: its code, its value -/
abbrev OV := Int × List UInt8
def hdB (big : Bool) (o : OV) : List UInt8 := putL o.1.toNat 2 big ++ putL o.2.length 2 big
def optB (big : Bool) (o : OV) : List UInt8 := hdB big o ++ padL o.2
def putO (big : Bool) (l : List OV) : List UInt8 := l.flatMap (optB big)
def endO (l : List OV) : List UInt8 := if l.isEmpty then [] else [0, 0, 0, 0]
def putAll (big : Bool) (l : List OV) : List UInt8 := putO big l ++ endO l
def okO (o : OV) : Prop := 1 ≤ o.1 ∧ o.1 ≤ 65535 ∧ o.2.length ≤ 65535
/-- the error of the first that may not be; 0: none -/
def wrongO : List OV → Int
  | [] => 0
  | o :: l => if o.1 < 1 ∨ 65535 < o.1 then 1 else if 65535 < o.2.length then 4 else wrongO l
def lenO (o : OV) : Nat := 4 + o.2.length + padN o.2.length
def sizeO (l : List OV) : Nat := (l.map lenO).sum

theorem wrongO_zero {l : List OV} : wrongO l = 0 ↔ ∀ o ∈ l, okO o := by
  induction l with
  | nil => simp [wrongO]
  | cons o l ih =>
    simp only [wrongO, List.mem_cons, forall_eq_or_imp]
    unfold okO at *
    split
    · constructor
      · intro h; cases h
      · intro h; have := h.1; omega
    · split
      · constructor
        · intro h; cases h
        · intro h; have := h.1; omega
      · constructor
        · intro h; exact ⟨by omega, ih.1 h⟩
        · intro h; exact ih.2 h.2
theorem putL2_length (n : Nat) (big : Bool) : (putL n 2 big).length = 2 := by rw [putL_length]; rfl
theorem hdB_length (big : Bool) (o : OV) : (hdB big o).length = 4 := by simp [hdB, putL2_length]
theorem optB_length (big : Bool) (o : OV) : (optB big o).length = lenO o := by
  simp [optB, hdB_length, padL, lenO]; omega
theorem putO_length (big : Bool) (l : List OV) : (putO big l).length = sizeO l := by
  induction l with
  | nil => rfl
  | cons o l ih =>
    simp only [putO, List.flatMap_cons, List.length_append, optB_length, sizeO, List.map_cons, List.sum_cons] at *
    omega
theorem putO_append (big : Bool) (l m : List OV) : putO big (l ++ m) = putO big l ++ putO big m := by simp [putO]
theorem putO_one (big : Bool) (o : OV) : putO big [o] = optB big o := by simp [putO]
theorem sizeO_append (l m : List OV) : sizeO (l ++ m) = sizeO l + sizeO m := by simp [sizeO]
theorem lenO_mod (o : OV) : lenO o % 4 = 0 := by unfold lenO padN; omega
theorem sizeO_mod (l : List OV) : sizeO l % 4 = 0 := by
  induction l with
  | nil => rfl
  | cons o l ih =>
    have := lenO_mod o
    simp only [sizeO, List.map_cons, List.sum_cons] at *
    omega
theorem wrongO_step {l : List OV} {k : Nat} (hk : k < l.length) (h : wrongO l = wrongO (l.drop k)) : wrongO l = if l[k].1 < 1 ∨ 65535 < l[k].1 then 1 else if 65535 < l[k].2.length then 4 else wrongO (l.drop (k + 1)) := by
  rw [h, List.drop_eq_getElem_cons hk, wrongO]
theorem getN_two (n : Nat) (big : Bool) (h : n ≤ 65535) : getN (putL n 2 big) big = n := by
  rw [getN_putL]
  show n % 65536 = n
  omega

/-! ### reading -/
abbrev RR := List OV × Nat × Bool × (Nat × Int)
def codeOf (big : Bool) (s : List UInt8) : Nat := getN (s.take 2) big
def sizeOf2 (big : Bool) (s : List UInt8) : Nat := getN ((s.drop 2).take 2) big
def rowsS (big : Bool) : Nat → List UInt8 → Nat → List OV → RR
  | 0, _, at_, acc => (acc, at_, false, (0, 0))
  | f + 1, s, at_, acc =>
    if s.length = 0 then (acc, at_, false, (0, 0))
    else if s.length < 4 then ([], 0, false, (at_, 2))
    else if codeOf big s = 0 ∧ sizeOf2 big s = 0 then (acc, at_ + 4, true, (0, 0))
    else if codeOf big s = 0 then ([], 0, false, (at_, 3))
    else if s.length < 4 + sizeOf2 big s + padN (sizeOf2 big s) then ([], 0, false, (at_, 2))
    else rowsS big f (s.drop (4 + sizeOf2 big s + padN (sizeOf2 big s))) (at_ + (4 + sizeOf2 big s + padN (sizeOf2 big s))) (acc ++ [((codeOf big s : Int), (s.drop 4).take (sizeOf2 big s))])
def rowsB (big : Bool) (b : List UInt8) : RR := rowsS big b.length b 0 []

theorem rowsS_fuel (big : Bool) : ∀ (f g : Nat) (s : List UInt8) (at_ : Nat) (acc : List OV), s.length ≤ f → s.length ≤ g → rowsS big f s at_ acc = rowsS big g s at_ acc
  | 0, 0, _, _, _, _, _ => rfl
  | 0, g + 1, s, at_, acc, h, _ => by
    have : s.length = 0 := by omega
    simp [rowsS, this]
  | f + 1, 0, s, at_, acc, _, h => by
    have : s.length = 0 := by omega
    simp [rowsS, this]
  | f + 1, g + 1, s, at_, acc, h1, h2 => by
    simp only [rowsS]
    repeat' split
    all_goals first | rfl | skip
    exact rowsS_fuel big f g _ _ _ (by rw [List.length_drop]; omega) (by rw [List.length_drop]; omega)

theorem rowsS_nil (big : Bool) (f at_ : Nat) (acc : List OV) : rowsS big f [] at_ acc = (acc, at_, false, (0, 0)) := by
  cases f <;> simp [rowsS]
/-- an option that was laid, whatever stands in its padding -/
theorem rowsS_opt (big : Bool) (f : Nat) (o : OV) (ho : okO o) (p t : List UInt8) (hp : p.length = padN o.2.length) (at_ : Nat) (acc : List OV) :
    rowsS big (f + 1) (hdB big o ++ o.2 ++ p ++ t) at_ acc = rowsS big f t (at_ + lenO o) (acc ++ [o]) := by
  obtain ⟨h1, h2, h3⟩ := ho
  obtain ⟨s, hs⟩ : ∃ s, s = hdB big o ++ o.2 ++ p ++ t := ⟨_, rfl⟩
  have c2 : s.take 2 = putL o.1.toNat 2 big := by
    rw [hs]; unfold hdB
    simp only [List.append_assoc]
    exact List.take_left' (putL2_length _ _)
  have c3 : (s.drop 2).take 2 = putL o.2.length 2 big := by
    rw [hs]; unfold hdB
    simp only [List.append_assoc]
    rw [List.drop_left' (putL2_length _ _)]
    exact List.take_left' (putL2_length _ _)
  have hc : codeOf big s = o.1.toNat := by unfold codeOf; rw [c2, getN_two _ _ (by omega)]
  have hn : sizeOf2 big s = o.2.length := by unfold sizeOf2; rw [c3, getN_two _ _ h3]
  have hl : s.length = 4 + o.2.length + padN o.2.length + t.length := by rw [hs]; simp [hdB_length, hp]; omega
  have d4 : (s.drop 4).take o.2.length = o.2 := by
    rw [hs]
    simp only [List.append_assoc]
    rw [List.drop_left' (hdB_length big o)]
    exact List.take_left' rfl
  have da : s.drop (4 + o.2.length + padN o.2.length) = t := by
    rw [hs]
    exact List.drop_left' (by simp [hdB_length, hp]; omega)
  rw [← hs]
  simp only [rowsS, hc, hn]
  rw [if_neg (by omega), if_neg (by omega), if_neg (by omega), if_neg (by omega), if_neg (by omega), da, d4, Int.toNat_of_nonneg (by omega)]
  rfl
theorem rowsS_end (big : Bool) (f : Nat) (t : List UInt8) (at_ : Nat) (acc : List OV) : rowsS big (f + 1) ([0, 0, 0, 0] ++ t) at_ acc = (acc, at_ + 4, true, (0, 0)) := by
  have h1 : codeOf big ([0, 0, 0, 0] ++ t) = 0 := by cases big <;> rfl
  have h2 : sizeOf2 big ([0, 0, 0, 0] ++ t) = 0 := by cases big <;> rfl
  simp only [rowsS, h1, h2]
  simp
/-- options with whatever in their padding -/
def layP (big : Bool) (p : UInt8) (l : List OV) : List UInt8 := l.flatMap fun o => hdB big o ++ o.2 ++ List.replicate (padN o.2.length) p
theorem layP_zero (big : Bool) (l : List OV) : layP big 0 l = putO big l := by
  unfold layP putO optB padL
  simp only [List.append_assoc]
theorem layP_length (big : Bool) (p : UInt8) (l : List OV) : (layP big p l).length = sizeO l := by
  induction l with
  | nil => rfl
  | cons o l ih =>
    simp only [layP, List.flatMap_cons, List.length_append, hdB_length, List.length_replicate, sizeO, List.map_cons, List.sum_cons, lenO] at *
    omega
theorem rowsS_lay (big : Bool) (p : UInt8) : ∀ (l : List OV) (f : Nat) (t : List UInt8) (at_ : Nat) (acc : List OV), (∀ o ∈ l, okO o) →
    rowsS big (f + l.length) (layP big p l ++ t) at_ acc = rowsS big f t (at_ + sizeO l) (acc ++ l)
  | [], f, t, at_, acc, _ => by simp [layP, sizeO]
  | o :: l, f, t, at_, acc, h => by
    have e : layP big p (o :: l) ++ t = hdB big o ++ o.2 ++ List.replicate (padN o.2.length) p ++ (layP big p l ++ t) := by
      simp [layP, List.append_assoc]
    rw [e, show f + (o :: l).length = (f + l.length) + 1 by simp; omega, rowsS_opt big _ o (h o (by simp)) _ _ (by simp), rowsS_lay big p l f t _ _ (fun x hx => h x (by simp [hx]))]
    congr 1
    · simp [sizeO]; omega
    · simp
theorem lenO_ge (o : OV) : 4 ≤ lenO o := by unfold lenO; omega
theorem sizeO_ge (l : List OV) : 4 * l.length ≤ sizeO l := by
  induction l with
  | nil => simp [sizeO]
  | cons o l ih =>
    have := lenO_ge o
    simp only [sizeO, List.map_cons, List.sum_cons, List.length_cons] at *
    omega
/-- what is laid is read; behind it t goes on -/
theorem rowsB_lay (big : Bool) (p : UInt8) (l : List OV) (t : List UInt8) (h : ∀ o ∈ l, okO o) : rowsB big (layP big p l ++ t) = rowsS big t.length t (sizeO l) l := by
  unfold rowsB
  have hl : (layP big p l ++ t).length = sizeO l + t.length := by rw [List.length_append, layP_length]
  have := sizeO_ge l
  rw [rowsS_fuel big _ (t.length + sizeO l + l.length) _ _ _ (Nat.le_refl _) (by omega), rowsS_lay big p l _ t 0 [] h]
  simp only [Nat.zero_add, List.nil_append]
  exact rowsS_fuel big _ _ _ _ _ (by omega) (Nat.le_refl _)
/-- cut off within an option -/
theorem rowsS_cut (big : Bool) (f : Nat) (o : OV) (ho : okO o) (k : Nat) (h0 : 0 < k) (h1 : k < lenO o) (t : List UInt8) (at_ : Nat) (acc : List OV) :
    rowsS big (f + 1) ((optB big o ++ t).take k) at_ acc = ([], 0, false, (at_, 2)) := by
  obtain ⟨g1, g2, g3⟩ := ho
  obtain ⟨s, hs⟩ : ∃ s, s = (optB big o ++ t).take k := ⟨_, rfl⟩
  have hl : s.length = k := by rw [hs, List.length_take, List.length_append, optB_length]; omega
  rw [← hs]
  by_cases h4 : k < 4
  · simp only [rowsS, hl]
    rw [if_neg (by omega), if_pos h4]
  · have e : (optB big o ++ t) = putL o.1.toNat 2 big ++ (putL o.2.length 2 big ++ (padL o.2 ++ t)) := by
      simp [optB, hdB, List.append_assoc]
    have c2 : s.take 2 = putL o.1.toNat 2 big := by
      rw [hs, List.take_take, Nat.min_eq_left (by omega), e]
      exact List.take_left' (putL2_length _ _)
    have c3 : (s.drop 2).take 2 = putL o.2.length 2 big := by
      rw [hs, List.drop_take, List.take_take, Nat.min_eq_left (by omega), e, List.drop_left' (putL2_length _ _)]
      exact List.take_left' (putL2_length _ _)
    have hc : codeOf big s = o.1.toNat := by unfold codeOf; rw [c2, getN_two _ _ (by omega)]
    have hn : sizeOf2 big s = o.2.length := by unfold sizeOf2; rw [c3, getN_two _ _ g3]
    unfold lenO at h1
    simp only [rowsS, hc, hn, hl]
    rw [if_neg (by omega), if_neg (by omega), if_neg (by omega), if_neg (by omega), if_pos (by omega)]
/-- without a fault: at its end if there was no end's mark -/
theorem rowsS_at (big : Bool) : ∀ (f : Nat) (s : List UInt8) (at_ : Nat) (acc : List OV), s.length ≤ f → (rowsS big f s at_ acc).2.2.2 = (0, 0) →
    (rowsS big f s at_ acc).2.1 ≤ at_ + s.length ∧ ((rowsS big f s at_ acc).2.2.1 = false → (rowsS big f s at_ acc).2.1 = at_ + s.length)
  | 0, s, at_, acc, h, _ => by
    have : s.length = 0 := by omega
    simp [rowsS, this]
  | f + 1, s, at_, acc, h, hz => by
    simp only [rowsS] at hz ⊢
    split at hz
    · rename_i h0; simp [h0]
    · rename_i h0
      rw [if_neg h0]
      split at hz
      · simp at hz
      · rename_i h1
        rw [if_neg h1]
        split at hz
        · rename_i h2; rw [if_pos h2]; simp; omega
        · rename_i h2
          rw [if_neg h2]
          split at hz
          · simp at hz
          · rename_i h3
            rw [if_neg h3]
            split at hz
            · simp at hz
            · rename_i h4
              rw [if_neg h4]
              have ih := rowsS_at big f _ _ _ (by rw [List.length_drop]; omega) hz
              rw [List.length_drop] at ih
              refine ⟨by omega, fun hh => ?_⟩
              rw [ih.2 hh]
              omega

/-! ### what is answered -/
abbrev Sp := Nat × Int
def readR (len : Nat) (r : RR) : List OV × Sp := if r.2.2.2 = (0, 0) then (if r.2.1 < len then ([], (r.2.1, 3)) else (r.1, (0, 0))) else ([], r.2.2.2)
def rowsR (r : RR) : List OV × Nat × Sp := if r.2.2.2 = (0, 0) then (if r.2.2.1 then (r.1, r.2.1, (0, 0)) else ([], 0, (r.2.1, 2))) else ([], 0, r.2.2.2)
def readO (big : Bool) (b : List UInt8) : List OV × Sp := readR b.length (rowsB big b)
def rowsO (big : Bool) (b : List UInt8) : List OV × Nat × Sp := rowsR (rowsB big b)
theorem rowsS_spot (big : Bool) : ∀ (f : Nat) (s : List UInt8) (at_ : Nat) (acc : List OV), (rowsS big f s at_ acc).2.2.2 = (0, 0) ∨ ((rowsS big f s at_ acc).2.2.2.2 = 2 ∨ (rowsS big f s at_ acc).2.2.2.2 = 3) ∧ (rowsS big f s at_ acc).2.2.2.1 < at_ + s.length ∧ (rowsS big f s at_ acc).1 = [] ∧ (rowsS big f s at_ acc).2.1 = 0 ∧ (rowsS big f s at_ acc).2.2.1 = false
  | 0, s, at_, acc => by simp [rowsS]
  | f + 1, s, at_, acc => by
    simp only [rowsS]
    split
    · exact .inl rfl
    · split
      · refine .inr ⟨.inl rfl, ?_, rfl, rfl, rfl⟩; simp; omega
      · split
        · exact .inl rfl
        · split
          · refine .inr ⟨.inr rfl, ?_, rfl, rfl, rfl⟩; simp; omega
          · split
            · refine .inr ⟨.inl rfl, ?_, rfl, rfl, rfl⟩; simp; omega
            · have := rowsS_spot big f (s.drop (4 + sizeOf2 big s + padN (sizeOf2 big s))) (at_ + (4 + sizeOf2 big s + padN (sizeOf2 big s))) (acc ++ [((codeOf big s : Int), (s.drop 4).take (sizeOf2 big s))])
              rw [List.length_drop] at this
              refine this.imp id fun ⟨h1, h2, h3⟩ => ⟨h1, by omega, h3⟩
theorem readO_lay (big : Bool) (p : UInt8) (l : List OV) (h : ∀ o ∈ l, okO o) : readO big (layP big p l ++ endO l) = (l, (0, 0)) := by
  unfold readO readR
  rw [rowsB_lay big p l _ h]
  have hl : (layP big p l ++ endO l).length = sizeO l + (endO l).length := by rw [List.length_append, layP_length]
  rw [hl]
  cases l with
  | nil => simp [endO, rowsS, sizeO]
  | cons o l =>
    have e : endO (o :: l) = [0, 0, 0, 0] ++ [] := rfl
    rw [e]
    have := rowsS_end big 3 [] (sizeO (o :: l)) (o :: l)
    rw [show ([0, 0, 0, 0] ++ [] : List UInt8).length = 3 + 1 from rfl, this]
    simp
theorem readO_open (big : Bool) (p : UInt8) (l : List OV) (h : ∀ o ∈ l, okO o) : readO big (layP big p l) = (l, (0, 0)) := by
  unfold readO readR
  have := rowsB_lay big p l [] h
  rw [List.append_nil] at this
  rw [this, layP_length]
  simp [rowsS_nil]
theorem rowsO_more (big : Bool) (p : UInt8) (l : List OV) (h : ∀ o ∈ l, okO o) (hl : l ≠ []) (t : List UInt8) : rowsO big (layP big p l ++ endO l ++ t) = (l, sizeO l + 4, (0, 0)) := by
  unfold rowsO rowsR
  have e : endO l = [0, 0, 0, 0] := by cases l with | nil => exact absurd rfl hl | cons => rfl
  rw [List.append_assoc, rowsB_lay big p l _ h, e]
  have := rowsS_end big (3 + t.length) t (sizeO l) l
  rw [show (([0, 0, 0, 0] : List UInt8) ++ t).length = 3 + t.length + 1 by simp; omega, this]
  simp
theorem readO_more (big : Bool) (p : UInt8) (l : List OV) (h : ∀ o ∈ l, okO o) (hl : l ≠ []) (t : List UInt8) (ht : t ≠ []) : readO big (layP big p l ++ endO l ++ t) = ([], (sizeO l + 4, 3)) := by
  unfold readO readR
  have e : endO l = [0, 0, 0, 0] := by cases l with | nil => exact absurd rfl hl | cons => rfl
  have hlen : (layP big p l ++ endO l ++ t).length = sizeO l + 4 + t.length := by rw [List.length_append, List.length_append, layP_length, e]; rfl
  have htl : 0 < t.length := List.length_pos_iff.2 ht
  rw [hlen, List.append_assoc, rowsB_lay big p l _ h, e]
  have := rowsS_end big (3 + t.length) t (sizeO l) l
  rw [show (([0, 0, 0, 0] : List UInt8) ++ t).length = 3 + t.length + 1 by simp; omega, this]
  simp [htl]

/-! ### cut off -/
theorem putAll_split (big : Bool) (l : List OV) (i : Nat) : putAll big l = putO big (l.take i) ++ (putO big (l.drop i) ++ endO l) := by
  unfold putAll
  rw [← List.append_assoc, ← putO_append, List.take_append_drop]
theorem cut_at (big : Bool) (l : List OV) (h : ∀ o ∈ l, okO o) (i : Nat) : readO big ((putAll big l).take (sizeO (l.take i))) = (l.take i, (0, 0)) := by
  rw [putAll_split big l i, List.take_left' (putO_length _ _), ← layP_zero]
  exact readO_open big 0 _ fun o ho => h o (List.mem_of_mem_take ho)
theorem cut_in (big : Bool) (l : List OV) (h : ∀ o ∈ l, okO o) (i : Nat) (hi : i < l.length) (n : Nat) (h1 : sizeO (l.take i) < n) (h2 : n < sizeO (l.take i) + lenO l[i]) : readO big ((putAll big l).take n) = ([], (sizeO (l.take i), 2)) := by
  obtain ⟨k, rfl⟩ : ∃ k, n = sizeO (l.take i) + k := ⟨n - sizeO (l.take i), by omega⟩
  have e : (putAll big l).take (sizeO (l.take i) + k) = putO big (l.take i) ++ (optB big l[i] ++ (putO big (l.drop (i + 1)) ++ endO l)).take k := by
    rw [putAll_split big l i, List.take_append, putO_length, List.take_of_length_le (by rw [putO_length]; omega), show sizeO (l.take i) + k - sizeO (l.take i) = k by omega, List.drop_eq_getElem_cons hi]
    congr 2
    unfold putO
    rw [List.flatMap_cons, List.append_assoc]
  rw [e]
  unfold readO readR
  rw [← layP_zero, rowsB_lay big 0 _ _ (fun o ho => h o (List.mem_of_mem_take ho))]
  have hk : ((optB big l[i] ++ (putO big (l.drop (i + 1)) ++ endO l)).take k).length = k := by
    rw [List.length_take, List.length_append, optB_length]; omega
  rw [hk, show k = (k - 1) + 1 by omega, ← show k = (k - 1) + 1 by omega]
  have := rowsS_cut big (k - 1) l[i] (h _ (List.getElem_mem hi)) k (by omega) (by omega) (putO big (l.drop (i + 1)) ++ endO l) (sizeO (l.take i)) (l.take i)
  rw [show k - 1 + 1 = k by omega] at this
  rw [this]
  simp
theorem cut_end (big : Bool) (l : List OV) (h : ∀ o ∈ l, okO o) (n : Nat) (h1 : sizeO l < n) (h2 : n < (putAll big l).length) : readO big ((putAll big l).take n) = ([], (sizeO l, 2)) := by
  obtain ⟨k, rfl⟩ : ∃ k, n = sizeO l + k := ⟨n - sizeO l, by omega⟩
  have hl : (putAll big l).length = sizeO l + (endO l).length := by unfold putAll; rw [List.length_append, putO_length]
  have he : (endO l).length ≤ 4 := by unfold endO; split <;> simp
  have e : (putAll big l).take (sizeO l + k) = layP big 0 l ++ (endO l).take k := by
    unfold putAll
    rw [List.take_append, putO_length, List.take_of_length_le (by rw [putO_length]; omega), show sizeO l + k - sizeO l = k by omega, layP_zero]
  have hk : ((endO l).take k).length = k := by rw [List.length_take]; omega
  rw [e]
  unfold readO readR
  rw [rowsB_lay big 0 l _ h, hk]
  obtain ⟨f, hf⟩ : ∃ f, k = f + 1 := ⟨k - 1, by omega⟩
  have : rowsS big k ((endO l).take k) (sizeO l) l = ([], 0, false, (sizeO l, 2)) := by
    have hfk : rowsS big k ((endO l).take k) (sizeO l) l = rowsS big (f + 1) ((endO l).take k) (sizeO l) l := by rw [hf]
    rw [hfk]
    simp only [rowsS, hk]
    rw [if_neg (by omega), if_pos (by omega)]
  rw [this]
  simp
end Go.Proofs.Ytmigbcoobbcahaa
