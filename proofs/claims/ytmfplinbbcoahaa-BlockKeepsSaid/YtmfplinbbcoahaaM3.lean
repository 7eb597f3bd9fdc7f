/-
  Joined by program (merge.py): Open, Plain1, PlainOpt, Opts, Opt1, Zeros.
-/
import Derived.ChangeSlices
import Derived.BigQuiet
import Derived.Lib.AppendStr
import Derived.Test.YtmfplinbbcoahaaM1
import Derived.Test.YtmfplinbbcoahaaM2
/-
  What came in, opened: structs, arrays of bytes, by their cells. Over any program.
-/
namespace Go.Proofs.Ytmfplinbbcoahaa
open Go.RowKit Go.Sort
set_option linter.unusedVariables false
set_option linter.unusedSimpArgs false

theorem mapM_each {α β : Type} {f : α → Option β} : ∀ {l : List α} {ys : List β}, l.mapM f = some ys → ∀ x ∈ l, ∃ y, f x = some y
  | [], _, _, x, hx => by cases hx
  | a :: l, ys, h, x, hx => by
    rw [List.mapM_cons] at h
    obtain ⟨y, hy, h⟩ := Option.bind_eq_some_iff.1 h
    obtain ⟨zs, hz, _⟩ := Option.bind_eq_some_iff.1 h
    rcases List.mem_cons.1 hx with rfl | hx
    · exact ⟨y, hy⟩
    · exact mapM_each hz x hx

section
variable {H : Type} {enc : TypeId × Value → H} {P : Program} {w : World} {base : Nat} {spare : Nat → Bool} {held : Bool}

theorem trod_struct {t : TypeId} {fs : Array Field} {fuel : Nat} {cs : List Value} {x : DataW H × List MemPlace} (ht : P.underlying t = some (.struct fs)) (h : DataW.trod enc P w base spare held fuel t cs = some x) :
    cs.length = P.cellsOf t ∧ ∃ fuel', ∀ f ∈ fs.toList, ∃ y, DataW.trod enc P w base spare held fuel' f.type ((cs.drop f.offset).take (P.cellsOf f.type)) = some y := by
  cases fuel with
  | zero => simp [DataW.trod] at h
  | succ f =>
    simp only [DataW.trod, ht] at h
    split at h
    · rename_i hl
      obtain ⟨xs, hxs, _⟩ := Option.map_eq_some_iff.1 h
      exact ⟨hl, f, mapM_each hxs⟩
    · cases h
theorem trod_int {k : IntKind} {t : TypeId} {fuel : Nat} {c : Value} {x : DataW H × List MemPlace} (ht : P.underlying t = some (.int k)) (h : DataW.trod enc P w base spare held fuel t [c] = some x) : ∃ n, c = .int k n ∧ (Lit.int k n).wf = true := by
  cases fuel with
  | zero => simp [DataW.trod] at h
  | succ f =>
    simp only [DataW.trod, ht] at h
    split at h <;> simp_all
theorem trod_bool {t : TypeId} {fuel : Nat} {c : Value} {x : DataW H × List MemPlace} (ht : P.underlying t = some .bool) (h : DataW.trod enc P w base spare held fuel t [c] = some x) : ∃ b, c = .bool b := by
  cases fuel with
  | zero => simp [DataW.trod] at h
  | succ f =>
    simp only [DataW.trod, ht] at h
    split at h <;> simp_all
theorem trod_bytes {t e : TypeId} {n : Nat} {fuel : Nat} {cs : List Value} {x : DataW H × List MemPlace} (ht : P.underlying t = some (.array n e)) (he : P.underlying e = some (.int .u8)) (hce : P.cellsOf e = 1) (hct : P.cellsOf t = n)
    (h : DataW.trod enc P w base spare held fuel t cs = some x) : ∃ l : List UInt8, l.length = n ∧ cs = BV l := by
  cases fuel with
  | zero => simp [DataW.trod] at h
  | succ f =>
    simp only [DataW.trod, ht] at h
    split at h
    · rename_i hl
      obtain ⟨xs, hxs, _⟩ := Option.map_eq_some_iff.1 h
      rw [List.range_eq_range'] at hxs
      obtain ⟨zs, h1, h2, h3⟩ := mapM_ints he hce n 0 xs (by omega) hxs
      rw [List.drop_zero, List.take_of_length_le (by omega)] at h2
      exact ⟨ofInts zs, by simp [ofInts, h1], by rw [h2, BV_ofInts h3]⟩
    · cases h
end
theorem take_one_of {cs : List Value} {k : Nat} (h : k < cs.length) : (cs.drop k).take 1 = [cs[k]] := by
  rw [List.drop_eq_getElem_cons h, List.take_succ_cons, List.take_zero]
end Go.Proofs.Ytmfplinbbcoahaa
/-
  Plain laws of numbers as bytes.
-/
namespace Go.Proofs.Ytmfplinbbcoahaa
open Go.RowKit Go.Sort
set_option linter.unusedVariables false
set_option linter.unusedSimpArgs false

theorem numBE_from (a : Nat) (m : List UInt8) : m.foldl (fun n b => n * 256 + b.toNat) a = a * 256 ^ m.length + numBE m := by
  induction m generalizing a with
  | nil => simp [numBE]
  | cons b m ih =>
    have e : numBE (b :: m) = b.toNat * 256 ^ m.length + numBE m := by
      unfold numBE
      rw [List.foldl_cons, ih (0 * 256 + b.toNat)]
      simp [numBE]
    rw [List.foldl_cons, ih, e, List.length_cons, Nat.pow_succ, Nat.add_mul, Nat.mul_assoc, Nat.mul_comm 256, Nat.add_assoc]
theorem numBE_cons (b : UInt8) (m : List UInt8) : numBE (b :: m) = b.toNat * 256 ^ m.length + numBE m := by
  unfold numBE
  rw [List.foldl_cons, numBE_from]
  simp [numBE]
theorem numBE_append (l m : List UInt8) : numBE (l ++ m) = numBE l * 256 ^ m.length + numBE m := by
  unfold numBE
  rw [List.foldl_append, numBE_from]
  rfl
theorem pow256 (k : Nat) : 2 ^ (8 * k) = 256 ^ k := by rw [show (256 : Nat) = 2 ^ 8 from rfl, ← Nat.pow_mul]
theorem numBE_putLE (n k : Nat) : numBE (putLE n k).reverse = n % 256 ^ k := by
  induction k with
  | zero => simp [putLE, numBE, Nat.mod_one]
  | succ k ih =>
    rw [putLE_succ, List.reverse_append, List.reverse_cons, List.reverse_nil, List.nil_append, List.cons_append, List.nil_append, numBE_cons, ih, List.length_reverse, putLE_length, byteAt_toNat, pow256, Nat.mod_pow_succ, Nat.mul_comm]
    omega
theorem getN_putL (n : Nat) (size : Int) (big : Bool) : getN (putL n size big) big = n % 256 ^ sizeOf8 size := by
  have h8 : sizeOf8 size ≤ 8 := by unfold sizeOf8; omega
  unfold getN putL
  cases big
  · simp only [Bool.false_eq_true, if_false]
    rw [List.take_of_length_le (by rw [putLE_length]; exact h8), numBE_putLE]
  · simp only [if_true]
    rw [List.take_of_length_le (by rw [List.length_reverse, putLE_length]; exact h8), numBE_putLE]
theorem byteAt_first (n : Nat) (b : UInt8) : byteAt (n * 256 + b.toNat) 0 = b := by
  have := b.toNat_lt
  apply UInt8.toNat_inj.1
  rw [byteAt_toNat]
  simp
theorem byteAt_next (n i : Nat) (b : UInt8) : byteAt (n * 256 + b.toNat) (i + 1) = byteAt n i := by
  have := b.toNat_lt
  apply UInt8.toNat_inj.1
  rw [byteAt_toNat, byteAt_toNat, show 8 * (i + 1) = 8 + 8 * i by omega, Nat.pow_add, ← Nat.div_div_eq_div_mul]
  congr 2
  omega
theorem putLE_numBE (m : List UInt8) : putLE (numBE m.reverse) m.length = m := by
  induction m with
  | nil => rfl
  | cons b m ih =>
    rw [List.reverse_cons, numBE_snoc, List.length_cons]
    unfold putLE
    rw [List.range_succ_eq_map, List.map_cons, byteAt_first, List.map_map]
    congr 1
    refine Eq.trans ?_ ih
    unfold putLE
    refine List.map_congr_left fun i _ => ?_
    exact byteAt_next _ _ _
theorem putL_getN (l : List UInt8) (big : Bool) (h : l.length ≤ 8) : putL (getN l big) (l.length : Int) big = l := by
  have e : sizeOf8 (l.length : Int) = l.length := by unfold sizeOf8; omega
  unfold putL getN
  rw [e, List.take_of_length_le h]
  cases big
  · simp only [Bool.false_eq_true, if_false]
    exact putLE_numBE l
  · simp only [if_true]
    have := putLE_numBE l.reverse
    rw [List.reverse_reverse, List.length_reverse] at this
    rw [this, List.reverse_reverse]
theorem putL_turn (n : Nat) (size : Int) : putL n size true = (putL n size false).reverse := by unfold putL; simp
theorem getN_turn (l : List UInt8) (h : l.length ≤ 8) : getN l true = getN l.reverse false := by
  unfold getN
  rw [List.take_of_length_le h, List.take_of_length_le (by simpa using h)]
  simp
/-- two of four bytes are one of eight -/
theorem parts_big (a b : Nat) (ha : a < 4294967296) (hb : b < 4294967296) : getN (putL a 4 true ++ putL b 4 true) true = a * 4294967296 + b := by
  unfold getN
  simp only [if_true]
  have l4 : ∀ n, (putL n 4 true).length = 4 := fun n => putL_length n 4 true
  have v4 : ∀ n, n < 4294967296 → numBE (putL n 4 true) = n := fun n h => by
    unfold putL
    simp only [if_true]
    rw [numBE_putLE]
    exact Nat.mod_eq_of_lt h
  rw [List.take_of_length_le (by rw [List.length_append, l4, l4]; omega), numBE_append, l4, v4 a ha, v4 b hb]
theorem parts_small (a b : Nat) (ha : a < 4294967296) (hb : b < 4294967296) : getN (putL b 4 false ++ putL a 4 false) false = a * 4294967296 + b := by
  have e : ∀ n, (putL n 4 false) = (putL n 4 true).reverse := fun n => by rw [putL_turn, List.reverse_reverse]
  have l4 : ∀ n, (putL n 4 true).length = 4 := fun n => putL_length n 4 true
  rw [e, e, ← List.reverse_append, ← getN_turn _ (by rw [List.length_append, l4, l4]; omega), parts_big a b ha hb]
end Go.Proofs.Ytmfplinbbcoahaa
/-
  Plain laws of chapter 25: options laid and read.
-/
namespace Go.Proofs.Ytmfplinbbcoahaa
open Go.RowKit Go.Sort
set_option linter.unusedVariables false
set_option linter.unusedSimpArgs false

/-- an option: its code, its value -/
abbrev OV := Int × List UInt8
def hdB (big : Bool) (o : OV) : List UInt8 := putL o.1.toNat 2 big ++ putL o.2.length 2 big
def optB (big : Bool) (o : OV) : List UInt8 := hdB big o ++ padL o.2
def putO (big : Bool) (l : List OV) : List UInt8 := l.flatMap (optB big)
def endO (l : List OV) : List UInt8 := if l.isEmpty then [] else [0, 0, 0, 0]
def putAll (big : Bool) (l : List OV) : List UInt8 := putO big l ++ endO l
def okO (o : OV) : Prop := 1 ≤ o.1 ∧ o.1 ≤ 65535 ∧ o.2.length ≤ 65535
/-- the error of the first that may not be; 0: none -/
def wrongO : List OV → Int
  | [] => 0
  | o :: l => if o.1 < 1 ∨ 65535 < o.1 then 1 else if 65535 < o.2.length then 4 else wrongO l
def lenO (o : OV) : Nat := 4 + o.2.length + padN o.2.length
def sizeO (l : List OV) : Nat := (l.map lenO).sum

theorem wrongO_zero {l : List OV} : wrongO l = 0 ↔ ∀ o ∈ l, okO o := by
  induction l with
  | nil => simp [wrongO]
  | cons o l ih =>
    simp only [wrongO, List.mem_cons, forall_eq_or_imp]
    unfold okO at *
    split
    · constructor
      · intro h; cases h
      · intro h; have := h.1; omega
    · split
      · constructor
        · intro h; cases h
        · intro h; have := h.1; omega
      · constructor
        · intro h; exact ⟨by omega, ih.1 h⟩
        · intro h; exact ih.2 h.2
theorem putL2_length (n : Nat) (big : Bool) : (putL n 2 big).length = 2 := by rw [putL_length]; rfl
theorem hdB_length (big : Bool) (o : OV) : (hdB big o).length = 4 := by simp [hdB, putL2_length]
theorem optB_length (big : Bool) (o : OV) : (optB big o).length = lenO o := by
  simp [optB, hdB_length, padL, lenO]; omega
theorem putO_length (big : Bool) (l : List OV) : (putO big l).length = sizeO l := by
  induction l with
  | nil => rfl
  | cons o l ih =>
    simp only [putO, List.flatMap_cons, List.length_append, optB_length, sizeO, List.map_cons, List.sum_cons] at *
    omega
theorem putO_append (big : Bool) (l m : List OV) : putO big (l ++ m) = putO big l ++ putO big m := by simp [putO]
theorem putO_one (big : Bool) (o : OV) : putO big [o] = optB big o := by simp [putO]
theorem sizeO_append (l m : List OV) : sizeO (l ++ m) = sizeO l + sizeO m := by simp [sizeO]
theorem lenO_mod (o : OV) : lenO o % 4 = 0 := by unfold lenO padN; omega
theorem sizeO_mod (l : List OV) : sizeO l % 4 = 0 := by
  induction l with
  | nil => rfl
  | cons o l ih =>
    have := lenO_mod o
    simp only [sizeO, List.map_cons, List.sum_cons] at *
    omega
theorem wrongO_step {l : List OV} {k : Nat} (hk : k < l.length) (h : wrongO l = wrongO (l.drop k)) : wrongO l = if l[k].1 < 1 ∨ 65535 < l[k].1 then 1 else if 65535 < l[k].2.length then 4 else wrongO (l.drop (k + 1)) := by
  rw [h, List.drop_eq_getElem_cons hk, wrongO]
theorem getN_two (n : Nat) (big : Bool) (h : n ≤ 65535) : getN (putL n 2 big) big = n := by
  rw [getN_putL]
  show n % 65536 = n
  omega

/-! ### reading -/
abbrev RR := List OV × Nat × Bool × (Nat × Int)
def codeOf (big : Bool) (s : List UInt8) : Nat := getN (s.take 2) big
def sizeOf2 (big : Bool) (s : List UInt8) : Nat := getN ((s.drop 2).take 2) big
def rowsS (big : Bool) : Nat → List UInt8 → Nat → List OV → RR
  | 0, _, at_, acc => (acc, at_, false, (0, 0))
  | f + 1, s, at_, acc =>
    if s.length = 0 then (acc, at_, false, (0, 0))
    else if s.length < 4 then ([], 0, false, (at_, 2))
    else if codeOf big s = 0 ∧ sizeOf2 big s = 0 then (acc, at_ + 4, true, (0, 0))
    else if codeOf big s = 0 then ([], 0, false, (at_, 3))
    else if s.length < 4 + sizeOf2 big s + padN (sizeOf2 big s) then ([], 0, false, (at_, 2))
    else rowsS big f (s.drop (4 + sizeOf2 big s + padN (sizeOf2 big s))) (at_ + (4 + sizeOf2 big s + padN (sizeOf2 big s))) (acc ++ [((codeOf big s : Int), (s.drop 4).take (sizeOf2 big s))])
def rowsB (big : Bool) (b : List UInt8) : RR := rowsS big b.length b 0 []

theorem rowsS_fuel (big : Bool) : ∀ (f g : Nat) (s : List UInt8) (at_ : Nat) (acc : List OV), s.length ≤ f → s.length ≤ g → rowsS big f s at_ acc = rowsS big g s at_ acc
  | 0, 0, _, _, _, _, _ => rfl
  | 0, g + 1, s, at_, acc, h, _ => by
    have : s.length = 0 := by omega
    simp [rowsS, this]
  | f + 1, 0, s, at_, acc, _, h => by
    have : s.length = 0 := by omega
    simp [rowsS, this]
  | f + 1, g + 1, s, at_, acc, h1, h2 => by
    simp only [rowsS]
    repeat' split
    all_goals first | rfl | skip
    exact rowsS_fuel big f g _ _ _ (by rw [List.length_drop]; omega) (by rw [List.length_drop]; omega)

theorem rowsS_nil (big : Bool) (f at_ : Nat) (acc : List OV) : rowsS big f [] at_ acc = (acc, at_, false, (0, 0)) := by
  cases f <;> simp [rowsS]
/-- an option that was laid, whatever stands in its padding -/
theorem rowsS_opt (big : Bool) (f : Nat) (o : OV) (ho : okO o) (p t : List UInt8) (hp : p.length = padN o.2.length) (at_ : Nat) (acc : List OV) :
    rowsS big (f + 1) (hdB big o ++ o.2 ++ p ++ t) at_ acc = rowsS big f t (at_ + lenO o) (acc ++ [o]) := by
  obtain ⟨h1, h2, h3⟩ := ho
  obtain ⟨s, hs⟩ : ∃ s, s = hdB big o ++ o.2 ++ p ++ t := ⟨_, rfl⟩
  have c2 : s.take 2 = putL o.1.toNat 2 big := by
    rw [hs]; unfold hdB
    simp only [List.append_assoc]
    exact List.take_left' (putL2_length _ _)
  have c3 : (s.drop 2).take 2 = putL o.2.length 2 big := by
    rw [hs]; unfold hdB
    simp only [List.append_assoc]
    rw [List.drop_left' (putL2_length _ _)]
    exact List.take_left' (putL2_length _ _)
  have hc : codeOf big s = o.1.toNat := by unfold codeOf; rw [c2, getN_two _ _ (by omega)]
  have hn : sizeOf2 big s = o.2.length := by unfold sizeOf2; rw [c3, getN_two _ _ h3]
  have hl : s.length = 4 + o.2.length + padN o.2.length + t.length := by rw [hs]; simp [hdB_length, hp]; omega
  have d4 : (s.drop 4).take o.2.length = o.2 := by
    rw [hs]
    simp only [List.append_assoc]
    rw [List.drop_left' (hdB_length big o)]
    exact List.take_left' rfl
  have da : s.drop (4 + o.2.length + padN o.2.length) = t := by
    rw [hs]
    exact List.drop_left' (by simp [hdB_length, hp]; omega)
  rw [← hs]
  simp only [rowsS, hc, hn]
  rw [if_neg (by omega), if_neg (by omega), if_neg (by omega), if_neg (by omega), if_neg (by omega), da, d4, Int.toNat_of_nonneg (by omega)]
  rfl
theorem rowsS_end (big : Bool) (f : Nat) (t : List UInt8) (at_ : Nat) (acc : List OV) : rowsS big (f + 1) ([0, 0, 0, 0] ++ t) at_ acc = (acc, at_ + 4, true, (0, 0)) := by
  have h1 : codeOf big ([0, 0, 0, 0] ++ t) = 0 := by cases big <;> rfl
  have h2 : sizeOf2 big ([0, 0, 0, 0] ++ t) = 0 := by cases big <;> rfl
  simp only [rowsS, h1, h2]
  simp
/-- options with whatever in their padding -/
def layP (big : Bool) (p : UInt8) (l : List OV) : List UInt8 := l.flatMap fun o => hdB big o ++ o.2 ++ List.replicate (padN o.2.length) p
theorem layP_zero (big : Bool) (l : List OV) : layP big 0 l = putO big l := by
  unfold layP putO optB padL
  simp only [List.append_assoc]
theorem layP_length (big : Bool) (p : UInt8) (l : List OV) : (layP big p l).length = sizeO l := by
  induction l with
  | nil => rfl
  | cons o l ih =>
    simp only [layP, List.flatMap_cons, List.length_append, hdB_length, List.length_replicate, sizeO, List.map_cons, List.sum_cons, lenO] at *
    omega
theorem rowsS_lay (big : Bool) (p : UInt8) : ∀ (l : List OV) (f : Nat) (t : List UInt8) (at_ : Nat) (acc : List OV), (∀ o ∈ l, okO o) →
    rowsS big (f + l.length) (layP big p l ++ t) at_ acc = rowsS big f t (at_ + sizeO l) (acc ++ l)
  | [], f, t, at_, acc, _ => by simp [layP, sizeO]
  | o :: l, f, t, at_, acc, h => by
    have e : layP big p (o :: l) ++ t = hdB big o ++ o.2 ++ List.replicate (padN o.2.length) p ++ (layP big p l ++ t) := by
      simp [layP, List.append_assoc]
    rw [e, show f + (o :: l).length = (f + l.length) + 1 by simp; omega, rowsS_opt big _ o (h o (by simp)) _ _ (by simp), rowsS_lay big p l f t _ _ (fun x hx => h x (by simp [hx]))]
    congr 1
    · simp [sizeO]; omega
    · simp
theorem lenO_ge (o : OV) : 4 ≤ lenO o := by unfold lenO; omega
theorem sizeO_ge (l : List OV) : 4 * l.length ≤ sizeO l := by
  induction l with
  | nil => simp [sizeO]
  | cons o l ih =>
    have := lenO_ge o
    simp only [sizeO, List.map_cons, List.sum_cons, List.length_cons] at *
    omega
/-- what is laid is read; behind it t goes on -/
theorem rowsB_lay (big : Bool) (p : UInt8) (l : List OV) (t : List UInt8) (h : ∀ o ∈ l, okO o) : rowsB big (layP big p l ++ t) = rowsS big t.length t (sizeO l) l := by
  unfold rowsB
  have hl : (layP big p l ++ t).length = sizeO l + t.length := by rw [List.length_append, layP_length]
  have := sizeO_ge l
  rw [rowsS_fuel big _ (t.length + sizeO l + l.length) _ _ _ (Nat.le_refl _) (by omega), rowsS_lay big p l _ t 0 [] h]
  simp only [Nat.zero_add, List.nil_append]
  exact rowsS_fuel big _ _ _ _ _ (by omega) (Nat.le_refl _)
/-- cut off within an option -/
theorem rowsS_cut (big : Bool) (f : Nat) (o : OV) (ho : okO o) (k : Nat) (h0 : 0 < k) (h1 : k < lenO o) (t : List UInt8) (at_ : Nat) (acc : List OV) :
    rowsS big (f + 1) ((optB big o ++ t).take k) at_ acc = ([], 0, false, (at_, 2)) := by
  obtain ⟨g1, g2, g3⟩ := ho
  obtain ⟨s, hs⟩ : ∃ s, s = (optB big o ++ t).take k := ⟨_, rfl⟩
  have hl : s.length = k := by rw [hs, List.length_take, List.length_append, optB_length]; omega
  rw [← hs]
  by_cases h4 : k < 4
  · simp only [rowsS, hl]
    rw [if_neg (by omega), if_pos h4]
  · have e : (optB big o ++ t) = putL o.1.toNat 2 big ++ (putL o.2.length 2 big ++ (padL o.2 ++ t)) := by
      simp [optB, hdB, List.append_assoc]
    have c2 : s.take 2 = putL o.1.toNat 2 big := by
      rw [hs, List.take_take, Nat.min_eq_left (by omega), e]
      exact List.take_left' (putL2_length _ _)
    have c3 : (s.drop 2).take 2 = putL o.2.length 2 big := by
      rw [hs, List.drop_take, List.take_take, Nat.min_eq_left (by omega), e, List.drop_left' (putL2_length _ _)]
      exact List.take_left' (putL2_length _ _)
    have hc : codeOf big s = o.1.toNat := by unfold codeOf; rw [c2, getN_two _ _ (by omega)]
    have hn : sizeOf2 big s = o.2.length := by unfold sizeOf2; rw [c3, getN_two _ _ g3]
    unfold lenO at h1
    simp only [rowsS, hc, hn, hl]
    rw [if_neg (by omega), if_neg (by omega), if_neg (by omega), if_neg (by omega), if_pos (by omega)]
/-- without a fault: at its end if there was no end's mark -/
theorem rowsS_at (big : Bool) : ∀ (f : Nat) (s : List UInt8) (at_ : Nat) (acc : List OV), s.length ≤ f → (rowsS big f s at_ acc).2.2.2 = (0, 0) →
    (rowsS big f s at_ acc).2.1 ≤ at_ + s.length ∧ ((rowsS big f s at_ acc).2.2.1 = false → (rowsS big f s at_ acc).2.1 = at_ + s.length)
  | 0, s, at_, acc, h, _ => by
    have : s.length = 0 := by omega
    simp [rowsS, this]
  | f + 1, s, at_, acc, h, hz => by
    simp only [rowsS] at hz ⊢
    split at hz
    · rename_i h0; simp [h0]
    · rename_i h0
      rw [if_neg h0]
      split at hz
      · simp at hz
      · rename_i h1
        rw [if_neg h1]
        split at hz
        · rename_i h2; rw [if_pos h2]; simp; omega
        · rename_i h2
          rw [if_neg h2]
          split at hz
          · simp at hz
          · rename_i h3
            rw [if_neg h3]
            split at hz
            · simp at hz
            · rename_i h4
              rw [if_neg h4]
              have ih := rowsS_at big f _ _ _ (by rw [List.length_drop]; omega) hz
              rw [List.length_drop] at ih
              refine ⟨by omega, fun hh => ?_⟩
              rw [ih.2 hh]
              omega

/-! ### what is answered -/
abbrev Sp := Nat × Int
def readR (len : Nat) (r : RR) : List OV × Sp := if r.2.2.2 = (0, 0) then (if r.2.1 < len then ([], (r.2.1, 3)) else (r.1, (0, 0))) else ([], r.2.2.2)
def rowsR (r : RR) : List OV × Nat × Sp := if r.2.2.2 = (0, 0) then (if r.2.2.1 then (r.1, r.2.1, (0, 0)) else ([], 0, (r.2.1, 2))) else ([], 0, r.2.2.2)
def readO (big : Bool) (b : List UInt8) : List OV × Sp := readR b.length (rowsB big b)
def rowsO (big : Bool) (b : List UInt8) : List OV × Nat × Sp := rowsR (rowsB big b)
theorem rowsS_spot (big : Bool) : ∀ (f : Nat) (s : List UInt8) (at_ : Nat) (acc : List OV), (rowsS big f s at_ acc).2.2.2 = (0, 0) ∨ ((rowsS big f s at_ acc).2.2.2.2 = 2 ∨ (rowsS big f s at_ acc).2.2.2.2 = 3) ∧ (rowsS big f s at_ acc).2.2.2.1 < at_ + s.length ∧ (rowsS big f s at_ acc).1 = [] ∧ (rowsS big f s at_ acc).2.1 = 0 ∧ (rowsS big f s at_ acc).2.2.1 = false
  | 0, s, at_, acc => by simp [rowsS]
  | f + 1, s, at_, acc => by
    simp only [rowsS]
    split
    · exact .inl rfl
    · split
      · refine .inr ⟨.inl rfl, ?_, rfl, rfl, rfl⟩; simp; omega
      · split
        · exact .inl rfl
        · split
          · refine .inr ⟨.inr rfl, ?_, rfl, rfl, rfl⟩; simp; omega
          · split
            · refine .inr ⟨.inl rfl, ?_, rfl, rfl, rfl⟩; simp; omega
            · have := rowsS_spot big f (s.drop (4 + sizeOf2 big s + padN (sizeOf2 big s))) (at_ + (4 + sizeOf2 big s + padN (sizeOf2 big s))) (acc ++ [((codeOf big s : Int), (s.drop 4).take (sizeOf2 big s))])
              rw [List.length_drop] at this
              refine this.imp id fun ⟨h1, h2, h3⟩ => ⟨h1, by omega, h3⟩
theorem readO_lay (big : Bool) (p : UInt8) (l : List OV) (h : ∀ o ∈ l, okO o) : readO big (layP big p l ++ endO l) = (l, (0, 0)) := by
  unfold readO readR
  rw [rowsB_lay big p l _ h]
  have hl : (layP big p l ++ endO l).length = sizeO l + (endO l).length := by rw [List.length_append, layP_length]
  rw [hl]
  cases l with
  | nil => simp [endO, rowsS, sizeO]
  | cons o l =>
    have e : endO (o :: l) = [0, 0, 0, 0] ++ [] := rfl
    rw [e]
    have := rowsS_end big 3 [] (sizeO (o :: l)) (o :: l)
    rw [show ([0, 0, 0, 0] ++ [] : List UInt8).length = 3 + 1 from rfl, this]
    simp
theorem readO_open (big : Bool) (p : UInt8) (l : List OV) (h : ∀ o ∈ l, okO o) : readO big (layP big p l) = (l, (0, 0)) := by
  unfold readO readR
  have := rowsB_lay big p l [] h
  rw [List.append_nil] at this
  rw [this, layP_length]
  simp [rowsS_nil]
theorem rowsO_more (big : Bool) (p : UInt8) (l : List OV) (h : ∀ o ∈ l, okO o) (hl : l ≠ []) (t : List UInt8) : rowsO big (layP big p l ++ endO l ++ t) = (l, sizeO l + 4, (0, 0)) := by
  unfold rowsO rowsR
  have e : endO l = [0, 0, 0, 0] := by cases l with | nil => exact absurd rfl hl | cons => rfl
  rw [List.append_assoc, rowsB_lay big p l _ h, e]
  have := rowsS_end big (3 + t.length) t (sizeO l) l
  rw [show (([0, 0, 0, 0] : List UInt8) ++ t).length = 3 + t.length + 1 by simp; omega, this]
  simp
theorem readO_more (big : Bool) (p : UInt8) (l : List OV) (h : ∀ o ∈ l, okO o) (hl : l ≠ []) (t : List UInt8) (ht : t ≠ []) : readO big (layP big p l ++ endO l ++ t) = ([], (sizeO l + 4, 3)) := by
  unfold readO readR
  have e : endO l = [0, 0, 0, 0] := by cases l with | nil => exact absurd rfl hl | cons => rfl
  have hlen : (layP big p l ++ endO l ++ t).length = sizeO l + 4 + t.length := by rw [List.length_append, List.length_append, layP_length, e]; rfl
  have htl : 0 < t.length := List.length_pos_iff.2 ht
  rw [hlen, List.append_assoc, rowsB_lay big p l _ h, e]
  have := rowsS_end big (3 + t.length) t (sizeO l) l
  rw [show (([0, 0, 0, 0] : List UInt8) ++ t).length = 3 + t.length + 1 by simp; omega, this]
  simp [htl]

/-! ### cut off -/
theorem putAll_split (big : Bool) (l : List OV) (i : Nat) : putAll big l = putO big (l.take i) ++ (putO big (l.drop i) ++ endO l) := by
  unfold putAll
  rw [← List.append_assoc, ← putO_append, List.take_append_drop]
theorem cut_at (big : Bool) (l : List OV) (h : ∀ o ∈ l, okO o) (i : Nat) : readO big ((putAll big l).take (sizeO (l.take i))) = (l.take i, (0, 0)) := by
  rw [putAll_split big l i, List.take_left' (putO_length _ _), ← layP_zero]
  exact readO_open big 0 _ fun o ho => h o (List.mem_of_mem_take ho)
theorem cut_in (big : Bool) (l : List OV) (h : ∀ o ∈ l, okO o) (i : Nat) (hi : i < l.length) (n : Nat) (h1 : sizeO (l.take i) < n) (h2 : n < sizeO (l.take i) + lenO l[i]) : readO big ((putAll big l).take n) = ([], (sizeO (l.take i), 2)) := by
  obtain ⟨k, rfl⟩ : ∃ k, n = sizeO (l.take i) + k := ⟨n - sizeO (l.take i), by omega⟩
  have e : (putAll big l).take (sizeO (l.take i) + k) = putO big (l.take i) ++ (optB big l[i] ++ (putO big (l.drop (i + 1)) ++ endO l)).take k := by
    rw [putAll_split big l i, List.take_append, putO_length, List.take_of_length_le (by rw [putO_length]; omega), show sizeO (l.take i) + k - sizeO (l.take i) = k by omega, List.drop_eq_getElem_cons hi]
    congr 2
    unfold putO
    rw [List.flatMap_cons, List.append_assoc]
  rw [e]
  unfold readO readR
  rw [← layP_zero, rowsB_lay big 0 _ _ (fun o ho => h o (List.mem_of_mem_take ho))]
  have hk : ((optB big l[i] ++ (putO big (l.drop (i + 1)) ++ endO l)).take k).length = k := by
    rw [List.length_take, List.length_append, optB_length]; omega
  rw [hk, show k = (k - 1) + 1 by omega, ← show k = (k - 1) + 1 by omega]
  have := rowsS_cut big (k - 1) l[i] (h _ (List.getElem_mem hi)) k (by omega) (by omega) (putO big (l.drop (i + 1)) ++ endO l) (sizeO (l.take i)) (l.take i)
  rw [show k - 1 + 1 = k by omega] at this
  rw [this]
  simp
theorem cut_end (big : Bool) (l : List OV) (h : ∀ o ∈ l, okO o) (n : Nat) (h1 : sizeO l < n) (h2 : n < (putAll big l).length) : readO big ((putAll big l).take n) = ([], (sizeO l, 2)) := by
  obtain ⟨k, rfl⟩ : ∃ k, n = sizeO l + k := ⟨n - sizeO l, by omega⟩
  have hl : (putAll big l).length = sizeO l + (endO l).length := by unfold putAll; rw [List.length_append, putO_length]
  have he : (endO l).length ≤ 4 := by unfold endO; split <;> simp
  have e : (putAll big l).take (sizeO l + k) = layP big 0 l ++ (endO l).take k := by
    unfold putAll
    rw [List.take_append, putO_length, List.take_of_length_le (by rw [putO_length]; omega), show sizeO l + k - sizeO l = k by omega, layP_zero]
  have hk : ((endO l).take k).length = k := by rw [List.length_take]; omega
  rw [e]
  unfold readO readR
  rw [rowsB_lay big 0 l _ h, hk]
  obtain ⟨f, hf⟩ : ∃ f, k = f + 1 := ⟨k - 1, by omega⟩
  have : rowsS big k ((endO l).take k) (sizeO l) l = ([], 0, false, (sizeO l, 2)) := by
    have hfk : rowsS big k ((endO l).take k) (sizeO l) l = rowsS big (f + 1) ((endO l).take k) (sizeO l) l := by rw [hf]
    rw [hfk]
    simp only [rowsS, hk]
    rw [if_neg (by omega), if_pos (by omega)]
  rw [this]
  simp
end Go.Proofs.Ytmfplinbbcoahaa
/-
  Options in memory: a slice of them, and what came in, opened.
-/
namespace Go.Proofs.Ytmfplinbbcoahaa
open Go.RowKit Go.Sort
open Go.ChangeShapes (open_ints)
set_option linter.unusedVariables false
set_option linter.unusedSimpArgs false

/-- an option in memory -/
structure OptV where
  code : Int
  ad : Option Addr
  n : Nat
  c : Nat
  l : List UInt8
def OptV.cells (o : OptV) : List Value := [.int .i64 o.code, .slice o.ad o.n o.c]
def OptV.val (o : OptV) : OV := (o.code, o.l)
def ocells (os : List OptV) : List Value := os.flatMap OptV.cells
def vals (os : List OptV) : List OV := os.map OptV.val
def Ops (w : World) (ad : Option Addr) (n c : Nat) (os : List OptV) : Prop := Sl w ad n c 2 (ocells os) ∧ ∀ o ∈ os, Bs w o.ad o.n o.c o.l

theorem ocells_length (os : List OptV) : (ocells os).length = 2 * os.length := by
  induction os with
  | nil => rfl
  | cons o os ih => simp only [ocells, List.flatMap_cons, List.length_append, OptV.cells, List.length_cons, List.length_nil] at *; omega
theorem ocells_append (os ps : List OptV) : ocells (os ++ ps) = ocells os ++ ocells ps := by simp [ocells]
theorem ocells_one (os : List OptV) : ∀ u ∈ ocells os, u.oneCell' = true := by
  intro u hu
  obtain ⟨o, _, h⟩ := List.mem_flatMap.1 hu
  simp [OptV.cells] at h
  rcases h with rfl | rfl <;> rfl
theorem ocells_get : ∀ (os : List OptV) (j : Nat) (h : j < os.length), (ocells os)[2 * j]? = some (.int .i64 os[j].code) ∧ (ocells os)[2 * j + 1]? = some (.slice os[j].ad os[j].n os[j].c)
  | o :: os, 0, _ => by simp [ocells, OptV.cells]
  | o :: os, j + 1, h => by
    have := ocells_get os j (by simpa using h)
    have e : ocells (o :: os) = .int .i64 o.code :: .slice o.ad o.n o.c :: ocells os := by simp [ocells, OptV.cells]
    rw [e, show 2 * (j + 1) = (2 * j + 1) + 1 by omega, show (2 * j + 1) + 1 + 1 = (2 * j + 1 + 1) + 1 by omega]
    simpa using this
theorem vals_length (os : List OptV) : (vals os).length = os.length := by simp [vals]
theorem vals_append (os ps : List OptV) : vals (os ++ ps) = vals os ++ vals ps := by simp [vals]

theorem Ops.len {w : World} {ad : Option Addr} {n c : Nat} {os : List OptV} (h : Ops w ad n c os) : n = os.length := by have := h.1.len; rw [ocells_length] at this; omega
theorem Ops.le {w : World} {ad : Option Addr} {n c : Nat} {os : List OptV} (h : Ops w ad n c os) : n ≤ c ∧ c ≤ 9223372036854775807 := ⟨h.1.2.1, by have := h.1.2.2.1; simp [maxLen] at this; omega⟩
theorem Ops.below {w w' : World} {ad : Option Addr} {n c : Nat} {os : List OptV} (h : Ops w ad n c os) (hb : Below w.heap.size w w') : Ops w' ad n c os := ⟨h.1.below hb, fun o ho => (h.2 o ho).below hb⟩
/-- the option at j -/
theorem Ops.at {w : World} {ad : Option Addr} {n c : Nat} {os : List OptV} (h : Ops w ad n c os) {j : Nat} (hj : j < os.length) :
    ∃ b off, ad = some ⟨b, off, none⟩ ∧ b < w.heap.size ∧ ∀ i (hi : i < os.length), w.cell? ⟨b, off + i * 2, none⟩ = some (.int .i64 os[i].code) ∧ w.cell? ⟨b, off + i * 2 + 1, none⟩ = some (.slice os[i].ad os[i].n os[i].c) ∧ Bs w os[i].ad os[i].n os[i].c os[i].l := by
  obtain ⟨b, off, ha, hb, hc⟩ := Sl.at h.1 (j := 2 * j) (by rw [ocells_length]; omega)
  refine ⟨b, off, ha, hb, fun i hi => ?_⟩
  obtain ⟨g1, g2⟩ := ocells_get os i hi
  obtain ⟨q1, e1⟩ := List.getElem?_eq_some_iff.1 g1
  obtain ⟨q2, e2⟩ := List.getElem?_eq_some_iff.1 g2
  refine ⟨?_, ?_, h.2 _ (List.getElem_mem hi)⟩
  · rw [Nat.mul_comm, hc (2 * i) q1, e1]
  · rw [Nat.add_assoc, Nat.mul_comm, hc (2 * i + 1) q2, e2]

theorem choose_list {α : Type} {P : Nat → α → Prop} : ∀ n : Nat, (∀ i, i < n → ∃ x, P i x) → ∃ l : List α, l.length = n ∧ ∀ i (h : i < l.length), P i l[i]
  | 0, _ => ⟨[], rfl, fun i h => by cases h⟩
  | n + 1, h => by
    obtain ⟨l, hl, hp⟩ := choose_list n (fun i hi => h i (by omega))
    obtain ⟨x, hx⟩ := h n (by omega)
    refine ⟨l ++ [x], by simp [hl], fun i hi => ?_⟩
    simp only [List.length_append, List.length_cons, List.length_nil] at hi
    by_cases e : i < l.length
    · rw [List.getElem_append_left e]; exact hp i e
    · obtain rfl : i = n := by omega
      rw [List.getElem_append_right (by omega)]
      simpa [hl] using hx

section
variable {H : Type} {enc : TypeId × Value → H} {P : Program} {w : World} {base : Nat} {spare : Nat → Bool} {held : Bool}
/-- a slice of bytes, in a cell -/
theorem trod_bslice {t e : TypeId} {fuel : Nat} {c : Value} {x : DataW H × List MemPlace} (ht : P.underlying t = some (.slice e)) (he : P.underlying e = some (.int .u8)) (hce : P.cellsOf e = 1)
    (h : DataW.trod enc P w base spare held fuel t [c] = some x) : ∃ ad n cap, ∃ l : List UInt8, c = .slice ad n cap ∧ Bs w ad n cap l := by
  rcases open_ints ht he hce h with ⟨hcs, _⟩ | ⟨a, l, cp, zs, hcs, _, hl, hm, hz, _, hcell, hwz⟩
  · simp at hcs
    subst hcs
    exact ⟨none, 0, 0, [], rfl, Sl.nil w 1⟩
  · simp at hcs
    subst hcs
    refine ⟨some a, l, cp, ofInts (zs.take l), rfl, ?_⟩
    have hzl : l ≤ zs.length := by rw [hz]; split <;> omega
    unfold Bs
    rw [BV_ofInts fun n hn => hwz n (List.mem_of_mem_take hn)]
    refine ⟨by simp [hzl], hl, hm, by simp, fun j u hj => ⟨_, rfl, ?_⟩⟩
    have hjl : j < l := by have := (List.getElem?_eq_some_iff.1 hj).1; simp at this; omega
    rw [hcell j (by omega), ← hj]
    simp [hjl, List.getD_eq_getElem?_getD, show j < zs.length by omega]
theorem cells_two {b : Nat} {a : Addr} {cs : List Value} (h : w.cells? b a 2 = some cs) : ∃ x y, cs = [x, y] ∧ w.cell? a = some x ∧ w.cell? (a.add 1) = some y := by
  unfold World.cells? at h
  split at h
  · simp only [List.range_succ, List.range_zero, List.nil_append, List.cons_append, List.mapM_cons, List.mapM_nil] at h
    obtain ⟨x, hx, h⟩ := Option.bind_eq_some_iff.1 h
    obtain ⟨ys, hy, h⟩ := Option.bind_eq_some_iff.1 h
    obtain ⟨y, hy2, h2⟩ := Option.bind_eq_some_iff.1 hy
    simp at h h2
    subst h2
    subst h
    have e : a.add 0 = a := by simp [Addr.add]
    rw [e] at hx
    exact ⟨x, y, rfl, hx, hy2⟩
  · cases h
end
end Go.Proofs.Ytmfplinbbcoahaa
/-
  Chapter 25: which options may be, how long they are, walked.
-/
namespace Go.Proofs.Ytmfplinbbcoahaa
open Go.RowKit Go.Sort
set_option linter.unusedVariables false
set_option linter.unusedSimpArgs false

def sumF (l : List OV) (k : Nat) : Nat := ((l.take k).map fun o => min o.2.length 100000).sum
def fewO (l : List OV) : Bool := decide (l.length ≤ 60) && decide (sumF l 100 ≤ 70000)
theorem sumF_succ (l : List OV) (k : Nat) (h : k < l.length) : sumF l (k + 1) = sumF l k + min l[k].2.length 100000 := by
  unfold sumF
  rw [List.take_add_one, List.getElem?_eq_getElem h, Option.toList_some, List.map_append, List.sum_append]
  simp only [List.map_cons, List.map_nil, List.sum_cons, List.sum_nil, Nat.add_zero]
theorem sumF_le (l : List OV) (k : Nat) : sumF l k ≤ k * 100000 := by
  induction k with
  | zero => simp [sumF]
  | succ k ih =>
    by_cases h : k < l.length
    · rw [sumF_succ l k h]; omega
    · have e : sumF l (k + 1) = sumF l k := by unfold sumF; rw [List.take_of_length_le (by omega), List.take_of_length_le (by omega)]
      omega
theorem sumF_end (l : List OV) (k : Nat) (h : l.length ≤ k) (hk : k ≤ 100) : sumF l 100 = sumF l k := by unfold sumF; rw [List.take_of_length_le (by omega), List.take_of_length_le (by omega)]
theorem vals_get (os : List OptV) (k : Nat) (h : k < os.length) (h2 : k < (vals os).length) : (vals os)[k] = os[k].val := by simp [vals]

set_option maxRecDepth 100000 in
theorem few_any (ad : Option Addr) (n c : Nat) (os : List OptV) (w : World) (hs : Ops w ad n c os) :
    Calls Try.prog 40 #[.slice ad n c] w fun e w' => e = .returned (.bool (fewO (vals os))) ∧ w = w' := by
  have hn := hs.len
  have hle := hs.le
  have HS := Lib.hid hs
  clear hs
  go_enter Try.func40, Try.ntmps40
  go_wp2_with fail
  go_loop [3, 4] (fun s i => ∃ (k z : Nat), k ≤ n ∧ k ≤ 100 ∧ z ≤ k * 100000 ∧ i = .int .i64 k ∧ s = .int .i64 z ∧ Hid (z = sumF (vals os) k)) (fun _ i => n - (intOf i).toNat)
  case atStart => exact ⟨0, 0, by omega, by omega, by omega, rfl, rfl, Lib.hid rfl⟩
  case round =>
    obtain ⟨k, z, hk, hk1, hz, rfl, rfl, HZ⟩ := hrel
    by_cases h1 : k < n
    · by_cases h2 : (k : Int) < 100
      · obtain ⟨b, off, rfl, hb, hat⟩ := HS.out.at (j := k) (by omega)
        obtain ⟨q1, q2, hbs⟩ := hat k (by omega)
        have hon := hbs.len
        have hol := hbs.le
        obtain ⟨o, ho⟩ : ∃ o, o = os[k]'(by omega) := ⟨_, rfl⟩
        rw [← ho] at q1 q2 hon hol
        have HZ2 : Hid (z + min o.n 100000 = sumF (vals os) (k + 1)) := Lib.hid (by
          rw [sumF_succ _ _ (by rw [vals_length]; omega), vals_get _ _ (by omega), HZ.out, hon, ho]
          rfl)
        clear hat hbs ho hon HZ
        by_cases h3 : (o.n : Int) ≤ 100000
        · go_wp2_with fail
          go_round
          case rel => exact ⟨k + 1, by omega, by omega, z + o.n, by omega, by go_num, by go_num, Lib.hid (by rw [← HZ2.out, Nat.min_eq_left (by omega)])⟩
          case measure => simp [intOf]; omega
        · go_wp2_with fail
          go_round
          case rel => exact ⟨k + 1, by omega, by omega, z + 100000, by omega, by go_num, by go_num, Lib.hid (by rw [← HZ2.out, Nat.min_eq_right (by omega)])⟩
          case measure => simp [intOf]; omega
      · have hf : Hid (fewO (vals os) = false) := Lib.hid (by
          unfold fewO
          rw [vals_length, ← hn]
          have : ¬ n ≤ 60 := by omega
          simp [this])
        have h6 : ¬ (n : Int) ≤ 60 := by omega
        go_wp2_with fail
        go_ret
        exact ⟨by rw [hf.out]; simp, rfl⟩
    · have hf : Hid (fewO (vals os) = (decide (n ≤ 60) && decide (z ≤ 70000))) := Lib.hid (by
        unfold fewO
        rw [vals_length, ← hn, HZ.out, sumF_end (vals os) k (by rw [vals_length]; omega) (by omega)])
      by_cases h6 : (n : Int) ≤ 60
      · by_cases h7 : (z : Int) ≤ 70000
        · go_wp2_with fail
          go_ret
          exact ⟨by rw [hf.out]; congr 3; simp; omega, rfl⟩
        · go_wp2_with fail
          go_ret
          exact ⟨by rw [hf.out]; congr 3; simp; omega, rfl⟩
      · go_wp2_with fail
        go_ret
        exact ⟨by rw [hf.out]; congr 3; simp; omega, rfl⟩

set_option maxRecDepth 100000 in
theorem wrong_any (ad : Option Addr) (n c : Nat) (os : List OptV) (w : World) (hs : Ops w ad n c os) :
    Calls Try.prog 50 #[.slice ad n c] w fun e w' => e = .returned (.int .i64 (wrongO (vals os))) ∧ w = w' := by
  have hn := hs.len
  have hle := hs.le
  have HS := Lib.hid hs
  obtain ⟨X, hX⟩ : ∃ X, X = wrongO (vals os) := ⟨_, rfl⟩
  rw [← hX]
  have HX := Lib.hid (show X = wrongO ((vals os).drop 0) by rw [hX, List.drop_zero])
  clear hs hX
  go_enter Try.func50, Try.ntmps50
  go_wp2_with fail
  go_loop [3] (fun i => ∃ k : Nat, k ≤ n ∧ i = .int .i64 k ∧ Hid (X = wrongO ((vals os).drop k))) (fun i => n - (intOf i).toNat)
  case atStart => exact ⟨0, by omega, rfl, HX⟩
  case round =>
    obtain ⟨k, hk, rfl, HX1⟩ := hrel
    by_cases hlt : k < n
    · obtain ⟨b, off, rfl, hb, hat⟩ := HS.out.at (j := k) (by omega)
      obtain ⟨q1, q2, hbs⟩ := hat k (by omega)
      have hon := hbs.len
      have hol := hbs.le
      obtain ⟨o, ho⟩ : ∃ o, o = os[k]'(by omega) := ⟨_, rfl⟩
      rw [← ho] at q1 q2 hon hol
      have HD : Hid (X = if o.code < 1 ∨ 65535 < o.code then 1 else if 65535 < o.n then 4 else wrongO ((vals os).drop (k + 1))) := Lib.hid (by
        rw [HX1.out, List.drop_eq_getElem_cons (by rw [vals_length]; omega), wrongO, vals_get _ _ (by omega), hon, ho]
        rfl)
      clear hat hbs ho hon HX1 HX
      generalize o.code = cd at *
      generalize o.n = on at *
      by_cases h1 : cd < 1
      · have HE := Lib.hid (HD.out.trans (if_pos (.inl h1)))
        go_wp2_with fail
        go_ret
        exact ⟨by rw [HE.out]; rfl, rfl⟩
      · by_cases h2 : 65535 < cd
        · have HE := Lib.hid (HD.out.trans (if_pos (.inr h2)))
          go_wp2_with fail
          go_ret
          exact ⟨by rw [HE.out]; rfl, rfl⟩
        · by_cases h3 : (65535 : Int) < on
          · have HE := Lib.hid ((HD.out.trans (if_neg (by omega))).trans (if_pos (by omega)))
            go_wp2_with fail
            go_ret
            exact ⟨by rw [HE.out]; rfl, rfl⟩
          · have HE := Lib.hid ((HD.out.trans (if_neg (by omega))).trans (if_neg (by omega)))
            clear HD
            go_wp2_with fail
            go_round
            case rel => exact ⟨k + 1, by omega, by go_num, HE⟩
            case measure => simp [intOf]; omega
    · have HE := Lib.hid (show X = 0 by rw [HX1.out, List.drop_of_length_le (by rw [vals_length]; omega)]; rfl)
      go_wp2_with fail
      go_ret
      exact ⟨by rw [HE.out]; rfl, rfl⟩

set_option maxRecDepth 100000 in
theorem pad_nat (n : Nat) (w : World) (h : n ≤ 9223372036854775807) : Calls Try.prog 72 #[.int .i64 (n : Int)] w fun e w' => e = .returned (.int .i64 ((padN n : Nat) : Int)) ∧ w' = w := by
  rw [← padI_nat]
  exact (pad_any _ _ (by omega) (by omega)).mono fun _ _ h => ⟨h.1, h.2.symm⟩
def sizeA (l : List OV) : Nat := sizeO l + (if l.length = 0 then 0 else 4)
theorem sizeO_take (l : List OV) (k : Nat) (h : k < l.length) : sizeO (l.take (k + 1)) = sizeO (l.take k) + lenO l[k] := by
  unfold sizeO
  rw [List.take_add_one, List.getElem?_eq_getElem h, Option.toList_some, List.map_append, List.sum_append]
  simp only [List.map_cons, List.map_nil, List.sum_cons, List.sum_nil, Nat.add_zero]
theorem sizeO_take_le (l : List OV) (k : Nat) : sizeO (l.take k) ≤ sizeO l := by
  have : sizeO l = sizeO (l.take k) + sizeO (l.drop k) := by rw [← sizeO_append, List.take_append_drop]
  omega
theorem ocell_all (o : OptV) : o.cells.toArray.all (·.oneCell') = true := by
  simp only [OptV.cells, List.all_toArray, List.all_cons, List.all_nil, Bool.and_true, Bool.and_eq_true]
  exact ⟨rfl, rfl⟩
theorem ocell_range {w : World} {b off : Nat} {o : OptV} (h1 : w.cell? ⟨b, off, none⟩ = some (.int .i64 o.code)) (h2 : w.cell? ⟨b, off + 1, none⟩ = some (.slice o.ad o.n o.c)) : w.rangeAt b off o.cells := by
  intro j v hv
  match j with
  | 0 => simp [OptV.cells] at hv; subst hv; exact h1
  | 1 => simp [OptV.cells] at hv; subst hv; exact h2
  | j + 2 => simp [OptV.cells] at hv

set_option maxHeartbeats 1000000 in
set_option maxRecDepth 100000 in
theorem size_any (ad : Option Addr) (n c : Nat) (os : List OptV) (w : World) (hs : Ops w ad n c os) (hsz : sizeO (vals os) ≤ 140737488351232) :
    Calls Try.prog 71 #[.slice ad n c] w fun e w' => e = .returned (.int .i64 ((sizeA (vals os) : Nat) : Int)) ∧ Below w.heap.size w w' := by
  have hn := hs.len
  have hle := hs.le
  have HS := Lib.hid hs
  have HI : Hid ((Try.prog.info? 90).map (·.size) = some 2) := Lib.hid (by kernel_rfl)
  clear hs
  go_enter Try.func71, Try.ntmps71
  go_wp2_with fail
  go_loopw [3, 8] (fun s i wr => ∃ (k z : Nat), k ≤ n ∧ z ≤ 140737488351232 ∧ i = .int .i64 k ∧ s = .int .i64 z ∧ Hid (z = sizeO ((vals os).take k)) ∧ Below w.heap.size w wr) (fun _ i _ => n - (intOf i).toNat)
  case atStart => exact ⟨0, 0, by omega, by omega, rfl, rfl, Lib.hid rfl, Below.refl _ _⟩
  case round =>
    obtain ⟨k, z, hk, hzl, rfl, rfl, HZ, hb0⟩ := hrel
    have HB := Lib.hid hb0
    by_cases hlt : k < n
    · obtain ⟨b, off, rfl, hb, hat⟩ := (HS.out.below hb0).at (j := k) (by omega)
      obtain ⟨q1, q2, hbs⟩ := hat k (by omega)
      have hon := hbs.len
      have hol := hbs.le
      obtain ⟨o, ho⟩ : ∃ o, o = os[k]'(by omega) := ⟨_, rfl⟩
      rw [← ho] at q1 q2 hon hol
      have hp3 := padN_le o.n
      have hz2 : z + (4 + o.n + padN o.n) = sizeO ((vals os).take (k + 1)) := by
        rw [sizeO_take _ _ (by rw [vals_length]; omega), vals_get _ _ (by omega), HZ.out, hon, ho]
        rfl
      have hz3 : z + (4 + o.n + padN o.n) ≤ 140737488351232 := by rw [hz2]; exact Nat.le_trans (sizeO_take_le _ _) hsz
      have HZ2 := Lib.hid hz2
      have HR := Lib.hid (ocell_range q1 q2)
      clear hat hbs ho hon HZ hz2 q1 q2 hb0
      go_wp2_with (first
        | ((with_reducible refine sl 11 ?_); go_must (refine wpL_load rfl 90 (.tmp 10) rfl b (off + k * 2) rfl o.cells _ HR.out Try.underlying90 rfl HI.out ?_); simp only [PT])
        | ((with_reducible refine sl 5 ?_); go_must (refine wpL_newAt wr.heap.size rfl rfl 90 rfl (.tmp 5) (.tmp 11) rfl o.cells.toArray #[.int .i64 0, .slice none 0 0] (by kernel_rfl) rfl (ocell_all o) (fun _ => rfl) (fun _ => rfl) rfl ?_); simp only [PT]))
      obtain ⟨w1, hw1⟩ : ∃ w1, w1 = wr.alloc (.cells o.cells.toArray 90) := ⟨_, rfl⟩
      have HB1 := Lib.hid (show Below w.heap.size w w1 by rw [hw1]; exact HB.out.alloc HB.out.size _)
      have hc1 : w1.cell? ⟨wr.heap.size, 1, none⟩ = some (.slice o.ad o.n o.c) := by rw [hw1]; simp [OptV.cells]
      rw [← hw1]
      clear hw1
      go_quiet ((go_at_call 72; exact Calls.quiet_of_same (pad_nat _ _ (by omega))))
      have HB2 := Lib.hid (HB1.out.trans (below_drewN _ _ nq))
      go_wp2_with fail
      go_roundw
      case rel => exact ⟨k + 1, z + (4 + o.n + padN o.n), by omega, hz3, by go_num, by go_num, HZ2, HB2.out⟩
      case measure => simp [intOf]; omega
    · have hk2 : k = n := by omega
      have hf : Hid (sizeA (vals os) = z + (if n = 0 then 0 else 4)) := Lib.hid (by
        unfold sizeA
        rw [HZ.out, List.take_of_length_le (by rw [vals_length]; omega), vals_length, ← hn])
      by_cases h0 : n = 0
      · have h1 : ¬ ((0 : Int) < (n : Int)) := by omega
        go_wp2_with fail
        go_ret
        exact ⟨by rw [hf.out, if_pos h0]; rfl, HB.out⟩
      · have h1 : ((0 : Int) < (n : Int)) := by omega
        go_wp2_with fail
        go_ret
        exact ⟨by rw [hf.out, if_neg h0]; rfl, HB.out⟩
end Go.Proofs.Ytmfplinbbcoahaa
/-
  'append(s, make([]byte, 4)...)'; appends that leave a block as it is. Over any program.
-/
namespace Go.Proofs.Ytmfplinbbcoahaa
open Go.RowKit Go.Sort
set_option linter.unusedVariables false
set_option linter.unusedSimpArgs false

def zeros4 : ByteArray := ⟨#[0, 0, 0, 0]⟩
theorem run_append_zeros {P : Program} {w : World} {t ti u ty e : TypeId} {i : TypeInfo} {k : IntKind} (ht : P.underlying t = some (.slice e)) (hti : P.underlying ti = some (.int k)) (hu : P.underlying u = some .string) (hi : P.info? e = some i) (hz : i.zero = some (.int .u8 0)) (hs : i.size = 1) (hb : i.bytes = 1)
    (ad : Option Addr) (n c : Nat) (h63 : n + 4 ≤ 140737488351232) :
    (Builtin.append_ #[t, ti] ty #[.slice ad n c, .int .i64 4]).run P w = (Builtin.append_ #[t, u] ty #[.slice ad n c, .string zeros4]).run P w := by
  have hsz : zeros4.size = 4 := rfl
  have hw : IntKind.i64.wrap 4 = 4 := by decide
  have hzc : Builtin.zeroCells (Value.int IntKind.u8 0).cells 4 = #[.int .u8 0, .int .u8 0, .int .u8 0, .int .u8 0] := by
    apply Array.ext'
    unfold Builtin.zeroCells
    rw [Array.toList_map, Array.toList_range, show (Value.int IntKind.u8 0).cells = #[.int .u8 0] from rfl]
    rfl
  have hfc := fun w' => Lib.run_firstCells_string (P := P) (w := w') 1 zeros4
  have hst : (Lib.strCells zeros4).toArray = #[.int .u8 0, .int .u8 0, .int .u8 0, .int .u8 0] := by rfl
  rw [hst, hsz] at hfc
  by_cases hr : n + 4 ≤ c
  · simp [Builtin.append_, run_underlying ht, run_underlying hti, run_underlying hu, sizeOf, typeInfo, zeroValue, hi, hz, hs, hb, Builtin.lenOf, asInt, asIntOf, hw, hr, hsz, hzc, hfc]
  · have hfit := growslice_fits (bytes := 1) (Nat.lt_of_not_le hr) (by omega)
    have hfit' : ¬ (281474976710656 < Builtin.nextslicecap (n + 4) c) := by omega
    have h63' : ¬ (9223372036854775807 < ((n : Int) + max 4 0)) := by omega
    simp [Builtin.append_, run_underlying ht, run_underlying hti, run_underlying hu, sizeOf, typeInfo, zeroValue, hi, hz, hs, hb, Builtin.lenOf, asInt, asIntOf, hw, hr, hsz, hzc, hfit', h63', hfc, Question.forced]

theorem wpL_append_zeros {P : Program} {w : World} {ops : Array Oper} {rest : List Oper} {o : Oper} {a : Act} {Q : Exit → Act → World → Prop} {t ti u e : TypeId} {k : IntKind} (el : Elem P t e 1 1 (.int .u8 0)) (hti : P.underlying ti = some (.int k)) (hu : P.underlying u = some .string)
    (hgd : Region.wanted o (yielded ops a.tmps) = true) (s x : Operand) (ho : o.op = .call { callee := .builtin .append, args := #[s, x], argTypes := #[t, ti] })
    (base : Nat) {ad : Option Addr} {n c : Nat} {l : List UInt8} (hs : a.eval s = .slice ad n c) (hown : w.ownsRow base e 1 (.slice ad n c) n (BV l)) (hx : a.eval x = .int .i64 4)
    (h63 : n + 4 ≤ 140737488351232) (hbase : base ≤ w.heap.size)
    (h : ∀ ad' c' w', w'.ownsRow base e 1 (.slice ad' (n + 4) c') (n + 4) (BV (l ++ [0, 0, 0, 0])) → w.grownBy w' (Value.ownBlock (.slice ad n c)) → wpList P ops Q rest (a.put o.dst (.slice ad' (n + 4) c')) w') :
    wpList P ops Q (o :: rest) a w := by
  obtain ⟨i, hi, hz, hsize, hby⟩ := info_parts el.info
  obtain ⟨v', w', hr, hown', hgrow, _⟩ := Lib.run_append_own_string (P := P) w base t u o.type e i el.ht hu hi hz hsize hby _ n (BV l) hown zeros4 (by have : zeros4.size = 4 := rfl; unfold maxLen; omega) (by have : zeros4.size = 4 := rfl; omega) hbase
  have h4 : zeros4.size = 4 := rfl
  rw [h4] at hown'
  have e4 : BV l ++ Lib.strCells zeros4 = BV (l ++ [0, 0, 0, 0]) := by rw [BV_append]; rfl
  rw [e4] at hown'
  obtain ⟨ad', c', rfl, _⟩ := own_forms hown'
  rw [← run_append_zeros (ty := o.type) el.ht hti hu hi hz hsize hby ad n c h63] at hr
  refine wpL_run hgd (v := .slice ad' (n + 4) c') (w' := w') ?_ (h ad' c' w' hown' hgrow)
  unfold execOp
  simp only [ho, resolve, invoke, builtin, Sem.run_bind, Sem.run_pure, Result.andThen_ok, List.map_toArray, List.map_cons, List.map_nil, hs, hx, hr]

/-- 'append(s, x...)' of bytes, s the call's own and not in block G: block G stays. -/
theorem wpL_appG {P : Program} {w : World} {ops : Array Oper} {rest : List Oper} {o : Oper} {a : Act} {Q : Exit → Act → World → Prop} {t e : TypeId} {z : Value} (el : Elem P t e 1 1 z)
    (hgd : Region.wanted o (yielded ops a.tmps) = true) (s x : Operand) (ho : o.op = .call { callee := .builtin .append, args := #[s, x], argTypes := #[t, t] })
    (base G : Nat) {ad : Option Addr} {n c : Nat} {l : List UInt8} (hs : a.eval s = .slice ad n c) (hown : w.ownsRow base e 1 (.slice ad n c) n (BV l)) (hG : G < w.heap.size) (hne : ∀ x, ad = some x → x.block ≠ G)
    {ad2 : Option Addr} {m c2 : Nat} {news : List UInt8} (hx : a.eval x = .slice ad2 m c2) (hsl : Bs w ad2 m c2 news)
    (h63 : n + m ≤ 140737488351232) (hbase : base ≤ w.heap.size)
    (h : ∀ ad' c' w', w'.ownsRow base e 1 (.slice ad' (n + m) c') (n + m) (BV (l ++ news)) → Below base w w' → w'.heap[G]? = w.heap[G]? → (∀ x, ad' = some x → x.block ≠ G) →
      wpList P ops Q rest (a.put o.dst (.slice ad' (n + m) c')) w') :
    wpList P ops Q (o :: rest) a w := by
  refine wpL_append el hgd s x ho base hs hown hx hsl (BV_one _) (by unfold maxLen; omega) (by omega) hbase fun ad' c' w' ho' hg' hat _ => h ad' c' w' ?_ ?_ ?_ ?_
  · rw [BV_append]; exact ho'
  · exact (Below.refl base w).grown hg' hbase (ownBlock_ge hown)
  · refine hg'.block G hG fun e => ?_
    rcases own_form hown with ⟨rfl, _⟩ | ⟨g, rfl, _⟩
    · simp [Value.ownBlock] at e
    · simp [Value.ownBlock] at e
      exact hne _ rfl e.symm
  · intro x hx
    rcases hat with rfl | rfl
    · exact hne x hx
    · cases hx
      show w.heap.size ≠ G
      omega
end Go.Proofs.Ytmfplinbbcoahaa
