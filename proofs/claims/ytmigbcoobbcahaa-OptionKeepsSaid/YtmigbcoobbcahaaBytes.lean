/-
  Bytes: a row of them as a list, and what is done to such lists: turned round, and so on. Over any program.
-/
import Derived.Test.YtmigbcoobbcahaaBase
namespace Go.Proofs.Ytmigbcoobbcahaa
open Go.RowKit Go.Sort
set_option linter.unusedVariables false

/-- the cells of bytes -/
def BV (l : List UInt8) : List Value := l.map fun b => Value.int .u8 (b.toNat : Int)
theorem BV_length (l : List UInt8) : (BV l).length = l.length := by simp [BV]
theorem BV_one (l : List UInt8) : ∀ u ∈ BV l, u.oneCell' = true := by
  intro u hu
  obtain ⟨x, _, rfl⟩ := List.mem_map.1 hu
  rfl
theorem BV_append (l m : List UInt8) : BV (l ++ m) = BV l ++ BV m := by simp [BV]
theorem BV_nil : BV [] = [] := rfl
theorem BV_get (l : List UInt8) (i : Nat) (h : i < (BV l).length) : (BV l)[i] = .int .u8 ((l[i]'(by simpa [BV] using h)).toNat : Int) := by simp [BV]
theorem BV_set (l : List UInt8) (i : Nat) (b : UInt8) : (BV l).set i (.int .u8 (b.toNat : Int)) = BV (l.set i b) := by simp [BV, List.map_set]
theorem BV_inj {l m : List UInt8} (h : BV l = BV m) : l = m := by
  unfold BV at h
  refine List.map_inj_right (fun a b hab => ?_) |>.1 h
  simp at hab
  exact UInt8.toNat_inj.1 (by omega)

/-- byte j (0 behind the end) -/
def at8 (l : List UInt8) (j : Nat) : UInt8 := l.getD j 0
theorem at8_lt (l : List UInt8) (j : Nat) : (0 : Int) ≤ ((at8 l j).toNat : Int) ∧ ((at8 l j).toNat : Int) ≤ 255 := by
  have := (at8 l j).toNat_lt
  omega
theorem at8_get (l : List UInt8) (j : Nat) (h : j < l.length) : at8 l j = l[j] := by simp [at8, List.getD, h]
theorem at8_end (l : List UInt8) (j : Nat) (h : l.length ≤ j) : at8 l j = 0 := by simp [at8, List.getD, h]

/-- bytes that came in, as numbers -/
def ofInts (zs : List Int) : List UInt8 := zs.map fun z => UInt8.ofNat z.toNat
theorem BV_ofInts {zs : List Int} (h : ∀ n ∈ zs, (Lit.int .u8 n).wf = true) : BV (ofInts zs) = zs.map (Value.int .u8) := by
  unfold BV ofInts
  rw [List.map_map]
  refine List.map_congr_left fun z hz => ?_
  have hb := wf_u8' (h z hz)
  simp only [Function.comp]
  rw [UInt8.toNat_ofNat_of_lt' (by show z.toNat < 256; omega)]
  congr 1
  omega

/-- a slice of bytes reads as l -/
def Bs (w : World) (ad : Option Addr) (n c : Nat) (l : List UInt8) : Prop := Sl w ad n c 1 (BV l)
theorem Bs.len {w : World} {ad : Option Addr} {n c : Nat} {l : List UInt8} (h : Bs w ad n c l) : n = l.length := by have := Sl.len h; rw [BV_length] at this; omega
theorem Bs.le {w : World} {ad : Option Addr} {n c : Nat} {l : List UInt8} (h : Bs w ad n c l) : n ≤ c ∧ c ≤ 9223372036854775807 := ⟨h.2.1, by have := h.2.2.1; simp [maxLen] at this; omega⟩
theorem Bs.below {w w' : World} {ad : Option Addr} {n c : Nat} {l : List UInt8} (h : Bs w ad n c l) (hb : Below w.heap.size w w') : Bs w' ad n c l := Sl.below h hb
theorem Bs.at {w : World} {ad : Option Addr} {n c : Nat} {l : List UInt8} (h : Bs w ad n c l) {j : Nat} (hj : j < l.length) :
    ∃ b off, ad = some ⟨b, off, none⟩ ∧ b < w.heap.size ∧ ∀ i, i < l.length → w.cell? ⟨b, off + i, none⟩ = some (.int .u8 ((at8 l i).toNat : Int)) := by
  obtain ⟨b, off, ha, hb, hc⟩ := Sl.at h (j := j) (by rw [BV_length]; exact hj)
  refine ⟨b, off, ha, hb, fun i hi => ?_⟩
  rw [hc i (by rw [BV_length]; exact hi), BV_get]
  simp [at8, List.getD, hi]
theorem Bs.of_own {w : World} {base : Nat} {e : TypeId} {ad : Option Addr} {n c : Nat} {l : List UInt8} (h : w.ownsRow base e 1 (.slice ad n c) n (BV l)) : Bs w ad n c l := Sl.of_own h

/-- What a function answers that hands back bytes in memory of its own. -/
def RetB (e : TypeId) (l : List UInt8) (w : World) (en : Ending) (w' : World) : Prop :=
  ∃ ad c, en = .returned (.slice ad l.length c) ∧ w'.ownsRow w.heap.size e 1 (.slice ad l.length c) l.length (BV l) ∧ Below w.heap.size w w'

theorem own_form {w : World} {base : Nat} {e : TypeId} {size : Nat} {ad : Option Addr} {n c : Nat} {xs : List Value} (h : w.ownsRow base e size (.slice ad n c) n xs) :
    (ad = none ∧ n = 0 ∧ c = 0) ∨ ∃ g, ad = some ⟨g, 0, none⟩ ∧ base ≤ g ∧ g < w.heap.size := by
  have hlt := h.lt
  rcases h.2 with ⟨hv, h0⟩ | ⟨g, cap, cur, hv, _⟩
  · simp at hv; exact .inl ⟨hv.1, h0, hv.2.2⟩
  · simp at hv
    obtain ⟨rfl, rfl⟩ := hv
    exact .inr ⟨g, rfl, (hlt g rfl).1, (hlt g rfl).2⟩

theorem own_base {w : World} {base base' : Nat} {e : TypeId} {size : Nat} {ad : Option Addr} {n c : Nat} {xs : List Value} (h : w.ownsRow base e size (.slice ad n c) n xs) (hb : base' ≤ base) : w.ownsRow base' e size (.slice ad n c) n xs := by
  obtain ⟨h1, h2⟩ := h
  refine ⟨h1, ?_⟩
  rcases h2 with h2 | ⟨g, cap, cur, hv, hg, r⟩
  · exact .inl h2
  · exact .inr ⟨g, cap, cur, hv, Nat.le_trans hb hg, r⟩

theorem own_below {w w' : World} {base B : Nat} {e : TypeId} {size : Nat} {ad : Option Addr} {n c : Nat} {xs : List Value} (h : w.ownsRow base e size (.slice ad n c) n xs) (hb : Below B w w') (hlt : ∀ g, ad = some ⟨g, 0, none⟩ → g < B) : w'.ownsRow base e size (.slice ad n c) n xs := by
  obtain ⟨h1, h2⟩ := h
  refine ⟨h1, ?_⟩
  rcases h2 with h2 | ⟨g, cap, cur, hv, hg, hh, r⟩
  · exact .inl h2
  · have hv' := hv
    simp at hv'
    exact .inr ⟨g, cap, cur, hv, hg, by rw [hb.block g (hlt g hv'.1)]; exact hh, r⟩

/-- .. the same, where nothing that was there has turned -/
theorem own_keep {w w' : World} {base : Nat} {e : TypeId} {size : Nat} {ad : Option Addr} {n c : Nat} {xs : List Value} (h : w.ownsRow base e size (.slice ad n c) n xs) (hb : Below w.heap.size w w') : w'.ownsRow base e size (.slice ad n c) n xs :=
  own_below h hb fun g hg => by
    rcases own_form h with ⟨h0, _⟩ | ⟨g', h1, _, h2⟩
    · rw [h0] at hg; cases hg
    · rw [h1] at hg; cases hg; exact h2

theorem own_cell {w : World} {base : Nat} {e : TypeId} {g n c : Nat} {l : List UInt8} (h : w.ownsRow base e 1 (.slice (some ⟨g, 0, none⟩) n c) n (BV l)) {j : Nat} (hj : j < n) : w.cell? ⟨g, j, none⟩ = some (.int .u8 ((at8 l j).toNat : Int)) := by
  have hl := h.1
  rw [BV_length] at hl
  rw [h.cellAt j (by omega), List.getElem?_eq_getElem (by rw [BV_length]; omega), BV_get]
  simp [at8, List.getD, show j < l.length by omega]

theorem own_store {w : World} {base : Nat} {e : TypeId} {g n c : Nat} {l : List UInt8} (h : w.ownsRow base e 1 (.slice (some ⟨g, 0, none⟩) n c) n (BV l)) (j : Nat) (b : UInt8) :
    (w.setCell ⟨g, j, none⟩ (.int .u8 (b.toNat : Int))).ownsRow base e 1 (.slice (some ⟨g, 0, none⟩) n c) n (BV (l.set j b)) ∧ w.grownBy (w.setCell ⟨g, j, none⟩ (.int .u8 (b.toNat : Int))) (some g) := by
  have := h.stored j (.int .u8 (b.toNat : Int))
  rwa [BV_set] at this

/-! ### turned round, a swap a step -/
/-- the first k and the last k have been swapped -/
def revTo (l : List UInt8) (k : Nat) : List UInt8 := (List.range l.length).map fun j => if j < k ∨ l.length ≤ j + k then l.getD (l.length - 1 - j) 0 else l.getD j 0
theorem revTo_length (l : List UInt8) (k : Nat) : (revTo l k).length = l.length := by simp [revTo]
theorem revTo_get (l : List UInt8) (k j : Nat) (h : j < l.length) : (revTo l k).getD j 0 = if j < k ∨ l.length ≤ j + k then l.getD (l.length - 1 - j) 0 else l.getD j 0 := by
  simp [revTo, List.getD, h]
theorem ext_getD {l m : List UInt8} (hl : l.length = m.length) (h : ∀ j, j < l.length → l.getD j 0 = m.getD j 0) : l = m := by
  apply List.ext_getElem hl
  intro j h1 h2
  have := h j h1
  simpa [List.getD, h1, h2] using this
theorem revTo_zero (l : List UInt8) : revTo l 0 = l := by
  apply ext_getD (by rw [revTo_length])
  intro j hj
  rw [revTo_length] at hj
  rw [revTo_get l 0 j hj, if_neg (by omega)]
theorem revTo_end (l : List UInt8) (k : Nat) (h : l.length ≤ 2 * k + 1) : revTo l k = l.reverse := by
  apply ext_getD (by rw [revTo_length]; simp)
  intro j hj
  rw [revTo_length] at hj
  rw [revTo_get l k j hj]
  have hr : l.reverse.getD j 0 = l.getD (l.length - 1 - j) 0 := by
    simp [List.getD, List.getElem?_reverse hj]
  rw [hr]
  split
  · rfl
  · have : l.length - 1 - j = j := by omega
    rw [this]
theorem set_getD (l : List UInt8) (i j : Nat) (b : UInt8) (hi : i < l.length) : (l.set i b).getD j 0 = if i = j then b else l.getD j 0 := by
  simp only [List.getD, List.getElem?_set]
  split
  · subst_vars; simp
  · rfl
theorem revTo_succ (l : List UInt8) (k : Nat) (h : 2 * k + 1 < l.length) :
    ((revTo l k).set k (at8 (revTo l k) (l.length - 1 - k))).set (l.length - 1 - k) (at8 (revTo l k) k) = revTo l (k + 1) := by
  apply ext_getD (by simp [revTo_length])
  intro j hj
  simp only [List.length_set, revTo_length] at hj
  rw [set_getD _ _ _ _ (by simp [revTo_length]; omega), set_getD _ _ _ _ (by simp [revTo_length]; omega)]
  unfold at8
  have e1 : (revTo l k).getD k 0 = l.getD k 0 := by rw [revTo_get l k k (by omega), if_neg (by omega)]
  have e2 : (revTo l k).getD (l.length - 1 - k) 0 = l.getD (l.length - 1 - k) 0 := by rw [revTo_get l k _ (by omega), if_neg (by omega)]
  rw [e1, e2, revTo_get l (k + 1) j hj, revTo_get l k j hj]
  by_cases h1 : l.length - 1 - k = j
  · rw [if_pos h1, if_pos (by omega)]
    congr 1
    omega
  · rw [if_neg h1]
    by_cases h2 : k = j
    · rw [if_pos h2, if_pos (by omega)]
      congr 1
      omega
    · rw [if_neg h2]
      by_cases h3 : j < k ∨ l.length ≤ j + k
      · rw [if_pos h3, if_pos (by omega)]
      · rw [if_neg h3, if_neg (by omega)]

/-! ### numbers as bytes -/
/-- byte i of a number, the lowest first -/
def byteAt (n i : Nat) : UInt8 := UInt8.ofNat (n / 2 ^ (8 * i))
theorem byteAt_toNat (n i : Nat) : (byteAt n i).toNat = n / 2 ^ (8 * i) % 256 := by unfold byteAt; simp
theorem byteAt_wrap (n i : Nat) : IntKind.u8.wrap (((n / 2 ^ (8 * i) : Nat)) : Int) = ((byteAt n i).toNat : Int) := by
  rw [byteAt_toNat, IntKind.wrap_u8]; omega
theorem byteAt_int (n i : Nat) : (n : Int) / 2 ^ (8 * i) % 256 = ((byteAt n i).toNat : Int) := by
  rw [byteAt_toNat, Int.natCast_emod, Int.natCast_ediv, Int.natCast_pow]; rfl
def putLE (n k : Nat) : List UInt8 := (List.range k).map (byteAt n)
theorem putLE_length (n k : Nat) : (putLE n k).length = k := by simp [putLE]
/-- what the document lays of a number: how many bytes, in which order -/
def sizeOf8 (size : Int) : Nat := min size.toNat 8
def putL (n : Nat) (size : Int) (big : Bool) : List UInt8 := if big then (putLE n (sizeOf8 size)).reverse else putLE n (sizeOf8 size)
theorem putL_length (n : Nat) (size : Int) (big : Bool) : (putL n size big).length = sizeOf8 size := by unfold putL; split <;> simp [putLE_length]
/-- the first k of L bytes are laid -/
def putTo (n L k : Nat) : List UInt8 := (List.range L).map fun i => if i < k then byteAt n i else 0
theorem putTo_length (n L k : Nat) : (putTo n L k).length = L := by simp [putTo]
theorem putTo_zero (n L : Nat) : BV (putTo n L 0) = List.replicate L (.int .u8 0) := by
  apply List.ext_getElem (by simp [BV, putTo])
  intro i h1 h2
  simp [BV, putTo]
theorem putTo_all (n L : Nat) : putTo n L L = putLE n L := by
  unfold putTo putLE
  refine List.map_congr_left fun i hi => ?_
  rw [if_pos (by simpa using hi)]
theorem putTo_succ (n L k : Nat) (h : k < L) : (putTo n L k).set k (byteAt n k) = putTo n L (k + 1) := by
  apply ext_getD (by simp [putTo])
  intro j hj
  simp only [List.length_set, putTo_length] at hj
  rw [set_getD _ _ _ _ (by rw [putTo_length]; exact h)]
  simp only [putTo, List.getD, List.getElem?_map, List.getElem?_range hj, Option.map_some, Option.getD_some]
  by_cases h1 : k = j
  · rw [if_pos h1, if_pos (by omega), h1]
  · rw [if_neg h1]
    by_cases h2 : j < k
    · rw [if_pos h2, if_pos (by omega)]
    · rw [if_neg h2, if_neg (by omega)]

/-! ### bytes as numbers -/
def numBE (l : List UInt8) : Nat := l.foldl (fun n b => n * 256 + b.toNat) 0
theorem numBE_nil : numBE [] = 0 := rfl
theorem numBE_snoc (l : List UInt8) (b : UInt8) : numBE (l ++ [b]) = numBE l * 256 + b.toNat := by simp [numBE]
theorem numBE_lt (l : List UInt8) : numBE l < 256 ^ l.length := by
  have key : ∀ m : List UInt8, numBE m.reverse < 256 ^ m.length := by
    intro m
    induction m with
    | nil => simp [numBE]
    | cons b m ih =>
      rw [List.reverse_cons, numBE_snoc, List.length_cons, Nat.pow_succ]
      have := b.toNat_lt
      omega
  have := key l.reverse
  simpa using this
theorem numBE_lt8 (l : List UInt8) (h : l.length ≤ 8) : numBE l < 18446744073709551616 :=
  Nat.lt_of_lt_of_le (numBE_lt l) (Nat.pow_le_pow_right (by omega) h)
theorem numBE_lt7 (l : List UInt8) (h : l.length ≤ 7) : numBE l < 72057594037927936 :=
  Nat.lt_of_lt_of_le (numBE_lt l) (Nat.pow_le_pow_right (by omega) h)
def getN (l : List UInt8) (big : Bool) : Nat := if big then numBE (l.take 8) else numBE (l.take 8).reverse
theorem getN_lt (l : List UInt8) (big : Bool) : getN l big < 18446744073709551616 := by
  unfold getN
  split
  · exact numBE_lt8 _ (by simp; omega)
  · exact numBE_lt8 _ (by simp; omega)

/-- one byte more -/
def stepN (a : Nat) (b : UInt8) : Nat := a * 256 + b.toNat
theorem u64_wrap_nat (n : Nat) (h : n < 18446744073709551616) : IntKind.u64.wrap (n : Int) = n := by rw [IntKind.wrap_u64]; omega
theorem or_byte (a : Nat) (b : UInt8) (h : a < 72057594037927936) : bits BinOp.or .u64 (IntKind.u64.wrap ((a : Int) * 256)) ((b.toNat : Nat) : Int) = ((stepN a b : Nat) : Int) := by
  unfold stepN
  have hb := b.toNat_lt
  have e : IntKind.u64.wrap ((a : Int) * 256) = ((a * 256 : Nat) : Int) := by rw [IntKind.wrap_u64]; omega
  rw [e]
  show IntKind.u64.wrap ((BitVec.ofInt 64 ((a * 256 : Nat) : Int) ||| BitVec.ofInt 64 ((b.toNat : Nat) : Int)).toNat : Int) = _
  rw [BitVec.toNat_or]
  have e1 : (BitVec.ofInt 64 ((a * 256 : Nat) : Int)).toNat = a * 256 := by rw [BitVec.toNat_ofInt]; show (((a * 256 : Nat) : Int) % 18446744073709551616).toNat = _; omega
  have e2 : (BitVec.ofInt 64 ((b.toNat : Nat) : Int)).toNat = b.toNat := by rw [BitVec.toNat_ofInt]; show (((b.toNat : Nat) : Int) % 18446744073709551616).toNat = _; omega
  rw [e1, e2]
  have : a * 256 ||| b.toNat = a * 256 + b.toNat := by
    have := Nat.two_pow_add_eq_or_of_lt (i := 8) (b := b.toNat) hb a
    rw [Nat.mul_comm a 256]
    exact this.symm
  rw [this, u64_wrap_nat _ (by omega)]
theorem take_snoc8 (l : List UInt8) (k : Nat) (h : k < l.length) : l.take (k + 1) = l.take k ++ [at8 l k] := by
  rw [List.take_add_one, List.getElem?_eq_getElem h, at8_get l k h]; rfl
theorem numBE_take_succ (l : List UInt8) (k : Nat) (h : k < l.length) : numBE (l.take (k + 1)) = stepN (numBE (l.take k)) (at8 l k) := by
  rw [take_snoc8 l k h, numBE_snoc]; rfl
/-- from behind: what has been read in k rounds -/
def numFrom (l : List UInt8) (k : Nat) : Nat := numBE (l.reverse.take k)
theorem numFrom_succ (l : List UInt8) (k : Nat) (h : k < l.length) : numFrom l (k + 1) = stepN (numFrom l k) (at8 l (l.length - 1 - k)) := by
  unfold numFrom
  rw [numBE_take_succ _ _ (by simpa using h)]
  have : at8 l.reverse k = at8 l (l.length - 1 - k) := by rw [at8_get _ _ (by simpa using h), at8_get _ _ (by omega), List.getElem_reverse]
  rw [this]
theorem numFrom_lt7 (l : List UInt8) (k : Nat) (h : k ≤ 7) : numFrom l k < 72057594037927936 := numBE_lt7 _ (by simp; omega)
theorem numFrom_all (l : List UInt8) : numFrom l l.length = numBE l.reverse := by unfold numFrom; rw [List.take_of_length_le (by simp)]
theorem numBE_map_snoc {α : Type} (f : α → UInt8) (pre : List α) (x : α) : numBE ((pre ++ [x]).map f) = stepN (numBE (pre.map f)) (f x) := by
  rw [List.map_append, List.map_cons, List.map_nil, numBE_snoc]; rfl

/-! ### strings out of bytes -/
def strOf (l : List UInt8) : ByteArray := ⟨l.toArray⟩
theorem strOf_data (l : List UInt8) : (strOf l).data.toList = l := rfl
theorem strOf_toList (l : List UInt8) : (strOf l).toList = l := by
  unfold ByteArray.toList
  have key : ∀ (k : Nat) (r : List UInt8), k ≤ l.length → ByteArray.toList.loop (strOf l) (l.length - k) r = r.reverse ++ l.drop (l.length - k) := by
    intro k
    induction k with
    | zero =>
      intro r _
      unfold ByteArray.toList.loop
      rw [if_neg (by show ¬ (l.length - 0 < (strOf l).size); simp [strOf, ByteArray.size])]
      simp
    | succ k ih =>
      intro r hk
      unfold ByteArray.toList.loop
      rw [if_pos (by show l.length - (k + 1) < (strOf l).size; simp [strOf, ByteArray.size]; omega)]
      rw [show l.length - (k + 1) + 1 = l.length - k by omega, ih _ (by omega)]
      have hlt : l.length - (k + 1) < l.length := by omega
      rw [List.drop_eq_getElem_cons hlt, show l.length - (k + 1) + 1 = l.length - k by omega]
      have : (strOf l).get! (l.length - (k + 1)) = l[l.length - (k + 1)] := by
        simp [strOf, ByteArray.get!, hlt]
      rw [this]
      simp
  have := key l.length [] (Nat.le_refl _)
  simpa using this

theorem run_str {P : Program} {w : World} {src dst e : TypeId} {ad : Option Addr} {n c : Nat} {l : List UInt8} (hs : P.underlying src = some (.slice e)) (he : P.underlying e = some (.int .u8)) (hd : P.underlying dst = some .string) (hb : Bs w ad n c l) :
    (convert src dst (.slice ad n c)).run P w = .ok (.string (strOf l)) w := by
  have hn := hb.len
  subst hn
  cases ad with
  | none =>
    obtain ⟨_, _, _, h0, _⟩ := hb
    have : l = [] := List.length_eq_zero_iff.1 (h0 rfl).1
    subst this
    rw [run_convert_bytes_nil (P := P) w src e hs he _ _ dst hd]
    rfl
  | some x =>
    refine run_convert_bytes_back (P := P) w src dst e x c l hs he hd fun j hj => ?_
    obtain ⟨y, hy, hc⟩ := hb.2.2.2.2 j (.int .u8 (l[j].toNat : Int)) (by rw [List.getElem?_eq_getElem (by rw [BV_length]; exact hj), BV_get])
    cases hy
    exact hc

theorem wpL_str {P : Program} {w : World} {ops : Array Oper} {rest : List Oper} {o : Oper} {a : Act} {Q : Exit → Act → World → Prop} {src dst e : TypeId} (hs : P.underlying src = some (.slice e)) (he : P.underlying e = some (.int .u8)) (hd : P.underlying dst = some .string)
    (hg : Region.wanted o (yielded ops a.tmps) = true) (x : Operand) (hop : o.op = Op.convert src dst x) {ad : Option Addr} {n c : Nat} {l : List UInt8} (hx : a.eval x = .slice ad n c) (hb : Bs w ad n c l)
    (h : wpList P ops Q rest (a.put o.dst (.string (strOf l))) w) : wpList P ops Q (o :: rest) a w := by
  refine wpL_run hg ?_ h
  simp only [execOp, hop, hx, Sem.run_bind, run_str hs he hd hb, Result.andThen_ok, Sem.run_pure]

/-- the same bytes? -/
def sameB (l m : List UInt8) : Bool := l == m
theorem sameB_str (l m : List UInt8) : ((strOf l).toList == (strOf m).toList) = sameB l m := by rw [strOf_toList, strOf_toList]; rfl
theorem sameB_self (l : List UInt8) : sameB l l = true := by simp [sameB]

/-- one byte's cell -/
theorem Bs.one (w : World) (e : TypeId) (b : UInt8) : Bs (w.alloc (.cells #[.int .u8 (b.toNat : Int)] e)) (some ⟨w.heap.size, 0, none⟩) 1 1 [b] :=
  Sl.lit w #[.int .u8 (b.toNat : Int)] e 1 1 rfl (by simp [maxLen])

/-! ### padding -/
def padI (n : Int) : Int := if n ≤ 0 then 0 else (4 - n % 4) % 4
theorem padI_range (n : Int) : 0 ≤ padI n ∧ padI n ≤ 3 := by unfold padI; split <;> omega
def padN (n : Nat) : Nat := (4 - n % 4) % 4
theorem padN_le (n : Nat) : padN n ≤ 3 := by unfold padN; omega
theorem padI_nat (n : Nat) : padI (n : Int) = (padN n : Int) := by unfold padI padN; split <;> omega
def padL (l : List UInt8) : List UInt8 := l ++ List.replicate (padN l.length) 0
theorem padL_length (l : List UInt8) : (padL l).length = l.length + padN l.length := by simp [padL]
def padTo (l : List UInt8) (k : Nat) : List UInt8 := l ++ List.replicate k 0
theorem padTo_length (l : List UInt8) (k : Nat) : (padTo l k).length = l.length + k := by simp [padTo]
theorem padTo_succ (l : List UInt8) (k : Nat) : padTo l (k + 1) = padTo l k ++ [0] := by simp [padTo, List.replicate_succ']
theorem padTo_zero (l : List UInt8) : padTo l 0 = l := by simp [padTo]
theorem padTo_pad (l : List UInt8) : padTo l (padN l.length) = padL l := rfl
theorem padN_end (n k : Nat) (h : (n + k) % 4 = 0) (hk : k ≤ padN n) : k = padN n := by unfold padN at *; omega
theorem padN_more (n k : Nat) (h : (n + k) % 4 ≠ 0) (hk : k ≤ padN n) : k < padN n := by unfold padN at *; omega
theorem padN_mod (n : Nat) : (n + padN n) % 4 = 0 := by unfold padN; omega

theorem putLE_succ (n k : Nat) : putLE n (k + 1) = putLE n k ++ [byteAt n k] := by simp [putLE, List.range_succ]
theorem byteAt_quo (n k : Nat) : IntKind.u8.wrap (((n / 256 ^ k % 256 : Nat)) : Int) = ((byteAt n k).toNat : Int) := by
  rw [byteAt_toNat, show (256 : Nat) ^ k = 2 ^ (8 * k) by rw [show (256 : Nat) = 2 ^ 8 from rfl, ← Nat.pow_mul], IntKind.wrap_u8]
  omega
theorem byteAt_mod (n k : Nat) : ((n / 256 ^ k : Nat) : Int) % 256 = ((byteAt n k).toNat : Int) := by
  rw [byteAt_toNat, show (256 : Nat) ^ k = 2 ^ (8 * k) by rw [show (256 : Nat) = 2 ^ 8 from rfl, ← Nat.pow_mul]]
  omega
theorem quo_succ (n k : Nat) : ((n / 256 ^ k : Nat) : Int) / 256 = ((n / 256 ^ (k + 1) : Nat) : Int) := by
  rw [Nat.pow_succ, ← Nat.div_div_eq_div_mul]; omega
theorem putL_to (n : Nat) (size : Int) (big : Bool) (k : Nat) (h : k = sizeOf8 size) : (if big then (putLE n k).reverse else putLE n k) = putL n size big := by subst h; rfl
end Go.Proofs.Ytmigbcoobbcahaa
