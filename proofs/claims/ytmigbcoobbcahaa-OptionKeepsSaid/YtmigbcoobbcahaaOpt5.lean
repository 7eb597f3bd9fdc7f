/-
  Chapter 25: results that lie in a variable; one step of reading options.
-/
import Derived.Test.YtmigbcoobbcahaaOpt4
namespace Go.Proofs.Ytmigbcoobbcahaa
open Go.RowKit Go.Sort
set_option linter.unusedVariables false

theorem bodyPost_cell4 {P : Program} {fn : Func} {R : Ending → World → Prop} {a : Act} {w : World} {t1 t2 t3 t4 : Tmp} {T : TypeId} {g : Nat} {cs : List Value} {d : TypeDesc}
    (h : fn.results = #[.tmp t1, .tmp t2, .tmp t3, .cell t4 T]) (hp : a.tmps.getD t4 undef = .pointer (some ⟨g, 0, none⟩)) (hc : w.rangeAt g 0 cs) (hu : P.underlying T = some d) (hd : d.isRow = true) (hi : (P.info? T).map (·.size) = some cs.length)
    (hdf : a.defers = []) (hR : R (.returned (.tuple #[a.tmps.getD t1 undef, a.tmps.getD t2 undef, a.tmps.getD t3 undef, .agg cs.toArray])) w) : bodyPost P fn R .ret a w := by
  refine bodyPost_ret ?_ hdf hR
  have hp' : a.tmps[t4]?.getD undef = .pointer (some ⟨g, 0, none⟩) := by simpa using hp
  simp [results, h, hp', asAddr, run_loadVar_mid w g 0 T cs d hc hu hd hi]
theorem bodyPost_cell3 {P : Program} {fn : Func} {R : Ending → World → Prop} {a : Act} {w : World} {t1 t2 t4 : Tmp} {T : TypeId} {g : Nat} {cs : List Value} {d : TypeDesc}
    (h : fn.results = #[.tmp t1, .tmp t2, .cell t4 T]) (hp : a.tmps.getD t4 undef = .pointer (some ⟨g, 0, none⟩)) (hc : w.rangeAt g 0 cs) (hu : P.underlying T = some d) (hd : d.isRow = true) (hi : (P.info? T).map (·.size) = some cs.length)
    (hdf : a.defers = []) (hR : R (.returned (.tuple #[a.tmps.getD t1 undef, a.tmps.getD t2 undef, .agg cs.toArray])) w) : bodyPost P fn R .ret a w := by
  refine bodyPost_ret ?_ hdf hR
  have hp' : a.tmps[t4]?.getD undef = .pointer (some ⟨g, 0, none⟩) := by simpa using hp
  simp [results, h, hp', asAddr, run_loadVar_mid w g 0 T cs d hc hu hd hi]
theorem bodyPost_cell2 {P : Program} {fn : Func} {R : Ending → World → Prop} {a : Act} {w : World} {t1 t4 : Tmp} {T : TypeId} {g : Nat} {cs : List Value} {d : TypeDesc}
    (h : fn.results = #[.tmp t1, .cell t4 T]) (hp : a.tmps.getD t4 undef = .pointer (some ⟨g, 0, none⟩)) (hc : w.rangeAt g 0 cs) (hu : P.underlying T = some d) (hd : d.isRow = true) (hi : (P.info? T).map (·.size) = some cs.length)
    (hdf : a.defers = []) (hR : R (.returned (.tuple #[a.tmps.getD t1 undef, .agg cs.toArray])) w) : bodyPost P fn R .ret a w := by
  refine bodyPost_ret ?_ hdf hR
  have hp' : a.tmps[t4]?.getD undef = .pointer (some ⟨g, 0, none⟩) := by simpa using hp
  simp [results, h, hp', asAddr, run_loadVar_mid w g 0 T cs d hc hu hd hi]

/-- a spot, in memory -/
def spotC (p : Nat × Int) : List Value := [.int .i64 (p.1 : Int), .int .i64 p.2]
/-- a spot is stored in block g -/
theorem wpL_storeS {P : Program} {ops : Array Oper} {rest : List Oper} {o : Oper} {a : Act} {w : World} {Q : Exit → Act → World → Prop} (hgd : o.guard = none) (ty : TypeId) (x y : Operand) (ho : o.op = .store ty x y)
    (g : Nat) (p : Nat × Int) (hx : a.eval x = .pointer (some ⟨g, 0, none⟩)) (hy : a.eval y = .agg (spotC p).toArray) {T : TypeId} {q : Nat × Int} (hg : w.heap[g]? = some (.cells (spotC q).toArray T (0, 0))) (hi : (P.info? ty).map (·.size) = some 2)
    (h : ∀ w1, w1.heap[g]? = some (.cells (spotC p).toArray T (0, 0)) → w.grownBy w1 (some g) → wpList P ops Q rest (a.put o.dst undef) w1) : wpList P ops Q (o :: rest) a w := by
  refine wpList_store_row hgd ty x y ho g (spotC p).toArray hx hy T _ hg hi rfl ?_ (h _ (setRow_heap w g _ _ T _ hg) ⟨rfl, rfl, rfl, by simp [World.setRow], fun k _ hk => setRow_other w g k _ (fun e => hk (by rw [e]))⟩)
  simp only [spotC, List.all_toArray, List.all_cons, List.all_nil, Bool.and_true, Bool.and_eq_true]
  exact ⟨rfl, rfl⟩

theorem Bs.part {w : World} {ad : Option Addr} {n c : Nat} {l : List UInt8} (h : Bs w ad n c l) (i j : Nat) (hij : i ≤ j) (hj : j ≤ n) : Bs w (subAd ad c i 1) (j - i) (c - i) ((l.drop i).take (j - i)) := by
  have := Sl.sub h (l := i) (h := j) hij hj
  have e : ((BV l).drop (i * 1)).take ((j - i) * 1) = BV ((l.drop i).take (j - i)) := by
    simp only [Nat.mul_one]
    unfold BV
    rw [List.map_take, List.map_drop]
  rw [e] at this
  exact this
theorem getN_two_lt (l : List UInt8) (big : Bool) (h : l.length ≤ 2) : getN l big ≤ 65535 := by
  have h1 : ∀ m : List UInt8, m.length ≤ 2 → numBE m ≤ 65535 := fun m hm => by
    have h2 := numBE_lt m
    have h3 : 256 ^ m.length ≤ 256 ^ 2 := Nat.pow_le_pow_right (by omega) hm
    omega
  unfold getN
  split
  · exact h1 _ (by simp; omega)
  · exact h1 _ (by simp; omega)
theorem rows_step (big : Bool) (l : List UInt8) (at_ : Nat) (acc : List OV) (h : at_ < l.length) :
    rowsS big l.length (l.drop at_) at_ acc =
      if l.length - at_ < 4 then ([], 0, false, (at_, 2))
      else if codeOf big (l.drop at_) = 0 ∧ sizeOf2 big (l.drop at_) = 0 then (acc, at_ + 4, true, (0, 0))
      else if codeOf big (l.drop at_) = 0 then ([], 0, false, (at_, 3))
      else if l.length - at_ < 4 + sizeOf2 big (l.drop at_) + padN (sizeOf2 big (l.drop at_)) then ([], 0, false, (at_, 2))
      else rowsS big l.length (l.drop (at_ + (4 + sizeOf2 big (l.drop at_) + padN (sizeOf2 big (l.drop at_))))) (at_ + (4 + sizeOf2 big (l.drop at_) + padN (sizeOf2 big (l.drop at_)))) (acc ++ [((codeOf big (l.drop at_) : Int), ((l.drop at_).drop 4).take (sizeOf2 big (l.drop at_)))]) := by
  have hd : (l.drop at_).length = l.length - at_ := List.length_drop
  rw [rowsS_fuel big l.length ((l.length - 1) + 1) _ _ _ (by omega) (by omega), rowsS, hd, if_neg (by omega)]
  split
  · rfl
  · split
    · rfl
    · split
      · rfl
      · split
        · rfl
        · rw [List.drop_drop]
          exact rowsS_fuel big _ _ _ _ _ (by rw [List.length_drop]; omega) (by rw [List.length_drop]; omega)
theorem rows_end (big : Bool) (l : List UInt8) (at_ : Nat) (acc : List OV) (h : ¬ at_ < l.length) : rowsS big l.length (l.drop at_) at_ acc = (acc, at_, false, (0, 0)) := by
  rw [List.drop_of_length_le (by omega), rowsS_nil]
theorem codeOf_le (big : Bool) (s : List UInt8) : codeOf big s ≤ 65535 := getN_two_lt _ _ (by simp; omega)
theorem sizeOf2_le (big : Bool) (s : List UInt8) : sizeOf2 big s ≤ 65535 := getN_two_lt _ _ (by simp; omega)
end Go.Proofs.Ytmigbcoobbcahaa
