/-
  Laws of single operations as steps of a region that draws its order.
-/
import Derived.Test.YtmigbcoobbcahaaCarry
import Derived.Deep.RegionHeld3
import Derived.Deep.WholeRow
namespace Go.Proofs.Ytmigbcoobbcahaa
open Go.RowKit Go.Sort
set_option linter.unusedVariables false

theorem step_run {P : Program} {w w' : World} {ops : Array Oper} {o : Oper} {a : Act} {K : Act → World → Prop} {Q : Exit → Act → World → Prop} {E : Prop} (hgd : Region.wanted o (yielded ops a.tmps) = true) {v : Value}
    (hrun : (execOp a.eval o).run P w = .ok (.value v) w') (h : K (a.put o.dst v) w') : if Region.wanted o (yielded ops a.tmps) = true then Oper.wp P o a w K Q else E := by
  rw [if_pos hgd]
  unfold Oper.wp
  rw [hrun]
  exact h

/-- 'append(s, x...)', s the call's own (or nil), x whatever: a step. -/
theorem step_append {P : Program} {w : World} {ops : Array Oper} {o : Oper} {a : Act} {K : Act → World → Prop} {Q : Exit → Act → World → Prop} {E : Prop} {t e : TypeId} {size bytes : Nat} {z : Value} (el : Elem P t e size bytes z)
    (hgd : Region.wanted o (yielded ops a.tmps) = true) (s x : Operand) (ho : o.op = .call { callee := .builtin .append, args := #[s, x], argTypes := #[t, t] })
    (base : Nat) {ad : Option Addr} {n c : Nat} {xs : List Value} (hs : a.eval s = .slice ad n c) (hown : w.ownsRow base e size (.slice ad n c) n xs)
    {ad2 : Option Addr} {m c2 : Nat} {news : List Value} (hx : a.eval x = .slice ad2 m c2) (hsl : Sl w ad2 m c2 size news) (h1 : ∀ u ∈ news, u.oneCell' = true)
    (h63 : n + m ≤ maxLen) (hbytes : (n + m) * bytes ≤ 140737488355328) (hbase : base ≤ w.heap.size)
    (h : ∀ ad' c' w', w'.ownsRow base e size (.slice ad' (n + m) c') (n + m) (xs ++ news) → w.grownBy w' (Value.ownBlock (.slice ad n c)) →
      (ad' = ad ∨ ad' = some ⟨w.heap.size, 0, none⟩) → (ad' = none ↔ ad = none ∧ m = 0) → K (a.put o.dst (.slice ad' (n + m) c')) w') :
    if Region.wanted o (yielded ops a.tmps) = true then Oper.wp P o a w K Q else E := by
  obtain ⟨ad', c', w', hr, h2, h3, h4, h5⟩ := run_append (P := P) (ty := o.type) el base hown hsl h1 h63 hbytes hbase
  refine step_run hgd (v := .slice ad' (n + m) c') (w' := w') ?_ (h ad' c' w' h2 h3 h4 h5)
  unfold execOp
  simp only [ho, resolve, invoke, builtin, Sem.run_bind, Sem.run_pure, Result.andThen_ok, List.map_toArray, List.map_cons, List.map_nil, hs, hx, hr]

theorem grown_alloc (w : World) (o : Obj) (row : Option Nat) : w.grownBy (w.alloc o) row := ⟨rfl, rfl, rfl, by simp, fun k hk _ => Below.heap_alloc w o k hk⟩
/-- 'append(s, v)', s the call's own, v laid as a literal of one element: what owned goes on owning, below B nothing has changed. -/
theorem wpL_push {P : Program} {w : World} {ops : Array Oper} {rest : List Oper} {o : Oper} {a : Act} {Q : Exit → Act → World → Prop} {t e : TypeId} {size bytes : Nat} {z : Value} (el : Elem P t e size bytes z)
    (hgd : Region.wanted o (yielded ops a.tmps) = true) (s x : Operand) (ho : o.op = .call { callee := .builtin .append, args := #[s, x], argTypes := #[t, t] })
    (base : Nat) {ad : Option Addr} {n c : Nat} {xs : List Value} (hs : a.eval s = .slice ad n c) (hown : w.ownsRow base e size (.slice ad n c) n xs)
    (cs : Array Value) {b e' : Nat} (m : Nat) (hx : a.eval x = .slice (some ⟨b, 0, none⟩) m m) (hb : b = w.heap.size) (hcs : cs.size = m * size) (h1 : ∀ u ∈ cs.toList, u.oneCell' = true) (hm : m ≤ 1000000)
    (h63 : n ≤ 140737488000000) (hbytes : (n + m) * bytes ≤ 140737488355328) (hbase : base ≤ w.heap.size) {B : Nat} {W : World} (hB : Below B W w) (hBb : B ≤ base)
    (h : ∀ ad' c' w', w'.ownsRow base e size (.slice ad' (n + m) c') (n + m) (xs ++ cs.toList) → Below B W w' → w.grownBy w' (Value.ownBlock (.slice ad n c)) → wpList P ops Q rest (a.put o.dst (.slice ad' (n + m) c')) w') :
    wpList P ops Q (o :: rest) a (w.alloc (.cells cs e')) := by
  subst hb
  refine wpL_append el hgd s x ho base hs (hown.alloc _) hx (Sl.lit w cs e' m size hcs (by unfold maxLen; omega)) h1 (by unfold maxLen; omega) hbytes (by simp; omega) ?_
  intro ad' c' w' h2 h3 h4 h5
  have hz : w.heap.size ≤ (w.alloc (.cells cs e')).heap.size := by simp
  refine h ad' c' w' h2 ((hB.alloc (by omega) _).grown h3 (by simp; omega) (fun k hk => Nat.le_trans hBb (ownBlock_ge hown k hk))) ?_
  exact World.grownBy.trans (grown_alloc w _ _) h3

theorem range_below {w w' : World} {b o : Nat} {cs : List Value} {B : Nat} (h : w.rangeAt b o cs) (hb : b < B) (hw : Below B w w') : w'.rangeAt b o cs :=
  fun j v hv => (hw.cell (p := ⟨b, o + j, none⟩) hb).trans (h j v hv)
theorem own_lit {v : World} {base b : Nat} {e : TypeId} (cs : Array Value) (size n : Nat) (hb : b = v.heap.size) (hbase : base ≤ v.heap.size) (hs : cs.size = n * size) (hn : n ≤ 1000000) : (v.alloc (.cells cs e)).ownsRow base e size (.slice (some ⟨b, 0, none⟩) n n) n cs.toList := by
  subst hb
  exact World.ownsRow_lit v cs n hbase (by unfold maxLen; omega) hs

/-- 'x := T{..}' of a variable that lies in memory: a new block, and the cells stored into it. -/
theorem wpL_new {P : Program} {w : World} {ops : Array Oper} {rest : List Oper} {o1 o2 : Oper} {a : Act} {Q : Exit → Act → World → Prop} (hg1 : o1.guard = none) (hg2 : o2.guard = none) (T : TypeId) (ho1 : o1.op = .alloc T) (x y : Operand) (ho2 : o2.op = .store T x y)
    (cs zs : Array Value) (hi : (P.info? T).map (fun i => (i.zero, i.size)) = some (some (.agg zs), cs.size)) (hz : zs.size = cs.size) (h1 : cs.all (·.oneCell') = true)
    (hx : ∀ p, (a.put o1.dst p).eval x = p) (hy : ∀ p, (a.put o1.dst p).eval y = .agg cs)
    (h : wpList P ops Q rest ((a.put o1.dst (.pointer (some ⟨w.heap.size, 0, none⟩))).put o2.dst undef) (w.alloc (.cells cs T))) :
    wpList P ops Q (o1 :: o2 :: rest) a w := by
  obtain ⟨hz0, hsz⟩ := zero_of_info hi
  refine wpL_run (v := .pointer (some ⟨w.heap.size, 0, none⟩)) (w' := w.alloc (.cells zs T)) (by simp [Region.wanted, hg1]) ?_ ?_
  · simp [execOp, ho1, Instr.alloc, hz0, newVar, newRow, Value.cells]
  · refine wpList_store_row hg2 T x y ho2 w.heap.size cs (hx _) (hy _) T zs (heap_alloc_last w _) hsz hz h1 ?_
    rw [World.setRow_alloc_new]
    exact h

end Go.Proofs.Ytmigbcoobbcahaa
