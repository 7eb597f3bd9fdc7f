/-
  'append(s, make([]byte, 4)...)'; appends that leave a block as it is. Over any program.
-/
import Derived.Test.YtmigbcoobbcahaaKit
import Derived.Lib.AppendStr
namespace Go.Proofs.Ytmigbcoobbcahaa
open Go.RowKit Go.Sort
set_option linter.unusedVariables false

def zeros4 : ByteArray := ⟨#[0, 0, 0, 0]⟩
theorem run_append_zeros {P : Program} {w : World} {t ti u ty e : TypeId} {i : TypeInfo} {k : IntKind} (ht : P.underlying t = some (.slice e)) (hti : P.underlying ti = some (.int k)) (hu : P.underlying u = some .string) (hi : P.info? e = some i) (hz : i.zero = some (.int .u8 0)) (hs : i.size = 1) (hb : i.bytes = 1)
    (ad : Option Addr) (n c : Nat) (h63 : n + 4 ≤ 140737488351232) :
    (Builtin.append_ #[t, ti] ty #[.slice ad n c, .int .i64 4]).run P w = (Builtin.append_ #[t, u] ty #[.slice ad n c, .string zeros4]).run P w := by
  have hsz : zeros4.size = 4 := rfl
  have hw : IntKind.i64.wrap 4 = 4 := by decide
  have hzc : Builtin.zeroCells (Value.int IntKind.u8 0).cells 4 = #[.int .u8 0, .int .u8 0, .int .u8 0, .int .u8 0] := by
    apply Array.ext'
    unfold Builtin.zeroCells
    rw [Array.toList_map, Array.toList_range, show (Value.int IntKind.u8 0).cells = #[.int .u8 0] from rfl]
    rfl
  have hfc := fun w' => Lib.run_firstCells_string (P := P) (w := w') 1 zeros4
  have hst : (Lib.strCells zeros4).toArray = #[.int .u8 0, .int .u8 0, .int .u8 0, .int .u8 0] := by rfl
  rw [hst, hsz] at hfc
  by_cases hr : n + 4 ≤ c
  · simp [Builtin.append_, run_underlying ht, run_underlying hti, run_underlying hu, sizeOf, typeInfo, zeroValue, hi, hz, hs, hb, Builtin.lenOf, asInt, asIntOf, hw, hr, hsz, hzc, hfc]
  · have hfit := growslice_fits (bytes := 1) (Nat.lt_of_not_le hr) (by omega)
    have hfit' : ¬ (281474976710656 < Builtin.nextslicecap (n + 4) c) := by omega
    have h63' : ¬ (9223372036854775807 < ((n : Int) + max 4 0)) := by omega
    simp [Builtin.append_, run_underlying ht, run_underlying hti, run_underlying hu, sizeOf, typeInfo, zeroValue, hi, hz, hs, hb, Builtin.lenOf, asInt, asIntOf, hw, hr, hsz, hzc, hfit', h63', hfc, Question.forced]

theorem wpL_append_zeros {P : Program} {w : World} {ops : Array Oper} {rest : List Oper} {o : Oper} {a : Act} {Q : Exit → Act → World → Prop} {t ti u e : TypeId} {k : IntKind} (el : Elem P t e 1 1 (.int .u8 0)) (hti : P.underlying ti = some (.int k)) (hu : P.underlying u = some .string)
    (hgd : Region.wanted o (yielded ops a.tmps) = true) (s x : Operand) (ho : o.op = .call { callee := .builtin .append, args := #[s, x], argTypes := #[t, ti] })
    (base : Nat) {ad : Option Addr} {n c : Nat} {l : List UInt8} (hs : a.eval s = .slice ad n c) (hown : w.ownsRow base e 1 (.slice ad n c) n (BV l)) (hx : a.eval x = .int .i64 4)
    (h63 : n + 4 ≤ 140737488351232) (hbase : base ≤ w.heap.size)
    (h : ∀ ad' c' w', w'.ownsRow base e 1 (.slice ad' (n + 4) c') (n + 4) (BV (l ++ [0, 0, 0, 0])) → w.grownBy w' (Value.ownBlock (.slice ad n c)) → wpList P ops Q rest (a.put o.dst (.slice ad' (n + 4) c')) w') :
    wpList P ops Q (o :: rest) a w := by
  obtain ⟨i, hi, hz, hsize, hby⟩ := info_parts el.info
  obtain ⟨v', w', hr, hown', hgrow, _⟩ := Lib.run_append_own_string (P := P) w base t u o.type e i el.ht hu hi hz hsize hby _ n (BV l) hown zeros4 (by have : zeros4.size = 4 := rfl; unfold maxLen; omega) (by have : zeros4.size = 4 := rfl; omega) hbase
  have h4 : zeros4.size = 4 := rfl
  rw [h4] at hown'
  have e4 : BV l ++ Lib.strCells zeros4 = BV (l ++ [0, 0, 0, 0]) := by rw [BV_append]; rfl
  rw [e4] at hown'
  obtain ⟨ad', c', rfl, _⟩ := own_forms hown'
  rw [← run_append_zeros (ty := o.type) el.ht hti hu hi hz hsize hby ad n c h63] at hr
  refine wpL_run hgd (v := .slice ad' (n + 4) c') (w' := w') ?_ (h ad' c' w' hown' hgrow)
  unfold execOp
  simp only [ho, resolve, invoke, builtin, Sem.run_bind, Sem.run_pure, Result.andThen_ok, List.map_toArray, List.map_cons, List.map_nil, hs, hx, hr]

/-- 'append(s, x...)' of bytes, s the call's own and not in block G: block G stays. -/
theorem wpL_appG {P : Program} {w : World} {ops : Array Oper} {rest : List Oper} {o : Oper} {a : Act} {Q : Exit → Act → World → Prop} {t e : TypeId} {z : Value} (el : Elem P t e 1 1 z)
    (hgd : Region.wanted o (yielded ops a.tmps) = true) (s x : Operand) (ho : o.op = .call { callee := .builtin .append, args := #[s, x], argTypes := #[t, t] })
    (base G : Nat) {ad : Option Addr} {n c : Nat} {l : List UInt8} (hs : a.eval s = .slice ad n c) (hown : w.ownsRow base e 1 (.slice ad n c) n (BV l)) (hG : G < w.heap.size) (hne : ∀ x, ad = some x → x.block ≠ G)
    {ad2 : Option Addr} {m c2 : Nat} {news : List UInt8} (hx : a.eval x = .slice ad2 m c2) (hsl : Bs w ad2 m c2 news)
    (h63 : n + m ≤ 140737488351232) (hbase : base ≤ w.heap.size)
    (h : ∀ ad' c' w', w'.ownsRow base e 1 (.slice ad' (n + m) c') (n + m) (BV (l ++ news)) → Below base w w' → w'.heap[G]? = w.heap[G]? → (∀ x, ad' = some x → x.block ≠ G) →
      wpList P ops Q rest (a.put o.dst (.slice ad' (n + m) c')) w') :
    wpList P ops Q (o :: rest) a w := by
  refine wpL_append el hgd s x ho base hs hown hx hsl (BV_one _) (by unfold maxLen; omega) (by omega) hbase fun ad' c' w' ho' hg' hat _ => h ad' c' w' ?_ ?_ ?_ ?_
  · rw [BV_append]; exact ho'
  · exact (Below.refl base w).grown hg' hbase (ownBlock_ge hown)
  · refine hg'.block G hG fun e => ?_
    rcases own_form hown with ⟨rfl, _⟩ | ⟨g, rfl, _⟩
    · simp [Value.ownBlock] at e
    · simp [Value.ownBlock] at e
      exact hne _ rfl e.symm
  · intro x hx
    rcases hat with rfl | rfl
    · exact hne x hx
    · cases hx
      show w.heap.size ≠ G
      omega
end Go.Proofs.Ytmigbcoobbcahaa
