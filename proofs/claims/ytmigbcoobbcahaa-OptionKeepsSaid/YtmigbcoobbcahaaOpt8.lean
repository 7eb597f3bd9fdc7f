/-
  Chapter 25: spots compared; what Read, Rows answer, walked.
-/
import Derived.Test.YtmigbcoobbcahaaOpt7
import Derived.Laws.StructEq
namespace Go.Proofs.Ytmigbcoobbcahaa
open Go.RowKit Go.Sort
set_option linter.unusedVariables false
set_option linter.unusedSimpArgs false

theorem equal_spot (p q : Nat × Int) (w : World) : (Go.Op.equalIn 10000 33 (.agg (spotC p).toArray) (.agg (spotC q).toArray)).run Try.prog w = .ok (decide (p = q)) w := by
  obtain ⟨a, b⟩ := p
  obtain ⟨c, d⟩ := q
  rw [run_equalIn_agg (P := Try.prog) w 9999 33 _ _ (by kernel_rfl) (by kernel_rfl), show (Try.prog.fieldsOf 33).toList = _ from by rw [Program.fieldsOf, Try.underlying33]]
  simp [Op.eqFields, spotC, go_sem, part, isAgg, run_underlying Try.underlying3, run_underlying Try.underlying26, Try.underlying3, Try.underlying26]
  have e : ((a : Int) = (c : Int)) ↔ a = c := by omega
  by_cases h1 : a = c <;> by_cases h2 : b = d <;> simp [h1, h2, e]
theorem wpL_eqS {ops : Array Oper} {rest : List Oper} {o : Oper} {a : Act} {w : World} {Q : Exit → Act → World → Prop} (p q : Nat × Int) (b : Bool) (hb : b = decide (p = q)) (hgd : Region.wanted o (yielded ops a.tmps) = true) (x y : Operand) (ho : o.op = .binOp .eql 33 x y 33)
    (hx : a.eval x = .agg (spotC p).toArray) (hy : a.eval y = .agg (spotC q).toArray) (h : wpList Try.prog ops Q rest (a.put o.dst (.bool b)) w) : wpList Try.prog ops Q (o :: rest) a w := by
  subst hb
  refine wpL_run hgd (v := .bool (decide (p = q))) (w' := w) ?_ h
  have hgd := run_eqGuard_agg (P := Try.prog) w .eql 33 x y (spotC p).toArray (spotC q).toArray (by kernel_rfl)
  have hes := run_eql_struct (P := Try.prog) w 33 (spotC p).toArray (spotC q).toArray
  rw [equal_spot] at hes
  simp only [execOp, ho, hx, hy, Sem.run_bind, hgd, hes, Result.andThen_ok, Sem.run_pure]
theorem wpL_neS {ops : Array Oper} {rest : List Oper} {o : Oper} {a : Act} {w : World} {Q : Exit → Act → World → Prop} (p q : Nat × Int) (b : Bool) (hb : b = !decide (p = q)) (hgd : Region.wanted o (yielded ops a.tmps) = true) (x y : Operand) (ho : o.op = .binOp .neq 33 x y 33)
    (hx : a.eval x = .agg (spotC p).toArray) (hy : a.eval y = .agg (spotC q).toArray) (h : wpList Try.prog ops Q rest (a.put o.dst (.bool b)) w) : wpList Try.prog ops Q (o :: rest) a w := by
  subst hb
  refine wpL_run hgd (v := .bool (!decide (p = q))) (w' := w) ?_ h
  have hgd := run_eqGuard_agg (P := Try.prog) w .neq 33 x y (spotC p).toArray (spotC q).toArray (by kernel_rfl)
  have hes := run_neq_struct (P := Try.prog) w 33 (spotC p).toArray (spotC q).toArray
  rw [equal_spot] at hes
  simp only [execOp, ho, hx, hy, Sem.run_bind, hgd, hes, Result.andThen_ok, Sem.run_pure]
end Go.Proofs.Ytmigbcoobbcahaa
