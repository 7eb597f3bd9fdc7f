/-
  A slice of options that came in, opened.
-/
import Derived.Test.YtmigbcoobbcahaaOpts
namespace Go.Proofs.Ytmigbcoobbcahaa
open Go.RowKit Go.Sort
open Go.ChangeAt Go.ChangeShapes Go.WideShapes
set_option linter.unusedVariables false
section
variable {H : Type} {enc : TypeId × Value → H} {w : World} {base : Nat} {spare : Nat → Bool} {held : Bool}
theorem trod_opt {fuel : Nat} {x y : Value} {r : DataW H × List MemPlace} (h : DataW.trod enc Try.prog w base spare held fuel 43 [x, y] = some r) :
    ∃ o : OptV, [x, y] = o.cells ∧ Bs w o.ad o.n o.c o.l ∧ (Lit.int .i64 o.code).wf = true := by
  obtain ⟨hl, f, hf⟩ := trod_struct Try.underlying43 h
  have hc1 : Try.prog.cellsOf 3 = 1 := by kernel_rfl
  have hc2 : Try.prog.cellsOf 25 = 1 := by kernel_rfl
  simp only [List.mem_cons, List.not_mem_nil, or_false, forall_eq_or_imp, forall_eq, hc1, hc2] at hf
  obtain ⟨⟨y1, h1⟩, ⟨y2, h2⟩⟩ := hf
  simp only [List.drop_zero, List.take_succ_cons, List.take_zero, List.drop_succ_cons] at h1 h2
  obtain ⟨n, rfl, hw⟩ := trod_int Try.underlying3 h1
  obtain ⟨ad, k, c, l, rfl, hb⟩ := trod_bslice Try.underlying25 Try.underlying5 (by kernel_rfl) h2
  exact ⟨⟨n, ad, k, c, l⟩, rfl, hb, hw⟩
theorem open_opts {fuel : Nat} {cs : List Value} {x : DataW H × List MemPlace} (h : DataW.trod enc Try.prog w base spare held fuel 22 cs = some x) :
    ∃ (a : Option Addr) (len cap : Nat) (os : List OptV), cs = [.slice a len cap] ∧ Ops w a len cap os ∧ ∀ o ∈ os, (Lit.int .i64 o.code).wf = true := by
  rcases DataW.trod_slice Try.underlying22 h with ⟨rfl, _⟩ | ⟨ad, ln, cap, elems, rest, n, _, rfl, rfl, hb, hl, hm, hlen, hel, hsp, hns⟩
  · exact ⟨none, 0, 0, [], rfl, ⟨Sl.nil w 2, fun o ho => by cases ho⟩, fun o ho => by cases ho⟩
  · have hc2 : Try.prog.cellsOf 43 = 2 := by kernel_rfl
    rw [hc2] at hel
    have hos : ∀ i, i < ln → ∃ o : OptV, w.cell? (ad.add (i * 2)) = some (.int .i64 o.code) ∧ w.cell? ((ad.add (i * 2)).add 1) = some (.slice o.ad o.n o.c) ∧ Bs w o.ad o.n o.c o.l ∧ (Lit.int .i64 o.code).wf = true := by
      intro i hi
      have hy := hel i hi
      rw [List.getElem?_eq_getElem (by omega)] at hy
      obtain ⟨cs, hcs, hy⟩ := Option.bind_eq_some_iff.1 hy
      obtain ⟨p, q, rfl, hp, hq⟩ := cells_two hcs
      obtain ⟨o, ho, hb, hw⟩ := trod_opt hy
      simp [OptV.cells] at ho
      obtain ⟨rfl, rfl⟩ := ho
      exact ⟨o, hp, hq, hb, hw⟩
    obtain ⟨os, hl2, hos⟩ := choose_list ln hos
    refine ⟨some ad, ln, cap, os, rfl, ⟨⟨by rw [ocells_length]; omega, hl, hm, by simp, fun j u hj => ⟨_, rfl, ?_⟩⟩, fun o ho => ?_⟩, fun o ho => ?_⟩
    · have hjl : j < 2 * os.length := by have := (List.getElem?_eq_some_iff.1 hj).1; rwa [ocells_length] at this
      obtain ⟨g1, g2⟩ := ocells_get os (j / 2) (by omega)
      obtain ⟨q1, q2, _⟩ := hos (j / 2) (by omega)
      rcases Nat.mod_two_eq_zero_or_one j with e | e
      · rw [show j = 2 * (j / 2) by omega, g1] at hj
        cases hj
        have ea : ad.add j = ad.add (j / 2 * 2) := congrArg _ (by omega)
        rw [ea]
        exact q1
      · rw [show j = 2 * (j / 2) + 1 by omega, g2] at hj
        cases hj
        have ea : ad.add j = (ad.add (j / 2 * 2)).add 1 := by
          rw [show (ad.add (j / 2 * 2)).add 1 = ad.add (j / 2 * 2 + 1) by simp [Addr.add]; split <;> simp_all [Nat.add_assoc]]
          exact congrArg _ (by omega)
        rw [ea]
        exact q2
    · obtain ⟨i, hi, rfl⟩ := List.getElem_of_mem ho
      exact (hos i hi).2.2.1
    · obtain ⟨i, hi, rfl⟩ := List.getElem_of_mem ho
      exact (hos i hi).2.2.2
end
end Go.Proofs.Ytmigbcoobbcahaa
