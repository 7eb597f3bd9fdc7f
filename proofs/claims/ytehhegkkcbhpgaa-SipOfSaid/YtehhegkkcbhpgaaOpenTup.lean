/-
  A tuple that came in, opened.
-/
import Derived.Test.YtehhegkkcbhpgaaOpen
import Derived.Test.YtehhegkkcbhpgaaSip11
namespace Go.Proofs.Ytehhegkkcbhpgaa
open Go.RowKit Go.Sort
set_option linter.unusedVariables false
section
variable {H : Type} {enc : TypeId × Value → H} {w : World} {base : Nat} {spare : Nat → Bool} {held : Bool}
theorem trod_addr {fuel : Nat} {cs : List Value} {x : DataW H × List MemPlace} (h : DataW.trod enc Try.prog w base spare held fuel 32 cs = some x) : ∃ b, ∃ l : List UInt8, l.length = 16 ∧ cs = .bool b :: BV l := by
  obtain ⟨hl, f, hf⟩ := trod_struct Try.underlying32 h
  have hc : Try.prog.cellsOf 32 = 17 := by kernel_rfl
  have hc1 : Try.prog.cellsOf 4 = 1 := by kernel_rfl
  have hc2 : Try.prog.cellsOf 22 = 16 := by kernel_rfl
  have hc3 : Try.prog.cellsOf 5 = 1 := by kernel_rfl
  simp only [List.mem_cons, List.not_mem_nil, or_false, forall_eq_or_imp, forall_eq, hc1, hc2] at hf
  obtain ⟨⟨y1, h1⟩, ⟨y2, h2⟩⟩ := hf
  rw [hc] at hl
  rw [List.drop_zero] at h1
  cases cs with
  | nil => simp at hl
  | cons c cs =>
    rw [List.take_succ_cons, List.take_zero] at h1
    obtain ⟨b, rfl⟩ := trod_bool Try.underlying4 h1
    rw [List.drop_succ_cons, List.drop_zero] at h2
    obtain ⟨l, hll, hcl⟩ := trod_bytes Try.underlying22 Try.underlying5 hc3 hc2 h2
    refine ⟨b, l, hll, ?_⟩
    rw [← hcl, List.take_of_length_le (by simp at hl; omega)]
theorem open_tup {r : Reach} {b0 : Nat} {v : Value} {d : DataW H} {ps : List MemPlace} (hv : Value.okWide Try.prog w r b0 34 v) (h : DataW.Trod enc Try.prog w base spare held 34 v d ps) :
    ∃ t : Tup, v = .agg t.cells.toArray ∧ t.ok ∧ t.wf := by
  have hc : Try.prog.cellsOf 34 = 37 := by kernel_rfl
  have hc1 : Try.prog.cellsOf 32 = 17 := by kernel_rfl
  have hc2 : Try.prog.cellsOf 3 = 1 := by kernel_rfl
  simp only [Value.okWide, Try.underlying34] at hv
  obtain ⟨cs, rfl, hsz, _⟩ := hv
  obtain ⟨fuel, hf⟩ := h
  obtain ⟨hl, f, hf⟩ := trod_struct Try.underlying34 hf
  simp only [Value.cells, List.mem_cons, List.not_mem_nil, or_false, forall_eq_or_imp, forall_eq, hc1, hc2] at hf
  obtain ⟨⟨y1, h1⟩, ⟨y2, h2⟩, ⟨y3, h3⟩, ⟨y4, h4⟩, ⟨y5, h5⟩⟩ := hf
  simp only [Value.cells] at hl
  rw [hc] at hl
  obtain ⟨L, hL⟩ : ∃ L, L = cs.toList := ⟨_, rfl⟩
  have hcs : cs = L.toArray := by rw [hL]
  rw [← hL] at hl h1 h2 h3 h4 h5
  rw [take_one_of (show 34 < L.length by omega)] at h3
  rw [take_one_of (show 35 < L.length by omega)] at h4
  rw [take_one_of (show 36 < L.length by omega)] at h5
  obtain ⟨b1, l1, hl1, e1⟩ := trod_addr h1
  obtain ⟨b2, l2, hl2, e2⟩ := trod_addr h2
  obtain ⟨p, e3, w3⟩ := trod_int Try.underlying3 h3
  obtain ⟨s, e4, w4⟩ := trod_int Try.underlying3 h4
  obtain ⟨q, e5, w5⟩ := trod_int Try.underlying3 h5
  refine ⟨⟨b1, l1, b2, l2, p, s, q⟩, ?_, ⟨hl1, hl2⟩, ⟨w3, w4, w5⟩⟩
  rw [hcs]
  congr 2
  have k1 : L = L.take 17 ++ ((L.drop 17).take 17 ++ L.drop 34) := by
    rw [show L.drop 34 = (L.drop 17).drop 17 by rw [List.drop_drop], List.take_append_drop, List.take_append_drop]
  have k2 : L.drop 34 = [L[34], L[35], L[36]] := by
    rw [List.drop_eq_getElem_cons (show 34 < L.length by omega), List.drop_eq_getElem_cons (show 35 < L.length by omega), List.drop_eq_getElem_cons (show 36 < L.length by omega), List.drop_of_length_le (by omega)]
  rw [List.drop_zero] at e1
  rw [e1, e2, k2, e3, e4, e5] at k1
  rw [k1]
  simp [Tup.cells]
end
end Go.Proofs.Ytehhegkkcbhpgaa
