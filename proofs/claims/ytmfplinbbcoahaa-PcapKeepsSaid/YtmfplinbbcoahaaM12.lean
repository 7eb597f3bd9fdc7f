/-
  Joined by program (merge.py): OpenBlks.
-/
import Derived.Test.YtmfplinbbcoahaaM5
import Derived.Test.YtmfplinbbcoahaaM11
set_option linter.unusedVariables false
set_option linter.unusedSimpArgs false
set_option maxRecDepth 100000
set_option maxHeartbeats 16000000
namespace Go.Proofs.Ytmfplinbbcoahaa
open Go.RowKit Go.Sort
open Go.ChangeAt Go.ChangeShapes Go.WideShapes
theorem Sl.of_row {k : IntKind} {w : World} {a : Option Addr} {len cap : Nat} {zs : List Int}
    (h : (a = none ∧ len = 0 ∧ cap = 0 ∧ zs = []) ∨ ∃ x, a = some x ∧ len ≤ cap ∧ cap ≤ maxLen ∧ zs.length = cap ∧ (∀ i, i < zs.length → w.cell? (x.add i) = some (.int k (zs.getD i 0))) ∧ ∀ n ∈ zs, (Lit.int k n).wf = true) :
    Sl w a len cap 1 ((zs.take len).map (Value.int k)) := by
  rcases h with ⟨rfl, rfl, rfl, rfl⟩ | ⟨x, rfl, hlc, hcm, hl, hc, _⟩
  · exact Sl.nil w 1
  · refine ⟨by simp; omega, hlc, hcm, by simp, fun j u hj => ⟨x, rfl, ?_⟩⟩
    simp only [List.getElem?_map, List.getElem?_take] at hj
    by_cases hlt : j < len
    · rw [if_pos hlt, List.getElem?_eq_getElem (by omega)] at hj
      simp at hj
      subst hj
      rw [hc j (by omega)]
      simp [List.getD, List.getElem?_eq_getElem (show j < zs.length by omega)]
    · rw [if_neg hlt] at hj
      simp at hj
theorem mapM_get {f : Nat → Option Value} : ∀ (n m : Nat) (cs : List Value), (List.range' m n).mapM f = some cs → ∀ j u, cs[j]? = some u → f (m + j) = some u
  | 0, m, cs, h, j, u, hj => by
    simp at h
    subst h
    simp at hj
  | n + 1, m, cs, h, j, u, hj => by
    rw [List.range'_succ, List.mapM_cons] at h
    obtain ⟨x, hx, h⟩ := Option.bind_eq_some_iff.1 h
    obtain ⟨ys, hy, h⟩ := Option.bind_eq_some_iff.1 h
    simp at h
    subst h
    cases j with
    | zero => simp at hj; subst hj; exact hx
    | succ j =>
      have := mapM_get n (m + 1) ys hy j u (by simpa using hj)
      rw [show m + (j + 1) = m + 1 + j by omega]
      exact this
theorem cells_each {w : World} {b n : Nat} {a : Addr} {cs : List Value} (h : w.cells? b a n = some cs) : ∀ j u, cs[j]? = some u → w.cell? (a.add j) = some u := by
  unfold World.cells? at h
  split at h
  · rw [List.range_eq_range'] at h
    intro j u hj
    have := mapM_get n 0 cs h j u hj
    rwa [Nat.zero_add] at this
  · cases h
section
variable {H : Type} {enc : TypeId × Value → H} {w : World} {base : Nat} {spare : Nat → Bool} {held : Bool}
theorem open_blks {fuel : Nat} {cs : List Value} {x : DataW H × List MemPlace} (h : DataW.trod enc Try.prog w base spare held fuel 44 cs = some x) :
    ∃ (a : Option Addr) (len cap : Nat) (vs : List BlkV), cs = [.slice a len cap] ∧ Blks w a len cap vs ∧ ∀ v ∈ vs, wfB v.val := by
  rcases DataW.trod_slice Try.underlying44 h with ⟨rfl, _⟩ | ⟨ad, ln, cap, elems, rest, n, _, rfl, rfl, hb, hl, hm, hlen, hel, hsp, hns⟩
  · exact ⟨none, 0, 0, [], rfl, Blks.nil w, fun o ho => by cases ho⟩
  · have hc : Try.prog.cellsOf 27 = 11 := by kernel_rfl
    rw [hc] at hel
    have hos : ∀ i, i < ln → ∃ v : BlkV, (∀ j u, v.cells[j]? = some u → w.cell? ((ad.add (i * 11)).add j) = some u) ∧ Blk w v ∧ wfB v.val := by
      intro i hi
      have hy := hel i hi
      rw [List.getElem?_eq_getElem (by omega)] at hy
      obtain ⟨cs, hcs, hy⟩ := Option.bind_eq_some_iff.1 hy
      obtain ⟨v, rfl, hbv, hwv, _⟩ := trod_blk hy
      exact ⟨v, cells_each hcs, hbv, hwv⟩
    obtain ⟨vs, hl2, hos⟩ := choose_list ln hos
    refine ⟨some ad, ln, cap, vs, rfl, ⟨⟨by rw [bcells_length]; omega, hl, hm, by simp, fun j u hj => ⟨_, rfl, ?_⟩⟩, fun v hv => ?_⟩, fun v hv => ?_⟩
    · have hjl : j < vs.length * 11 := by have := (List.getElem?_eq_some_iff.1 hj).1; rwa [bcells_length] at this
      have hg := bcells_get vs (j / 11) (j % 11) (by omega) (Nat.mod_lt _ (by omega))
      rw [show j / 11 * 11 + j % 11 = j by omega, hj] at hg
      have := (hos (j / 11) (by omega)).1 (j % 11) u hg.symm
      have ea : ad.add j = (ad.add (j / 11 * 11)).add (j % 11) := by
        rw [add_add (w := w) ad (j / 11 * 11) (j % 11) (u := u)]
        · exact congrArg _ (by omega)
        · have e2 : (ad.add (j / 11 * 11)).add (j % 11) = ad.add (j / 11 * 11 + j % 11) := by
            unfold Addr.add
            by_cases h1 : j / 11 * 11 = 0
            · simp [h1]
            · by_cases h2 : j % 11 = 0
              · simp [h2]
              · simp [h1, h2, Nat.add_assoc]
          rw [← e2]
          exact this
      rw [ea]
      exact this
    · obtain ⟨i, hi, rfl⟩ := List.getElem_of_mem hv
      exact (hos i hi).2.1
    · obtain ⟨i, hi, rfl⟩ := List.getElem_of_mem hv
      exact (hos i hi).2.2
end
end Go.Proofs.Ytmfplinbbcoahaa
