/-
  Options in memory: a slice of them, and what came in, opened.
-/
import Derived.Test.YtmigbcoobbcahaaOpen
import Derived.Test.YtmigbcoobbcahaaOctet
import Derived.Test.YtmigbcoobbcahaaPlainOpt
import Derived.ChangeSlices
namespace Go.Proofs.Ytmigbcoobbcahaa
open Go.RowKit Go.Sort
open Go.ChangeShapes (open_ints)
set_option linter.unusedVariables false

/-- an option in memory -/
structure OptV where
  code : Int
  ad : Option Addr
  n : Nat
  c : Nat
  l : List UInt8
def OptV.cells (o : OptV) : List Value := [.int .i64 o.code, .slice o.ad o.n o.c]
def OptV.val (o : OptV) : OV := (o.code, o.l)
def ocells (os : List OptV) : List Value := os.flatMap OptV.cells
def vals (os : List OptV) : List OV := os.map OptV.val
def Ops (w : World) (ad : Option Addr) (n c : Nat) (os : List OptV) : Prop := Sl w ad n c 2 (ocells os) ∧ ∀ o ∈ os, Bs w o.ad o.n o.c o.l

theorem ocells_length (os : List OptV) : (ocells os).length = 2 * os.length := by
  induction os with
  | nil => rfl
  | cons o os ih => simp only [ocells, List.flatMap_cons, List.length_append, OptV.cells, List.length_cons, List.length_nil] at *; omega
theorem ocells_append (os ps : List OptV) : ocells (os ++ ps) = ocells os ++ ocells ps := by simp [ocells]
theorem ocells_one (os : List OptV) : ∀ u ∈ ocells os, u.oneCell' = true := by
  intro u hu
  obtain ⟨o, _, h⟩ := List.mem_flatMap.1 hu
  simp [OptV.cells] at h
  rcases h with rfl | rfl <;> rfl
theorem ocells_get : ∀ (os : List OptV) (j : Nat) (h : j < os.length), (ocells os)[2 * j]? = some (.int .i64 os[j].code) ∧ (ocells os)[2 * j + 1]? = some (.slice os[j].ad os[j].n os[j].c)
  | o :: os, 0, _ => by simp [ocells, OptV.cells]
  | o :: os, j + 1, h => by
    have := ocells_get os j (by simpa using h)
    have e : ocells (o :: os) = .int .i64 o.code :: .slice o.ad o.n o.c :: ocells os := by simp [ocells, OptV.cells]
    rw [e, show 2 * (j + 1) = (2 * j + 1) + 1 by omega, show (2 * j + 1) + 1 + 1 = (2 * j + 1 + 1) + 1 by omega]
    simpa using this
theorem vals_length (os : List OptV) : (vals os).length = os.length := by simp [vals]
theorem vals_append (os ps : List OptV) : vals (os ++ ps) = vals os ++ vals ps := by simp [vals]

theorem Ops.len {w : World} {ad : Option Addr} {n c : Nat} {os : List OptV} (h : Ops w ad n c os) : n = os.length := by have := h.1.len; rw [ocells_length] at this; omega
theorem Ops.le {w : World} {ad : Option Addr} {n c : Nat} {os : List OptV} (h : Ops w ad n c os) : n ≤ c ∧ c ≤ 9223372036854775807 := ⟨h.1.2.1, by have := h.1.2.2.1; simp [maxLen] at this; omega⟩
theorem Ops.below {w w' : World} {ad : Option Addr} {n c : Nat} {os : List OptV} (h : Ops w ad n c os) (hb : Below w.heap.size w w') : Ops w' ad n c os := ⟨h.1.below hb, fun o ho => (h.2 o ho).below hb⟩
/-- the option at j -/
theorem Ops.at {w : World} {ad : Option Addr} {n c : Nat} {os : List OptV} (h : Ops w ad n c os) {j : Nat} (hj : j < os.length) :
    ∃ b off, ad = some ⟨b, off, none⟩ ∧ b < w.heap.size ∧ ∀ i (hi : i < os.length), w.cell? ⟨b, off + i * 2, none⟩ = some (.int .i64 os[i].code) ∧ w.cell? ⟨b, off + i * 2 + 1, none⟩ = some (.slice os[i].ad os[i].n os[i].c) ∧ Bs w os[i].ad os[i].n os[i].c os[i].l := by
  obtain ⟨b, off, ha, hb, hc⟩ := Sl.at h.1 (j := 2 * j) (by rw [ocells_length]; omega)
  refine ⟨b, off, ha, hb, fun i hi => ?_⟩
  obtain ⟨g1, g2⟩ := ocells_get os i hi
  obtain ⟨q1, e1⟩ := List.getElem?_eq_some_iff.1 g1
  obtain ⟨q2, e2⟩ := List.getElem?_eq_some_iff.1 g2
  refine ⟨?_, ?_, h.2 _ (List.getElem_mem hi)⟩
  · rw [Nat.mul_comm, hc (2 * i) q1, e1]
  · rw [Nat.add_assoc, Nat.mul_comm, hc (2 * i + 1) q2, e2]

theorem choose_list {α : Type} {P : Nat → α → Prop} : ∀ n : Nat, (∀ i, i < n → ∃ x, P i x) → ∃ l : List α, l.length = n ∧ ∀ i (h : i < l.length), P i l[i]
  | 0, _ => ⟨[], rfl, fun i h => by cases h⟩
  | n + 1, h => by
    obtain ⟨l, hl, hp⟩ := choose_list n (fun i hi => h i (by omega))
    obtain ⟨x, hx⟩ := h n (by omega)
    refine ⟨l ++ [x], by simp [hl], fun i hi => ?_⟩
    simp only [List.length_append, List.length_cons, List.length_nil] at hi
    by_cases e : i < l.length
    · rw [List.getElem_append_left e]; exact hp i e
    · obtain rfl : i = n := by omega
      rw [List.getElem_append_right (by omega)]
      simpa [hl] using hx

section
variable {H : Type} {enc : TypeId × Value → H} {P : Program} {w : World} {base : Nat} {spare : Nat → Bool} {held : Bool}
/-- a slice of bytes, in a cell -/
theorem trod_bslice {t e : TypeId} {fuel : Nat} {c : Value} {x : DataW H × List MemPlace} (ht : P.underlying t = some (.slice e)) (he : P.underlying e = some (.int .u8)) (hce : P.cellsOf e = 1)
    (h : DataW.trod enc P w base spare held fuel t [c] = some x) : ∃ ad n cap, ∃ l : List UInt8, c = .slice ad n cap ∧ Bs w ad n cap l := by
  rcases open_ints ht he hce h with ⟨hcs, _⟩ | ⟨a, l, cp, zs, hcs, _, hl, hm, hz, _, hcell, hwz⟩
  · simp at hcs
    subst hcs
    exact ⟨none, 0, 0, [], rfl, Sl.nil w 1⟩
  · simp at hcs
    subst hcs
    refine ⟨some a, l, cp, ofInts (zs.take l), rfl, ?_⟩
    have hzl : l ≤ zs.length := by rw [hz]; split <;> omega
    unfold Bs
    rw [BV_ofInts fun n hn => hwz n (List.mem_of_mem_take hn)]
    refine ⟨by simp [hzl], hl, hm, by simp, fun j u hj => ⟨_, rfl, ?_⟩⟩
    have hjl : j < l := by have := (List.getElem?_eq_some_iff.1 hj).1; simp at this; omega
    rw [hcell j (by omega), ← hj]
    simp [hjl, List.getD_eq_getElem?_getD, show j < zs.length by omega]
theorem cells_two {b : Nat} {a : Addr} {cs : List Value} (h : w.cells? b a 2 = some cs) : ∃ x y, cs = [x, y] ∧ w.cell? a = some x ∧ w.cell? (a.add 1) = some y := by
  unfold World.cells? at h
  split at h
  · simp only [List.range_succ, List.range_zero, List.nil_append, List.cons_append, List.mapM_cons, List.mapM_nil] at h
    obtain ⟨x, hx, h⟩ := Option.bind_eq_some_iff.1 h
    obtain ⟨ys, hy, h⟩ := Option.bind_eq_some_iff.1 h
    obtain ⟨y, hy2, h2⟩ := Option.bind_eq_some_iff.1 hy
    simp at h h2
    subst h2
    subst h
    have e : a.add 0 = a := by simp [Addr.add]
    rw [e] at hx
    exact ⟨x, y, rfl, hx, hy2⟩
  · cases h
end
end Go.Proofs.Ytmigbcoobbcahaa
