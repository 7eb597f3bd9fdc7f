/-
  Joined by program (merge.py): ROpn, Apart.
-/
import Derived.Test.YtmfplinbbcoahaaM7
import Derived.Test.YtmfplinbbcoahaaM17
import Derived.Test.YtmfplinbbcoahaaM23
import Derived.Test.YtmfplinbbcoahaaM24
import Derived.Test.YtmfplinbbcoahaaM25
/-
  Chapter 26: a block's body read by the document, any kind.
-/
namespace Go.Proofs.Ytmfplinbbcoahaa
open Go.RowKit Go.Sort
set_option linter.unusedVariables false

set_option maxRecDepth 100000 in
theorem refOpen_any (t : Nat) (ad : Option Addr) (n c : Nat) (l : List UInt8) (big : Bool) (w : World) (hs : Bs w ad n c l) (hn : n ≤ 1048576) :
    Calls Try.prog 62 #[.agg (hdrC t).toArray, .slice ad n c, .bool big] w (OpenR ad n c l (openP (kindP t) t l big) w) := by
  unfold hdrC
  rcases kindP_cases t with h | h | h | h | h | h | h <;> rw [h]
  · rw [show openP 1 t l big = openP 1 0 l big from rfl, if_neg (by decide)]
    by_cases hlt : n < 16
    · exact refOpen1_short ad n c l big w hs hn hlt
    · by_cases h1 : w2 big l 4 = 1
      · exact refOpen1_ok ad n c l big w hs hn (by omega) h1
      · exact refOpen1_not ad n c l big w hs hn (by omega) h1
  · rw [show openP 2 t l big = openP 2 0 l big from rfl, if_neg (by decide)]
    by_cases hlt : n < 8
    · exact refOpen2_short ad n c l big w hs hn hlt
    · exact refOpen2_ok ad n c l big w hs hn (by omega)
  · rw [show openP 3 t l big = openP 3 0 l big from rfl, if_neg (by decide)]
    by_cases hlt : n < 20
    · exact refOpen3_short ad n c l big w hs hn hlt
    · by_cases h1 : n - 20 < w4 big l 12
      · exact refOpen3_a ad n c l big w hs hn (by omega) h1
      · by_cases h2 : n - 20 < w4 big l 12 + padN (w4 big l 12)
        · exact refOpen3_b ad n c l big w hs hn (by omega) h1 h2
        · exact refOpen3_ok ad n c l big w hs hn (by omega) h2
  · rw [show openP 4 t l big = openP 4 0 l big from rfl, if_neg (by decide)]
    by_cases hlt : n < 4
    · exact refOpen4_short ad n c l big w hs hn hlt
    · exact refOpen4_ok ad n c l big w hs hn (by omega)
  · rw [show openP 5 t l big = openP 5 0 l big from rfl, if_neg (by decide)]
    exact refOpen5 ad n c l big w hs hn
  · rw [show openP 6 t l big = openP 6 0 l big from rfl, if_neg (by decide)]
    by_cases hlt : n < 12
    · exact refOpen6_short ad n c l big w hs hn hlt
    · exact refOpen6_ok ad n c l big w hs hn (by omega)
  · rw [if_pos rfl]
    exact refOpen7_ok t ad n c l big w hs hn

theorem magic_true (B : List UInt8) (h : B.length = 4) : getN B true = 439041101 ↔ B = [26, 43, 60, 77] := by
  constructor
  · intro e
    have := putL_getN B true (by omega)
    rw [h, e] at this
    rw [← this]
    rfl
  · rintro rfl; rfl
theorem magic_false (B : List UInt8) (h : B.length = 4) : getN B false = 439041101 ↔ B = [77, 60, 43, 26] := by
  constructor
  · intro e
    have := putL_getN B false (by omega)
    rw [h, e] at this
    rw [← this]
    rfl
  · rintro rfl; rfl
/-- a variable of its own, in a drawn region -/
theorem step_allocG {P : Program} {w : World} {ops : Array Oper} {o : Oper} {a : Act} {K : Act → World → Prop} {Q : Exit → Act → World → Prop} {E : Prop} (hgd : o.guard = none) (T : TypeId) (ho : o.op = .alloc T) (z : Value) (zs : Array Value) (n : Nat) (hi : (P.info? T).map (fun i => (i.zero, i.size)) = some (some z, n)) (hz : z.cells = zs)
    (h : ∀ w1 g, w.heap.size ≤ g → g < w1.heap.size → w1.heap[g]? = some (.cells zs T (0, 0)) → Below w.heap.size w w1 → K (a.put o.dst (.pointer (some ⟨g, 0, none⟩))) w1) : if Region.wanted o (yielded ops a.tmps) = true then Oper.wp P o a w K Q else E := by
  obtain ⟨hz0, hsz⟩ := zero_of_info hi
  refine step_run2 (by simp [Region.wanted, hgd]) (v := .pointer (some ⟨w.heap.size, 0, none⟩)) (w' := w.alloc (.cells zs T)) ?_ (h _ _ (Nat.le_refl _) (by simp) (heap_alloc_last w _) ((Below.refl _ _).alloc (Nat.le_refl _) _))
  simp [execOp, ho, Instr.alloc, hz0, newVar, newRow, hz]
end Go.Proofs.Ytmfplinbbcoahaa
/-
  A block's memory apart from a variable's.
-/
namespace Go.Proofs.Ytmfplinbbcoahaa
open Go.RowKit Go.Sort
set_option linter.unusedVariables false

/-- no memory of the block v lies in block g -/
def Apart (g : Nat) (v : BlkV) : Prop :=
  (∀ x, v.dad = some x → x.block ≠ g) ∧ ((∀ x, v.nad = some x → x.block ≠ g) ∧ ∀ o ∈ v.ns, ∀ x, o.ad = some x → x.block ≠ g) ∧ ((∀ x, v.oad = some x → x.block ≠ g) ∧ ∀ o ∈ v.os, ∀ x, o.ad = some x → x.block ≠ g)
theorem own_block {w : World} {base : Nat} {e : TypeId} {size : Nat} {ad : Option Addr} {n c : Nat} {xs : List Value} (h : w.ownsRow base e size (.slice ad n c) n xs) : ∀ x, ad = some x → base ≤ x.block ∧ x.block < w.heap.size := by
  intro x hx
  rcases own_form h with ⟨h0, _⟩ | ⟨g, h1, h2, h3⟩
  · rw [h0] at hx; cases hx
  · rw [h1] at hx; cases hx; exact ⟨h2, h3⟩
theorem OwnBlk.apart_lt {base g : Nat} {w : World} {v : BlkV} (h : OwnBlk base w v) (hg : w.heap.size ≤ g) : Apart g v := by
  obtain ⟨h1, h2, h3⟩ := h
  refine ⟨fun x hx => ?_, ⟨fun x hx => ?_, fun o ho x hx => ?_⟩, ⟨fun x hx => ?_, fun o ho x hx => ?_⟩⟩
  · have := own_block h1 x hx; omega
  · have := own_block h2.1 x hx; omega
  · have := (h2.2 o ho).2 x hx; omega
  · have := own_block h3.1 x hx; omega
  · have := (h3.2 o ho).2 x hx; omega
theorem OwnBlk.apart_ge {base g : Nat} {w : World} {v : BlkV} (h : OwnBlk base w v) (hg : g < base) : Apart g v := by
  obtain ⟨h1, h2, h3⟩ := h
  refine ⟨fun x hx => ?_, ⟨fun x hx => ?_, fun o ho x hx => ?_⟩, ⟨fun x hx => ?_, fun o ho x hx => ?_⟩⟩
  · have := own_block h1 x hx; omega
  · have := own_block h2.1 x hx; omega
  · have := (h2.2 o ho).2 x hx; omega
  · have := own_block h3.1 x hx; omega
  · have := (h3.2 o ho).2 x hx; omega
theorem own_apart {w w' : World} {base g : Nat} {e : TypeId} {size : Nat} {ad : Option Addr} {n c : Nat} {xs : List Value} (h : w.ownsRow base e size (.slice ad n c) n xs) (hg : w.grownBy w' (some g)) (hne : ∀ x, ad = some x → x.block ≠ g) : w'.ownsRow base e size (.slice ad n c) n xs := by
  refine h.kept hg ?_
  rcases own_form h with ⟨h0, _⟩ | ⟨g', h1, h2, _⟩
  · rw [h0]; exact .inl rfl
  · rw [h1]
    refine .inr fun e => ?_
    simp [Value.ownBlock] at e
    exact hne _ h1 e
theorem ops_apart {w w' : World} {base g : Nat} {e : TypeId} {ad : Option Addr} {n c : Nat} {os : List OptV} (h : OwnOps e base w ad n c os) (hg : w.grownBy w' (some g)) (hne : ∀ x, ad = some x → x.block ≠ g) (hno : ∀ o ∈ os, ∀ x, o.ad = some x → x.block ≠ g) : OwnOps e base w' ad n c os :=
  ⟨own_apart h.1 hg hne, fun o ho => ⟨Sl.grown (h.2 o ho).1 hg (fun x hx e => hno o ho x hx (by cases e; rfl)), fun x hx => ⟨((h.2 o ho).2 x hx).1, Nat.lt_of_lt_of_le ((h.2 o ho).2 x hx).2.1 hg.size, ((h.2 o ho).2 x hx).2.2⟩⟩⟩
theorem cXn {w wd w1 : World} {base g : Nat} {v : BlkV} (h : Hid (OwnBlk base w v)) (ha : Apart g v) (hE : Below w.heap.size w wd) (hg : wd.grownBy w1 (some g)) : Hid (OwnBlk base w1 v) := by
  obtain ⟨h1, h2, h3⟩ := h.out.keep hE
  exact Lib.hid ⟨own_apart h1 hg ha.1, ops_apart h2 hg ha.2.1.1 ha.2.1.2, ops_apart h3 hg ha.2.2.1 ha.2.2.2⟩
end Go.Proofs.Ytmfplinbbcoahaa
