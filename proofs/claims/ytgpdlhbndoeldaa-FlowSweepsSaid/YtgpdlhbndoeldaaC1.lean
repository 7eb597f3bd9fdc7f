/-
  Joined by program (merge.py): Base, Bytes, Octet, Get, Octet2, Octet3, Octet4, Carry, Step, Str, Kit, Sip1, Sip2, Sip3, Concat, Sip4, Open.
-/
import Derived.WalkKit
import Derived.Handy
import Derived.Lib.Hide
import Derived.Lib.QuietBelow
import Derived.Maps.AppendAt
import Derived.KernelRfl
import Derived.ProofKit
import Derived.OpenShut
import Derived.ShutString
import Derived.ChangeOld
import Derived.Below
import Derived.WalkSpells
import Derived.Test.YtgpdlhbndoeldaaProg
import Derived.RegionTactic
import Derived.BigRegion
import Derived.RangeFuncNested
import Derived.RangeFuncBound
import Derived.RangeFuncCalls
import Derived.RangeFuncLeaves
import Derived.RangeFuncBox
import Derived.Shelf.Abstract
import Derived.Shelf.RegionOpen
import Derived.OwnWalkIn
import Derived.TacticsInMore
import Derived.LoopNIn
import Derived.LoopIn
import Derived.Deep.RegionHeld3
import Derived.Deep.WholeRow
import Derived.ArgAppend
import Derived.Laws.Rows
import Derived.StillTailTactics
import Derived.Lib.AppendZeros
import Derived.Deep.RegionWith
import Derived.BigQuiet
/-
  A layer of laws over any program: slices that are read ('Sl'), slices that a call owns, and the operations on them, in one form each.
-/
namespace Go.Proofs.Ytgpdlhbndoeldaa
open Go.RowKit Go.Sort
set_option linter.unusedVariables false
set_option linter.unusedSimpArgs false

/-- A slice type t of elements e: the row of the table of types that the laws ask. -/
structure Elem (P : Program) (t e : TypeId) (size bytes : Nat) (z : Value) : Prop where
  ht : P.underlying t = some (.slice e)
  info : (P.info? e).map (fun i => (i.zero, i.size, i.bytes)) = some (some z, size, bytes)
  hzs : z.cells.size = size
  hsz : 0 < size

/-- The value '.slice ad n c' reads as the cells vs (n elements of 'size' cells). -/
def Sl (w : World) (ad : Option Addr) (n c size : Nat) (vs : List Value) : Prop :=
  vs.length = n * size ∧ n ≤ c ∧ c ≤ maxLen ∧ (ad = none → n = 0 ∧ c = 0) ∧ ∀ j u, vs[j]? = some u → ∃ x, ad = some x ∧ w.cell? (x.add j) = some u

theorem cell_addr {w : World} {x : Addr} {u : Value} (h : w.cell? x = some u) : ∃ b off, x = ⟨b, off, none⟩ ∧ b < w.heap.size := by
  obtain ⟨b, off, sp⟩ := x
  have hb := World.block_lt_of_cell? w _ h
  cases sp with
  | none => exact ⟨b, off, rfl, hb⟩
  | some s =>
    exfalso
    simp only [World.cell?] at h
    split at h <;> simp at h

theorem addr_add (b off j : Nat) : (⟨b, off, none⟩ : Addr).add j = ⟨b, off + j, none⟩ := by
  unfold Addr.add
  split
  · subst_vars; rfl
  · rfl

theorem add_addr {x : Addr} {j b o : Nat} (h : x.add j = ⟨b, o, none⟩) : x.block = b ∧ (j = 0 → x = ⟨b, o, none⟩) ∧ x.off + j = o := by
  unfold Addr.add at h
  split at h
  · subst_vars; simp
  · obtain ⟨xb, xo, xs⟩ := x
    simp at h
    refine ⟨h.1, by omega, h.2⟩

theorem add_zero (x : Addr) : x.add 0 = x := by unfold Addr.add; simp

/-- An element that is there: the address written out, and its cell. -/
theorem Sl.at {w : World} {ad : Option Addr} {n c size : Nat} {vs : List Value} (h : Sl w ad n c size vs) {j : Nat} (hj : j < vs.length) :
    ∃ b off, ad = some ⟨b, off, none⟩ ∧ b < w.heap.size ∧ ∀ i (hi : i < vs.length), w.cell? ⟨b, off + i, none⟩ = some vs[i] := by
  have h0 : 0 < vs.length := by omega
  obtain ⟨x, hx, hc⟩ := h.2.2.2.2 0 vs[0] (by simp [h0])
  rw [add_zero] at hc
  obtain ⟨b, off, rfl, hb⟩ := cell_addr hc
  refine ⟨b, off, hx, hb, fun i hi => ?_⟩
  obtain ⟨y, hy, hcy⟩ := h.2.2.2.2 i vs[i] (by simp [hi])
  rw [hx] at hy
  cases hy
  rwa [addr_add] at hcy

theorem Sl.len {w : World} {ad : Option Addr} {n c size : Nat} {vs : List Value} (h : Sl w ad n c size vs) : vs.length = n * size := h.1
theorem Sl.le {w : World} {ad : Option Addr} {n c size : Nat} {vs : List Value} (h : Sl w ad n c size vs) : n ≤ c := h.2.1

theorem Sl.of_same {w w' : World} {ad : Option Addr} {n c size : Nat} {vs : List Value} (h : Sl w ad n c size vs)
    (hs : ∀ x j u, ad = some x → w.cell? (x.add j) = some u → w'.cell? (x.add j) = some u) : Sl w' ad n c size vs :=
  ⟨h.1, h.2.1, h.2.2.1, h.2.2.2.1, fun j u hj => let ⟨x, hx, hc⟩ := h.2.2.2.2 j u hj; ⟨x, hx, hs x j u hx hc⟩⟩

/-- What lay below a heap's size reads as it did. -/
theorem Sl.below {w w' : World} {ad : Option Addr} {n c size : Nat} {vs : List Value} (h : Sl w ad n c size vs) (hb : Below w.heap.size w w') : Sl w' ad n c size vs :=
  h.of_same fun x j u _ hc => by
    have hlt := World.block_lt_of_cell? w _ hc
    rw [hb.cell hlt]; exact hc

/-- .. and behind writes to one row, if that is another block. -/
theorem Sl.grown {w w' : World} {row : Option Nat} {ad : Option Addr} {n c size : Nat} {vs : List Value} (h : Sl w ad n c size vs) (hg : w.grownBy w' row) (hne : ∀ x, ad = some x → row ≠ some x.block) : Sl w' ad n c size vs :=
  h.of_same fun x j u hx hc => by
    have hb : (x.add j).block = x.block := by unfold Addr.add; split <;> rfl
    exact hg.cell hc (by rw [hb]; exact fun e => hne x hx e.symm)

theorem Sl.nil (w : World) (size : Nat) : Sl w none 0 0 size [] := ⟨by simp, Nat.le_refl _, by simp [maxLen], fun _ => ⟨rfl, rfl⟩, fun j u h => by simp at h⟩

/-- What a call owns reads so. -/
theorem Sl.of_own {w : World} {base : Nat} {e : TypeId} {size : Nat} {ad : Option Addr} {n c : Nat} {xs : List Value} (h : w.ownsRow base e size (.slice ad n c) n xs) : Sl w ad n c size xs := by
  obtain ⟨hl, h2 | ⟨g, cap, cur, hv, hb, hg, hnc, hcm, hcs, ht⟩⟩ := h
  · obtain ⟨hv, rfl⟩ := h2
    simp at hv
    obtain ⟨rfl, rfl⟩ := hv
    have : xs = [] := by cases xs with | nil => rfl | cons => simp at hl
    subst this
    exact Sl.nil w size
  · simp at hv
    obtain ⟨rfl, rfl⟩ := hv
    refine ⟨hl, hnc, hcm, by simp, fun j u hj => ⟨_, rfl, ?_⟩⟩
    exact World.ownsRow.cells (w := w) ⟨hl, .inr ⟨g, c, cur, rfl, hb, hg, hnc, hcm, hcs, ht⟩⟩ rfl j u hj

/-- A slice of numbers, of bytes .. that came in, as the proof's frame hands it. -/
theorem Sl.of_row {k : IntKind} {w : World} {a : Option Addr} {len cap : Nat} {zs : List Int}
    (h : (a = none ∧ len = 0 ∧ cap = 0 ∧ zs = []) ∨ ∃ x, a = some x ∧ len ≤ cap ∧ cap ≤ maxLen ∧ zs.length = cap ∧ (∀ i, i < zs.length → w.cell? (x.add i) = some (.int k (zs.getD i 0))) ∧ ∀ n ∈ zs, (Lit.int k n).wf = true) :
    Sl w a len cap 1 ((zs.take len).map (Value.int k)) := by
  rcases h with ⟨rfl, rfl, rfl, rfl⟩ | ⟨x, rfl, hlc, hcm, hl, hc, _⟩
  · exact Sl.nil w 1
  · refine ⟨by simp; omega, hlc, hcm, by simp, fun j u hj => ⟨x, rfl, ?_⟩⟩
    simp only [List.getElem?_map, List.getElem?_take] at hj
    by_cases hlt : j < len
    · rw [if_pos hlt, List.getElem?_eq_getElem (by omega)] at hj
      simp at hj
      subst hj
      rw [hc j (by omega)]
      simp [List.getD, List.getElem?_eq_getElem (show j < zs.length by omega)]
    · rw [if_neg hlt] at hj
      simp at hj

/-- a literal's new block -/
theorem Sl.lit (w : World) (cs : Array Value) (e : TypeId) (n size : Nat) (hn : cs.size = n * size) (hm : n ≤ maxLen) : Sl (w.alloc (.cells cs e)) (some ⟨w.heap.size, 0, none⟩) n n size cs.toList :=
  ⟨by simpa using hn, Nat.le_refl _, hm, by simp, fun j u hj => ⟨_, rfl, by
    rw [addr_add, Nat.zero_add, World.cell?_alloc_at _ _ _ _ rfl]
    simpa using hj⟩⟩

theorem ints_one (k : IntKind) (zs : List Int) : ∀ u ∈ zs.map (Value.int k), u.oneCell' = true := by
  intro u hu
  obtain ⟨x, _, rfl⟩ := List.mem_map.1 hu
  rfl

/-- An operation whose run is known. -/
theorem wpL_run {P : Program} {w w' : World} {ops : Array Oper} {rest : List Oper} {o : Oper} {a : Act} {Q : Exit → Act → World → Prop} (hgd : Region.wanted o (yielded ops a.tmps) = true) {v : Value}
    (hrun : (execOp a.eval o).run P w = .ok (.value v) w') (h : wpList P ops Q rest (a.put o.dst v) w') : wpList P ops Q (o :: rest) a w := by
  refine wpList_step fun K hK => ?_
  rw [if_pos hgd]
  unfold Oper.wp
  rw [hrun]
  exact hK _ _ h

theorem own_forms {w : World} {base : Nat} {e : TypeId} {size : Nat} {v : Value} {n : Nat} {xs : List Value} (h : w.ownsRow base e size v n xs) : ∃ ad c, v = .slice ad n c ∧ (ad = none ∧ n = 0 ∧ c = 0 ∨ ∃ g, ad = some ⟨g, 0, none⟩) := by
  rcases h.2 with ⟨rfl, rfl⟩ | ⟨g, cap, cur, rfl, _⟩
  · exact ⟨none, 0, rfl, .inl ⟨rfl, rfl, rfl⟩⟩
  · exact ⟨_, _, rfl, .inr ⟨g, rfl⟩⟩

theorem run_append {P : Program} {w : World} {t ty e : TypeId} {size bytes : Nat} {z : Value} (el : Elem P t e size bytes z)
    (base : Nat) {ad : Option Addr} {n c : Nat} {xs : List Value} (hown : w.ownsRow base e size (.slice ad n c) n xs)
    {ad2 : Option Addr} {m c2 : Nat} {news : List Value} (hsl : Sl w ad2 m c2 size news) (h1 : ∀ u ∈ news, u.oneCell' = true)
    (h63 : n + m ≤ maxLen) (hbytes : (n + m) * bytes ≤ 140737488355328) (hbase : base ≤ w.heap.size) :
    ∃ ad' c' w', (Builtin.append_ #[t, t] ty #[.slice ad n c, .slice ad2 m c2]).run P w = .ok (.slice ad' (n + m) c') w' ∧ w'.ownsRow base e size (.slice ad' (n + m) c') (n + m) (xs ++ news) ∧ w.grownBy w' (Value.ownBlock (.slice ad n c)) ∧
      (ad' = ad ∨ ad' = some ⟨w.heap.size, 0, none⟩) ∧ (ad' = none ↔ ad = none ∧ m = 0) := by
  obtain ⟨i, hi, hz, hsize, hby⟩ := info_parts el.info
  cases ad2 with
  | none =>
    obtain ⟨hl, hmc, hcm, hnil, hcells⟩ := hsl
    obtain ⟨rfl, rfl⟩ := hnil rfl
    have : news = [] := by cases news with | nil => rfl | cons => simp at hl
    subst this
    exact ⟨ad, c, w, run_append_owned_none (P := P) (w := w) base t ty e i size el.ht hi _ n xs hown, by simpa using hown, World.grownBy.refl _ _, .inl rfl, by simp⟩
  | some ad2 =>
    obtain ⟨hl, hmc, hcm, hnil, hcells⟩ := hsl
    obtain ⟨v', w', hr, hown', hgrow, hnil', hat⟩ := run_append_own_at (P := P) w base t ty e i z size bytes el.ht hi hz hsize hby el.hzs el.hsz _ n xs hown ad2 m c2 news hl (fun j u hj => by
      obtain ⟨y, hy, hc⟩ := hcells j u hj
      cases hy
      exact hc) h1 h63 hbytes hbase
    obtain ⟨ad', c', rfl, hf⟩ := own_forms hown'
    obtain ⟨ad0, c0, hv0, hadf⟩ := own_forms hown
    simp only [Value.slice.injEq, true_and] at hv0
    obtain ⟨rfl, rfl⟩ := hv0
    refine ⟨ad', c', w', hr, hown', hgrow, ?_, ?_⟩
    · rcases hf with ⟨rfl, _⟩ | ⟨g, rfl⟩ <;> rcases hadf with ⟨rfl, _⟩ | ⟨g', rfl⟩ <;> simp [Value.ownBlock] at hat ⊢ <;> omega
    · constructor
      · rintro rfl
        rcases hf with ⟨_, h0, rfl⟩ | ⟨g, hg⟩
        · rw [h0] at hnil'
          have h2 := hnil'.1 rfl
          have h3 := h2.1
          simp at h3
          exact ⟨h3.1, h2.2⟩
        · cases hg
      · rintro ⟨rfl, rfl⟩
        rcases hadf with ⟨_, rfl, rfl⟩ | ⟨g, hg⟩
        · have h2 := hnil'.2 ⟨rfl, rfl⟩
          simp at h2
          exact h2.1
        · cases hg

/-- 'append(s, x...)', s the call's own (or nil), x whatever. -/
theorem wpL_append {P : Program} {w : World} {ops : Array Oper} {rest : List Oper} {o : Oper} {a : Act} {Q : Exit → Act → World → Prop} {t e : TypeId} {size bytes : Nat} {z : Value} (el : Elem P t e size bytes z)
    (hgd : Region.wanted o (yielded ops a.tmps) = true) (s x : Operand) (ho : o.op = .call { callee := .builtin .append, args := #[s, x], argTypes := #[t, t] })
    (base : Nat) {ad : Option Addr} {n c : Nat} {xs : List Value} (hs : a.eval s = .slice ad n c) (hown : w.ownsRow base e size (.slice ad n c) n xs)
    {ad2 : Option Addr} {m c2 : Nat} {news : List Value} (hx : a.eval x = .slice ad2 m c2) (hsl : Sl w ad2 m c2 size news) (h1 : ∀ u ∈ news, u.oneCell' = true)
    (h63 : n + m ≤ maxLen) (hbytes : (n + m) * bytes ≤ 140737488355328) (hbase : base ≤ w.heap.size)
    (h : ∀ ad' c' w', w'.ownsRow base e size (.slice ad' (n + m) c') (n + m) (xs ++ news) → w.grownBy w' (Value.ownBlock (.slice ad n c)) →
      (ad' = ad ∨ ad' = some ⟨w.heap.size, 0, none⟩) → (ad' = none ↔ ad = none ∧ m = 0) → wpList P ops Q rest (a.put o.dst (.slice ad' (n + m) c')) w') :
    wpList P ops Q (o :: rest) a w := by
  obtain ⟨ad', c', w', hr, h2, h3, h4, h5⟩ := run_append (P := P) (ty := o.type) el base hown hsl h1 h63 hbytes hbase
  refine wpL_run hgd (v := .slice ad' (n + m) c') (w' := w') ?_ (h ad' c' w' h2 h3 h4 h5)
  unfold execOp
  simp only [ho, resolve, invoke, builtin, Sem.run_bind, Sem.run_pure, Result.andThen_ok, List.map_toArray, List.map_cons, List.map_nil, hs, hx, hr]

/-- 'make([]T, n)'. -/
theorem wpL_make {P : Program} {w : World} {ops : Array Oper} {rest : List Oper} {o : Oper} {a : Act} {Q : Exit → Act → World → Prop} {t e : TypeId} {size bytes : Nat} {z : Value} (el : Elem P t e size bytes z)
    (hg : Region.wanted o (yielded ops a.tmps) = true) (l c : Operand) (hop : o.op = Op.makeSlice t l c) (base : Nat) {kl kc : IntKind} {L C : Int} (n : Nat) (hl : a.eval l = .int kl L) (hc : a.eval c = .int kc C) (hL : L = (n : Int)) (hC : C = (n : Int))
    (b2 : bytes * n ≤ 281474976710656) (b3 : n ≤ maxLen) (b4 : base ≤ w.heap.size)
    (hK : ∀ w', w'.ownsRow base e size (.slice (some ⟨w.heap.size, 0, none⟩) n n) n (madeCells z.cells (n * size)).toList → w.grownBy w' none → wpList P ops Q rest (a.put o.dst (.slice (some ⟨w.heap.size, 0, none⟩) n n)) w') :
    wpList P ops Q (o :: rest) a w := by
  obtain ⟨i, hi, hz, hsize, hby⟩ := info_parts el.info
  obtain ⟨w', hrun, r1, r2⟩ := run_make_full (P := P) w base t e i z size el.ht hi hz hsize kl kc n (by rw [hby]; exact b2) b3 b4
  subst hL
  subst hC
  refine wpL_run hg ?_ (hK w' r1 r2)
  simp [execOp, hop, hl, hc, hrun, Result.andThen]

/-! ### x[lo:hi] -/
/-- where the part from element l on begins -/
def subAd (ad : Option Addr) (c l size : Nat) : Option Addr := if c = l then ad else ad.map (·.add (l * size))
theorem add_block (x : Addr) (j : Nat) : (x.add j).block = x.block := by unfold Addr.add; split <;> rfl
theorem add_add {w : World} (x : Addr) (i j : Nat) {u : Value} (h : w.cell? (x.add (i + j)) = some u) : ((x.add i).add j) = x.add (i + j) := by
  unfold Addr.add
  by_cases h1 : i = 0
  · subst h1; simp
  · by_cases h2 : j = 0
    · subst h2; simp
    · simp [h1, h2, Nat.add_assoc]
theorem subAd_none {ad : Option Addr} {c l size : Nat} : subAd ad c l size = none ↔ ad = none := by unfold subAd; split <;> simp
theorem subAd_block {ad : Option Addr} {c l size : Nat} {y : Addr} (h : subAd ad c l size = some y) : ∃ x, ad = some x ∧ y.block = x.block := by
  unfold subAd at h
  split at h
  · exact ⟨y, h, rfl⟩
  · cases ad with
    | none => simp at h
    | some x =>
      simp only [Option.map_some, Option.some.injEq] at h
      exact ⟨x, rfl, by rw [← h, add_block]⟩

theorem Sl.sub {w : World} {ad : Option Addr} {n c size : Nat} {vs : List Value} (hs : Sl w ad n c size vs) {l h : Nat} (hl : l ≤ h) (hh : h ≤ n) :
    Sl w (subAd ad c l size) (h - l) (c - l) size ((vs.drop (l * size)).take ((h - l) * size)) := by
  obtain ⟨h1, h2, h3, h4, h5⟩ := hs
  have hle : l * size + (h - l) * size ≤ vs.length := by
    rw [h1, ← Nat.add_mul]
    exact Nat.mul_le_mul_right _ (by omega)
  refine ⟨by rw [List.length_take, List.length_drop]; omega, by omega, by omega, fun e => ?_, fun j u hj => ?_⟩
  · have := h4 (subAd_none.1 e); omega
  · rw [List.getElem?_take] at hj
    split at hj
    · rename_i hlt
      rw [List.getElem?_drop] at hj
      obtain ⟨x, hx, hc⟩ := h5 _ u hj
      subst hx
      unfold subAd
      by_cases e : c = l
      · exfalso
        have : h - l = 0 := by omega
        rw [this] at hlt
        omega
      · rw [if_neg e]
        exact ⟨_, rfl, by rw [add_add x _ _ hc]; exact hc⟩
    · cases hj

theorem run_slice {P : Program} {w : World} {t e : TypeId} {size bytes : Nat} {z : Value} (el : Elem P t e size bytes z) (ad : Option Addr) (n c : Nat) (lo hi : Option Value) (l h : Nat)
    (hlo : (lo = none ∧ l = 0) ∨ ∃ k, lo = some (.int k (l : Int))) (hhi : (hi = none ∧ h = n) ∨ ∃ k, hi = some (.int k (h : Int))) (hl : l ≤ h) (hh : h ≤ c) :
    (Instr.sliceAt t (.slice ad n c) lo hi none).run P w = .ok (.slice (subAd ad c l size) (h - l) (c - l)) w := by
  obtain ⟨i, hi', hz, hsize, hby⟩ := info_parts el.info
  subst hsize
  unfold subAd
  rcases hlo with ⟨rfl, rfl⟩ | ⟨k, rfl⟩ <;> rcases hhi with ⟨rfl, rfl⟩ | ⟨k', rfl⟩ <;>
    simp [Instr.sliceAt, Instr.slice, Instr.sliceBounds, Instr.sliceBound, asIntOf, run_underlying el.ht, sizeOf, typeInfo, hi', hl, hh]

theorem wpL_slice {P : Program} {w : World} {ops : Array Oper} {rest : List Oper} {o : Oper} {a : Act} {Q : Exit → Act → World → Prop} {t e : TypeId} {size bytes : Nat} {z : Value} (el : Elem P t e size bytes z)
    (hg : Region.wanted o (yielded ops a.tmps) = true) (x : Operand) (lo hi : Option Operand) (hop : o.op = Op.slice t x lo hi none) {ad : Option Addr} {n c : Nat} (hx : a.eval x = .slice ad n c) (l h : Nat)
    (hlo : (lo.map a.eval = none ∧ l = 0) ∨ ∃ k, lo.map a.eval = some (.int k (l : Int))) (hhi : (hi.map a.eval = none ∧ h = n) ∨ ∃ k, hi.map a.eval = some (.int k (h : Int))) (hl : l ≤ h) (hh : h ≤ c)
    (hK : ∀ ad', Hid (ad' = subAd ad c l size) → wpList P ops Q rest (a.put o.dst (.slice ad' (h - l) (c - l))) w) : wpList P ops Q (o :: rest) a w := by
  have hrun := run_slice (P := P) (w := w) el ad n c (lo.map a.eval) (hi.map a.eval) l h hlo hhi hl hh
  refine wpL_run hg ?_ (hK _ rfl)
  simp only [execOp, hop, hx, Option.map_none, Sem.run_bind, hrun, Result.andThen_ok, Sem.run_pure]

theorem ownBlock_ge {w : World} {base : Nat} {e : TypeId} {size : Nat} {v : Value} {n : Nat} {xs : List Value} (h : w.ownsRow base e size v n xs) : ∀ k, v.ownBlock = some k → base ≤ k := fun k hk => (h.lt k hk).1

/-- What reads below 'base' reads so behind writes to a row of one's own. -/
theorem Sl.past {w w' : World} {base : Nat} {e : TypeId} {size' : Nat} {v : Value} {m : Nat} {xs : List Value} {ad : Option Addr} {n c size : Nat} {vs : List Value} (h : Sl w ad n c size vs)
    (hown : w.ownsRow base e size' v m xs) (hg : w.grownBy w' v.ownBlock) (hlt : ∀ x, ad = some x → x.block < base) : Sl w' ad n c size vs :=
  h.grown hg fun x hx e => by have := ownBlock_ge hown _ e; have := hlt x hx; omega

theorem grown_drew (w : World) (row : Option Nat) : w.grownBy w.drew row := ⟨rfl, rfl, rfl, Nat.le_refl _, fun _ _ _ => rfl⟩

theorem below_drewN (B : Nat) (w : World) (n : Nat) : Below B w (w.drewN n) := ⟨rfl, rfl, rfl, Nat.le_refl _, fun _ _ => rfl⟩

theorem bcell {W w1 : World} (hb : Below W.heap.size W w1) : (∀ b o, b < W.heap.size → w1.cell? ⟨b, o, none⟩ = W.cell? ⟨b, o, none⟩) ∧ (∀ b o, b < W.heap.size → w1.frozen? ⟨b, o, none⟩ = W.frozen? ⟨b, o, none⟩) :=
  ⟨fun b o h => hb.cell (p := ⟨b, o, none⟩) h, fun b o h => hb.frozen (p := ⟨b, o, none⟩) h⟩

theorem below_of_regrown {B : Nat} {w : World} (hB : B ≤ w.heap.size) (d : Nat) (os : Array Obj) : Below B w (grow (redrawn w d) os) := (below_regrown w d os).mono hB

/-! ### What came in: arrays of numbers -/
section
variable {H : Type} {enc : TypeId × Value → H} {P : Program} {w : World} {base : Nat} {spare : Nat → Bool} {held : Bool}

theorem mapM_ints {k : IntKind} {e : TypeId} (he : P.underlying e = some (.int k)) (hce : P.cellsOf e = 1) {fuel : Nat} {cs : List Value} :
    ∀ (n m : Nat) (xs : List (DataW H × List MemPlace)), m + n ≤ cs.length → (List.range' m n).mapM (fun i => DataW.trod enc P w base spare held fuel e ((cs.drop (i * P.cellsOf e)).take (P.cellsOf e))) = some xs →
      ∃ zs : List Int, zs.length = n ∧ (cs.drop m).take n = zs.map (Value.int k) ∧ ∀ x ∈ zs, (Lit.int k x).wf = true
  | 0, m, xs, _, _ => ⟨[], rfl, by simp, by simp⟩
  | n + 1, m, xs, hl, h => by
    rw [List.range'_succ, List.mapM_cons] at h
    obtain ⟨x, hx, h⟩ := Option.bind_eq_some_iff.1 h
    obtain ⟨ys, hys, _⟩ := Option.bind_eq_some_iff.1 h
    obtain ⟨zs, hz1, hz2, hz3⟩ := mapM_ints he hce n (m + 1) ys (by omega) hys
    rw [hce, Nat.mul_one] at hx
    have hcell : (cs.drop m).take 1 = [cs[m]'(by omega)] := by
      rw [List.drop_eq_getElem_cons (by omega)]
      rfl
    rw [hcell] at hx
    obtain ⟨z, hz, hwf⟩ : ∃ z, cs[m]'(by omega) = .int k z ∧ (Lit.int k z).wf = true := by
      cases fuel with
      | zero => simp [DataW.trod] at hx
      | succ f =>
        simp only [DataW.trod, he] at hx
        split at hx <;> simp_all
    refine ⟨z :: zs, by simp [hz1], ?_, by simpa [hwf] using hz3⟩
    rw [List.drop_eq_getElem_cons (by omega), List.take_succ_cons, hz2, hz]
    rfl

theorem open_int_array {k : IntKind} {t e : TypeId} {n : Nat} (ht : P.underlying t = some (.array n e)) (he : P.underlying e = some (.int k)) (hce : P.cellsOf e = 1) (hct : P.cellsOf t = n)
    {r : Reach} {b0 : Nat} {v : Value} {d : DataW H} {ps : List MemPlace} (hv : Value.okWide P w r b0 t v) (h : DataW.Trod enc P w base spare held t v d ps) :
    ∃ zs : List Int, zs.length = n ∧ v = .agg (zs.map (Value.int k)).toArray ∧ ∀ x ∈ zs, (Lit.int k x).wf = true := by
  simp only [Value.okWide, ht] at hv
  obtain ⟨cs, rfl, hsz, _⟩ := hv
  obtain ⟨fuel, hf⟩ := h
  cases fuel with
  | zero => simp [DataW.trod] at hf
  | succ f =>
    simp only [Value.cells, DataW.trod, ht] at hf
    rw [if_pos (by simpa using hsz)] at hf
    obtain ⟨xs, hxs, _⟩ := Option.map_eq_some_iff.1 hf
    rw [List.range_eq_range'] at hxs
    have hl : cs.toList.length = n := by rw [Array.length_toList, hsz, hct]
    obtain ⟨zs, h1, h2, h3⟩ := mapM_ints he hce n 0 xs (by omega) hxs
    refine ⟨zs, h1, ?_, h3⟩
    rw [List.drop_zero, List.take_of_length_le (by omega)] at h2
    rw [← h2]
end

theorem wf_u16' {n : Int} (h : (Lit.int .u16 n).wf = true) : 0 ≤ n ∧ n ≤ 65535 := by
  simp [Lit.wf, IntKind.min, IntKind.max, IntKind.signed, IntKind.bits] at h
  omega
theorem wf_i64' {n : Int} (h : (Lit.int .i64 n).wf = true) : -9223372036854775808 ≤ n ∧ n ≤ 9223372036854775807 := by
  simp [Lit.wf, IntKind.min, IntKind.max, IntKind.signed, IntKind.bits] at h
  omega
theorem wf_u8' {n : Int} (h : (Lit.int .u8 n).wf = true) : 0 ≤ n ∧ n ≤ 255 := by
  simp [Lit.wf, IntKind.min, IntKind.max, IntKind.signed, IntKind.bits] at h
  omega
theorem wf_u32' {n : Int} (h : (Lit.int .u32 n).wf = true) : 0 ≤ n ∧ n ≤ 4294967295 := by
  simp [Lit.wf, IntKind.min, IntKind.max, IntKind.signed, IntKind.bits] at h
  omega
theorem wf_i32' {n : Int} (h : (Lit.int .i32 n).wf = true) : -2147483648 ≤ n ∧ n ≤ 2147483647 := by
  simp [Lit.wf, IntKind.min, IntKind.max, IntKind.signed, IntKind.bits] at h
  omega
theorem wf_u64' {n : Int} (h : (Lit.int .u64 n).wf = true) : 0 ≤ n ∧ n ≤ 18446744073709551615 := by
  simp [Lit.wf, IntKind.min, IntKind.max, IntKind.signed, IntKind.bits] at h
  omega

/-- short forms: a world behind draws and rows laid -/
class Rch (w a : World) : Prop where
  h : Below w.heap.size w a
instance (w : World) : Rch w w := ⟨Below.refl _ _⟩
instance {w a : World} [r : Rch w a] : Rch w a.drew := ⟨r.h.drew⟩
instance {w a : World} {n : Nat} [r : Rch w a] : Rch w (a.drewN n) := ⟨r.h.trans (below_drewN _ _ _)⟩
instance {w a : World} {o : Obj} [r : Rch w a] : Rch w (a.alloc o) := ⟨r.h.alloc r.h.size _⟩
theorem bup {w a : World} [r : Rch w a] : Below w.heap.size w a := r.h
theorem sl {P : Program} {ops : Array Oper} {Q : Exit → Act → World → Prop} {op : Op} {ty : TypeId} {pos : String} {af : Array Edge} {gd : Option (Nat × Bool)} {rest : List Oper} {a : Act} {w : World} (k : Nat) (h : wpList P ops Q (⟨some k, op, ty, pos, af, gd⟩ :: rest) a w) : wpList P ops Q (⟨some k, op, ty, pos, af, gd⟩ :: rest) a w := h
theorem PT : (∀ (a : Act) (d : Tmp) (v : Value), a.put (some d) v = { a with tmps := a.tmps.setIfInBounds d v }) ∧ (∀ (a : Act) (v : Value), a.put none v = a) ∧ (∀ (l : List Value) (i : Nat) (v : Value), l.toArray.setIfInBounds i v = (l.set i v).toArray) ∧ (∀ (x v : Value) (l : List Value), (x :: l).set 0 v = v :: l) ∧ (∀ (x v : Value) (i : Nat) (l : List Value), (x :: l).set (i + 1) v = x :: l.set i v) :=
  ⟨fun _ _ _ => rfl, fun _ _ => rfl, fun _ _ _ => by simp, fun _ _ _ => rfl, fun _ _ _ _ => rfl⟩
/-- what is known is carried: p at w, q the same at w' -/
class Ck (p : Prop) (w' : World) (w : outParam World) (q : outParam Prop) : Prop where
  h : p → Below w.heap.size w w' → q
theorem ck {p q : Prop} {w w' : World} [c : Ck p w' w q] (h : Hid p) (hE : Below w.heap.size w w') : Hid q := Lib.hid (c.h h.out hE)
theorem ckk {p q : Prop} {w a w' : World} [c : Ck p w' w q] (h : Hid p) (hu : Below w.heap.size w a) (hb : Below a.heap.size a w') : Hid q := Lib.hid (c.h h.out (hu.trans (hb.mono hu.size)))
instance {v w w' : World} : Ck (Below v.heap.size v w) w' w (Below v.heap.size v w') := ⟨fun h hE => h.trans (hE.mono h.size)⟩
/-- .. over a store into block g -/
class Cg (p : Prop) (w1 : World) (g : Nat) (w : outParam World) (s q : outParam Prop) : Prop where
  h : ∀ wd, p → Below w.heap.size w wd → wd.grownBy w1 (some g) → s → q
theorem cg {p s q : Prop} {w wd w1 : World} {g : Nat} [c : Cg p w1 g w s q] (h : Hid p) (hE : Below w.heap.size w wd) (hg : wd.grownBy w1 (some g)) (hs : s) : Hid q := Lib.hid (c.h wd h.out hE hg hs)
end Go.Proofs.Ytgpdlhbndoeldaa
/-
  Bytes: a row of them as a list, and what is done to such lists: turned round, and so on. Over any program.
-/
namespace Go.Proofs.Ytgpdlhbndoeldaa
open Go.RowKit Go.Sort
set_option linter.unusedVariables false
set_option linter.unusedSimpArgs false

/-- the cells of bytes -/
def BV (l : List UInt8) : List Value := l.map fun b => Value.int .u8 (b.toNat : Int)
theorem BV_length (l : List UInt8) : (BV l).length = l.length := by simp [BV]
theorem BV_one (l : List UInt8) : ∀ u ∈ BV l, u.oneCell' = true := by
  intro u hu
  obtain ⟨x, _, rfl⟩ := List.mem_map.1 hu
  rfl
theorem BV_append (l m : List UInt8) : BV (l ++ m) = BV l ++ BV m := by simp [BV]
theorem BV_nil : BV [] = [] := rfl
theorem BV_get (l : List UInt8) (i : Nat) (h : i < (BV l).length) : (BV l)[i] = .int .u8 ((l[i]'(by simpa [BV] using h)).toNat : Int) := by simp [BV]
theorem BV_set (l : List UInt8) (i : Nat) (b : UInt8) : (BV l).set i (.int .u8 (b.toNat : Int)) = BV (l.set i b) := by simp [BV, List.map_set]
theorem BV_inj {l m : List UInt8} (h : BV l = BV m) : l = m := by
  unfold BV at h
  refine List.map_inj_right (fun a b hab => ?_) |>.1 h
  simp at hab
  exact UInt8.toNat_inj.1 (by omega)

/-- byte j (0 behind the end) -/
def at8 (l : List UInt8) (j : Nat) : UInt8 := l.getD j 0
theorem at8_lt (l : List UInt8) (j : Nat) : (0 : Int) ≤ ((at8 l j).toNat : Int) ∧ ((at8 l j).toNat : Int) ≤ 255 := by
  have := (at8 l j).toNat_lt
  omega
theorem at8_get (l : List UInt8) (j : Nat) (h : j < l.length) : at8 l j = l[j] := by simp [at8, List.getD, h]
theorem at8_end (l : List UInt8) (j : Nat) (h : l.length ≤ j) : at8 l j = 0 := by simp [at8, List.getD, h]

/-- bytes that came in, as numbers -/
def ofInts (zs : List Int) : List UInt8 := zs.map fun z => UInt8.ofNat z.toNat
theorem BV_ofInts {zs : List Int} (h : ∀ n ∈ zs, (Lit.int .u8 n).wf = true) : BV (ofInts zs) = zs.map (Value.int .u8) := by
  unfold BV ofInts
  rw [List.map_map]
  refine List.map_congr_left fun z hz => ?_
  have hb := wf_u8' (h z hz)
  simp only [Function.comp]
  rw [UInt8.toNat_ofNat_of_lt' (by show z.toNat < 256; omega)]
  congr 1
  omega

/-- a slice of bytes reads as l -/
def Bs (w : World) (ad : Option Addr) (n c : Nat) (l : List UInt8) : Prop := Sl w ad n c 1 (BV l)
theorem Bs.len {w : World} {ad : Option Addr} {n c : Nat} {l : List UInt8} (h : Bs w ad n c l) : n = l.length := by have := Sl.len h; rw [BV_length] at this; omega
theorem Bs.le {w : World} {ad : Option Addr} {n c : Nat} {l : List UInt8} (h : Bs w ad n c l) : n ≤ c ∧ c ≤ 9223372036854775807 := ⟨h.2.1, by have := h.2.2.1; simp [maxLen] at this; omega⟩
theorem Bs.below {w w' : World} {ad : Option Addr} {n c : Nat} {l : List UInt8} (h : Bs w ad n c l) (hb : Below w.heap.size w w') : Bs w' ad n c l := Sl.below h hb
theorem Bs.at {w : World} {ad : Option Addr} {n c : Nat} {l : List UInt8} (h : Bs w ad n c l) {j : Nat} (hj : j < l.length) :
    ∃ b off, ad = some ⟨b, off, none⟩ ∧ b < w.heap.size ∧ ∀ i, i < l.length → w.cell? ⟨b, off + i, none⟩ = some (.int .u8 ((at8 l i).toNat : Int)) := by
  obtain ⟨b, off, ha, hb, hc⟩ := Sl.at h (j := j) (by rw [BV_length]; exact hj)
  refine ⟨b, off, ha, hb, fun i hi => ?_⟩
  rw [hc i (by rw [BV_length]; exact hi), BV_get]
  simp [at8, List.getD, hi]
theorem Bs.of_own {w : World} {base : Nat} {e : TypeId} {ad : Option Addr} {n c : Nat} {l : List UInt8} (h : w.ownsRow base e 1 (.slice ad n c) n (BV l)) : Bs w ad n c l := Sl.of_own h

/-- What a function answers that hands back bytes in memory of its own. -/
def RetB (e : TypeId) (l : List UInt8) (w : World) (en : Ending) (w' : World) : Prop :=
  ∃ ad c, en = .returned (.slice ad l.length c) ∧ w'.ownsRow w.heap.size e 1 (.slice ad l.length c) l.length (BV l) ∧ Below w.heap.size w w'

theorem own_form {w : World} {base : Nat} {e : TypeId} {size : Nat} {ad : Option Addr} {n c : Nat} {xs : List Value} (h : w.ownsRow base e size (.slice ad n c) n xs) :
    (ad = none ∧ n = 0 ∧ c = 0) ∨ ∃ g, ad = some ⟨g, 0, none⟩ ∧ base ≤ g ∧ g < w.heap.size := by
  have hlt := h.lt
  rcases h.2 with ⟨hv, h0⟩ | ⟨g, cap, cur, hv, _⟩
  · simp at hv; exact .inl ⟨hv.1, h0, hv.2.2⟩
  · simp at hv
    obtain ⟨rfl, rfl⟩ := hv
    exact .inr ⟨g, rfl, (hlt g rfl).1, (hlt g rfl).2⟩

theorem own_base {w : World} {base base' : Nat} {e : TypeId} {size : Nat} {ad : Option Addr} {n c : Nat} {xs : List Value} (h : w.ownsRow base e size (.slice ad n c) n xs) (hb : base' ≤ base) : w.ownsRow base' e size (.slice ad n c) n xs := by
  obtain ⟨h1, h2⟩ := h
  refine ⟨h1, ?_⟩
  rcases h2 with h2 | ⟨g, cap, cur, hv, hg, r⟩
  · exact .inl h2
  · exact .inr ⟨g, cap, cur, hv, Nat.le_trans hb hg, r⟩

theorem own_below {w w' : World} {base B : Nat} {e : TypeId} {size : Nat} {ad : Option Addr} {n c : Nat} {xs : List Value} (h : w.ownsRow base e size (.slice ad n c) n xs) (hb : Below B w w') (hlt : ∀ g, ad = some ⟨g, 0, none⟩ → g < B) : w'.ownsRow base e size (.slice ad n c) n xs := by
  obtain ⟨h1, h2⟩ := h
  refine ⟨h1, ?_⟩
  rcases h2 with h2 | ⟨g, cap, cur, hv, hg, hh, r⟩
  · exact .inl h2
  · have hv' := hv
    simp at hv'
    exact .inr ⟨g, cap, cur, hv, hg, by rw [hb.block g (hlt g hv'.1)]; exact hh, r⟩

/-- .. the same, where nothing that was there has turned -/
theorem own_keep {w w' : World} {base : Nat} {e : TypeId} {size : Nat} {ad : Option Addr} {n c : Nat} {xs : List Value} (h : w.ownsRow base e size (.slice ad n c) n xs) (hb : Below w.heap.size w w') : w'.ownsRow base e size (.slice ad n c) n xs :=
  own_below h hb fun g hg => by
    rcases own_form h with ⟨h0, _⟩ | ⟨g', h1, _, h2⟩
    · rw [h0] at hg; cases hg
    · rw [h1] at hg; cases hg; exact h2

theorem own_cell {w : World} {base : Nat} {e : TypeId} {g n c : Nat} {l : List UInt8} (h : w.ownsRow base e 1 (.slice (some ⟨g, 0, none⟩) n c) n (BV l)) {j : Nat} (hj : j < n) : w.cell? ⟨g, j, none⟩ = some (.int .u8 ((at8 l j).toNat : Int)) := by
  have hl := h.1
  rw [BV_length] at hl
  rw [h.cellAt j (by omega), List.getElem?_eq_getElem (by rw [BV_length]; omega), BV_get]
  simp [at8, List.getD, show j < l.length by omega]

theorem own_store {w : World} {base : Nat} {e : TypeId} {g n c : Nat} {l : List UInt8} (h : w.ownsRow base e 1 (.slice (some ⟨g, 0, none⟩) n c) n (BV l)) (j : Nat) (b : UInt8) :
    (w.setCell ⟨g, j, none⟩ (.int .u8 (b.toNat : Int))).ownsRow base e 1 (.slice (some ⟨g, 0, none⟩) n c) n (BV (l.set j b)) ∧ w.grownBy (w.setCell ⟨g, j, none⟩ (.int .u8 (b.toNat : Int))) (some g) := by
  have := h.stored j (.int .u8 (b.toNat : Int))
  rwa [BV_set] at this

/-! ### turned round, a swap a step -/
/-- the first k and the last k have been swapped -/
def revTo (l : List UInt8) (k : Nat) : List UInt8 := (List.range l.length).map fun j => if j < k ∨ l.length ≤ j + k then l.getD (l.length - 1 - j) 0 else l.getD j 0
theorem revTo_length (l : List UInt8) (k : Nat) : (revTo l k).length = l.length := by simp [revTo]
theorem revTo_get (l : List UInt8) (k j : Nat) (h : j < l.length) : (revTo l k).getD j 0 = if j < k ∨ l.length ≤ j + k then l.getD (l.length - 1 - j) 0 else l.getD j 0 := by
  simp [revTo, List.getD, h]
theorem ext_getD {l m : List UInt8} (hl : l.length = m.length) (h : ∀ j, j < l.length → l.getD j 0 = m.getD j 0) : l = m := by
  apply List.ext_getElem hl
  intro j h1 h2
  have := h j h1
  simpa [List.getD, h1, h2] using this
theorem revTo_zero (l : List UInt8) : revTo l 0 = l := by
  apply ext_getD (by rw [revTo_length])
  intro j hj
  rw [revTo_length] at hj
  rw [revTo_get l 0 j hj, if_neg (by omega)]
theorem revTo_end (l : List UInt8) (k : Nat) (h : l.length ≤ 2 * k + 1) : revTo l k = l.reverse := by
  apply ext_getD (by rw [revTo_length]; simp)
  intro j hj
  rw [revTo_length] at hj
  rw [revTo_get l k j hj]
  have hr : l.reverse.getD j 0 = l.getD (l.length - 1 - j) 0 := by
    simp [List.getD, List.getElem?_reverse hj]
  rw [hr]
  split
  · rfl
  · have : l.length - 1 - j = j := by omega
    rw [this]
theorem set_getD (l : List UInt8) (i j : Nat) (b : UInt8) (hi : i < l.length) : (l.set i b).getD j 0 = if i = j then b else l.getD j 0 := by
  simp only [List.getD, List.getElem?_set]
  split
  · subst_vars; simp
  · rfl
theorem revTo_succ (l : List UInt8) (k : Nat) (h : 2 * k + 1 < l.length) :
    ((revTo l k).set k (at8 (revTo l k) (l.length - 1 - k))).set (l.length - 1 - k) (at8 (revTo l k) k) = revTo l (k + 1) := by
  apply ext_getD (by simp [revTo_length])
  intro j hj
  simp only [List.length_set, revTo_length] at hj
  rw [set_getD _ _ _ _ (by simp [revTo_length]; omega), set_getD _ _ _ _ (by simp [revTo_length]; omega)]
  unfold at8
  have e1 : (revTo l k).getD k 0 = l.getD k 0 := by rw [revTo_get l k k (by omega), if_neg (by omega)]
  have e2 : (revTo l k).getD (l.length - 1 - k) 0 = l.getD (l.length - 1 - k) 0 := by rw [revTo_get l k _ (by omega), if_neg (by omega)]
  rw [e1, e2, revTo_get l (k + 1) j hj, revTo_get l k j hj]
  by_cases h1 : l.length - 1 - k = j
  · rw [if_pos h1, if_pos (by omega)]
    congr 1
    omega
  · rw [if_neg h1]
    by_cases h2 : k = j
    · rw [if_pos h2, if_pos (by omega)]
      congr 1
      omega
    · rw [if_neg h2]
      by_cases h3 : j < k ∨ l.length ≤ j + k
      · rw [if_pos h3, if_pos (by omega)]
      · rw [if_neg h3, if_neg (by omega)]

/-! ### numbers as bytes -/
/-- byte i of a number, the lowest first -/
def byteAt (n i : Nat) : UInt8 := UInt8.ofNat (n / 2 ^ (8 * i))
theorem byteAt_toNat (n i : Nat) : (byteAt n i).toNat = n / 2 ^ (8 * i) % 256 := by unfold byteAt; simp
theorem byteAt_wrap (n i : Nat) : IntKind.u8.wrap (((n / 2 ^ (8 * i) : Nat)) : Int) = ((byteAt n i).toNat : Int) := by
  rw [byteAt_toNat, IntKind.wrap_u8]; omega
theorem byteAt_int (n i : Nat) : (n : Int) / 2 ^ (8 * i) % 256 = ((byteAt n i).toNat : Int) := by
  rw [byteAt_toNat, Int.natCast_emod, Int.natCast_ediv, Int.natCast_pow]; rfl
def putLE (n k : Nat) : List UInt8 := (List.range k).map (byteAt n)
theorem putLE_length (n k : Nat) : (putLE n k).length = k := by simp [putLE]
/-- what the document lays of a number: how many bytes, in which order -/
def sizeOf8 (size : Int) : Nat := min size.toNat 8
def putL (n : Nat) (size : Int) (big : Bool) : List UInt8 := if big then (putLE n (sizeOf8 size)).reverse else putLE n (sizeOf8 size)
theorem putL_length (n : Nat) (size : Int) (big : Bool) : (putL n size big).length = sizeOf8 size := by unfold putL; split <;> simp [putLE_length]
/-- the first k of L bytes are laid -/
def putTo (n L k : Nat) : List UInt8 := (List.range L).map fun i => if i < k then byteAt n i else 0
theorem putTo_length (n L k : Nat) : (putTo n L k).length = L := by simp [putTo]
theorem putTo_zero (n L : Nat) : BV (putTo n L 0) = List.replicate L (.int .u8 0) := by
  apply List.ext_getElem (by simp [BV, putTo])
  intro i h1 h2
  simp [BV, putTo]
theorem putTo_all (n L : Nat) : putTo n L L = putLE n L := by
  unfold putTo putLE
  refine List.map_congr_left fun i hi => ?_
  rw [if_pos (by simpa using hi)]
theorem putTo_succ (n L k : Nat) (h : k < L) : (putTo n L k).set k (byteAt n k) = putTo n L (k + 1) := by
  apply ext_getD (by simp [putTo])
  intro j hj
  simp only [List.length_set, putTo_length] at hj
  rw [set_getD _ _ _ _ (by rw [putTo_length]; exact h)]
  simp only [putTo, List.getD, List.getElem?_map, List.getElem?_range hj, Option.map_some, Option.getD_some]
  by_cases h1 : k = j
  · rw [if_pos h1, if_pos (by omega), h1]
  · rw [if_neg h1]
    by_cases h2 : j < k
    · rw [if_pos h2, if_pos (by omega)]
    · rw [if_neg h2, if_neg (by omega)]

/-! ### bytes as numbers -/
def numBE (l : List UInt8) : Nat := l.foldl (fun n b => n * 256 + b.toNat) 0
theorem numBE_nil : numBE [] = 0 := rfl
theorem numBE_snoc (l : List UInt8) (b : UInt8) : numBE (l ++ [b]) = numBE l * 256 + b.toNat := by simp [numBE]
theorem numBE_lt (l : List UInt8) : numBE l < 256 ^ l.length := by
  have key : ∀ m : List UInt8, numBE m.reverse < 256 ^ m.length := by
    intro m
    induction m with
    | nil => simp [numBE]
    | cons b m ih =>
      rw [List.reverse_cons, numBE_snoc, List.length_cons, Nat.pow_succ]
      have := b.toNat_lt
      omega
  have := key l.reverse
  simpa using this
theorem numBE_lt8 (l : List UInt8) (h : l.length ≤ 8) : numBE l < 18446744073709551616 :=
  Nat.lt_of_lt_of_le (numBE_lt l) (Nat.pow_le_pow_right (by omega) h)
theorem numBE_lt7 (l : List UInt8) (h : l.length ≤ 7) : numBE l < 72057594037927936 :=
  Nat.lt_of_lt_of_le (numBE_lt l) (Nat.pow_le_pow_right (by omega) h)
def getN (l : List UInt8) (big : Bool) : Nat := if big then numBE (l.take 8) else numBE (l.take 8).reverse
theorem getN_lt (l : List UInt8) (big : Bool) : getN l big < 18446744073709551616 := by
  unfold getN
  split
  · exact numBE_lt8 _ (by simp; omega)
  · exact numBE_lt8 _ (by simp; omega)

/-- one byte more -/
def stepN (a : Nat) (b : UInt8) : Nat := a * 256 + b.toNat
theorem u64_wrap_nat (n : Nat) (h : n < 18446744073709551616) : IntKind.u64.wrap (n : Int) = n := by rw [IntKind.wrap_u64]; omega
theorem or_byte (a : Nat) (b : UInt8) (h : a < 72057594037927936) : bits BinOp.or .u64 (IntKind.u64.wrap ((a : Int) * 256)) ((b.toNat : Nat) : Int) = ((stepN a b : Nat) : Int) := by
  unfold stepN
  have hb := b.toNat_lt
  have e : IntKind.u64.wrap ((a : Int) * 256) = ((a * 256 : Nat) : Int) := by rw [IntKind.wrap_u64]; omega
  rw [e]
  show IntKind.u64.wrap ((BitVec.ofInt 64 ((a * 256 : Nat) : Int) ||| BitVec.ofInt 64 ((b.toNat : Nat) : Int)).toNat : Int) = _
  rw [BitVec.toNat_or]
  have e1 : (BitVec.ofInt 64 ((a * 256 : Nat) : Int)).toNat = a * 256 := by rw [BitVec.toNat_ofInt]; show (((a * 256 : Nat) : Int) % 18446744073709551616).toNat = _; omega
  have e2 : (BitVec.ofInt 64 ((b.toNat : Nat) : Int)).toNat = b.toNat := by rw [BitVec.toNat_ofInt]; show (((b.toNat : Nat) : Int) % 18446744073709551616).toNat = _; omega
  rw [e1, e2]
  have : a * 256 ||| b.toNat = a * 256 + b.toNat := by
    have := Nat.two_pow_add_eq_or_of_lt (i := 8) (b := b.toNat) hb a
    rw [Nat.mul_comm a 256]
    exact this.symm
  rw [this, u64_wrap_nat _ (by omega)]
theorem take_snoc8 (l : List UInt8) (k : Nat) (h : k < l.length) : l.take (k + 1) = l.take k ++ [at8 l k] := by
  rw [List.take_add_one, List.getElem?_eq_getElem h, at8_get l k h]; rfl
theorem numBE_take_succ (l : List UInt8) (k : Nat) (h : k < l.length) : numBE (l.take (k + 1)) = stepN (numBE (l.take k)) (at8 l k) := by
  rw [take_snoc8 l k h, numBE_snoc]; rfl
/-- from behind: what has been read in k rounds -/
def numFrom (l : List UInt8) (k : Nat) : Nat := numBE (l.reverse.take k)
theorem numFrom_succ (l : List UInt8) (k : Nat) (h : k < l.length) : numFrom l (k + 1) = stepN (numFrom l k) (at8 l (l.length - 1 - k)) := by
  unfold numFrom
  rw [numBE_take_succ _ _ (by simpa using h)]
  have : at8 l.reverse k = at8 l (l.length - 1 - k) := by rw [at8_get _ _ (by simpa using h), at8_get _ _ (by omega), List.getElem_reverse]
  rw [this]
theorem numFrom_lt7 (l : List UInt8) (k : Nat) (h : k ≤ 7) : numFrom l k < 72057594037927936 := numBE_lt7 _ (by simp; omega)
theorem numFrom_all (l : List UInt8) : numFrom l l.length = numBE l.reverse := by unfold numFrom; rw [List.take_of_length_le (by simp)]
theorem numBE_map_snoc {α : Type} (f : α → UInt8) (pre : List α) (x : α) : numBE ((pre ++ [x]).map f) = stepN (numBE (pre.map f)) (f x) := by
  rw [List.map_append, List.map_cons, List.map_nil, numBE_snoc]; rfl

/-! ### strings out of bytes -/
def strOf (l : List UInt8) : ByteArray := ⟨l.toArray⟩
theorem strOf_data (l : List UInt8) : (strOf l).data.toList = l := rfl
theorem strOf_toList (l : List UInt8) : (strOf l).toList = l := by
  unfold ByteArray.toList
  have key : ∀ (k : Nat) (r : List UInt8), k ≤ l.length → ByteArray.toList.loop (strOf l) (l.length - k) r = r.reverse ++ l.drop (l.length - k) := by
    intro k
    induction k with
    | zero =>
      intro r _
      unfold ByteArray.toList.loop
      rw [if_neg (by show ¬ (l.length - 0 < (strOf l).size); simp [strOf, ByteArray.size])]
      simp
    | succ k ih =>
      intro r hk
      unfold ByteArray.toList.loop
      rw [if_pos (by show l.length - (k + 1) < (strOf l).size; simp [strOf, ByteArray.size]; omega)]
      rw [show l.length - (k + 1) + 1 = l.length - k by omega, ih _ (by omega)]
      have hlt : l.length - (k + 1) < l.length := by omega
      rw [List.drop_eq_getElem_cons hlt, show l.length - (k + 1) + 1 = l.length - k by omega]
      have : (strOf l).get! (l.length - (k + 1)) = l[l.length - (k + 1)] := by
        simp [strOf, ByteArray.get!, hlt]
      rw [this]
      simp
  have := key l.length [] (Nat.le_refl _)
  simpa using this

theorem run_str {P : Program} {w : World} {src dst e : TypeId} {ad : Option Addr} {n c : Nat} {l : List UInt8} (hs : P.underlying src = some (.slice e)) (he : P.underlying e = some (.int .u8)) (hd : P.underlying dst = some .string) (hb : Bs w ad n c l) :
    (convert src dst (.slice ad n c)).run P w = .ok (.string (strOf l)) w := by
  have hn := hb.len
  subst hn
  cases ad with
  | none =>
    obtain ⟨_, _, _, h0, _⟩ := hb
    have : l = [] := List.length_eq_zero_iff.1 (h0 rfl).1
    subst this
    rw [run_convert_bytes_nil (P := P) w src e hs he _ _ dst hd]
    rfl
  | some x =>
    refine run_convert_bytes_back (P := P) w src dst e x c l hs he hd fun j hj => ?_
    obtain ⟨y, hy, hc⟩ := hb.2.2.2.2 j (.int .u8 (l[j].toNat : Int)) (by rw [List.getElem?_eq_getElem (by rw [BV_length]; exact hj), BV_get])
    cases hy
    exact hc

theorem wpL_str {P : Program} {w : World} {ops : Array Oper} {rest : List Oper} {o : Oper} {a : Act} {Q : Exit → Act → World → Prop} {src dst e : TypeId} (hs : P.underlying src = some (.slice e)) (he : P.underlying e = some (.int .u8)) (hd : P.underlying dst = some .string)
    (hg : Region.wanted o (yielded ops a.tmps) = true) (x : Operand) (hop : o.op = Op.convert src dst x) {ad : Option Addr} {n c : Nat} {l : List UInt8} (hx : a.eval x = .slice ad n c) (hb : Bs w ad n c l)
    (h : wpList P ops Q rest (a.put o.dst (.string (strOf l))) w) : wpList P ops Q (o :: rest) a w := by
  refine wpL_run hg ?_ h
  simp only [execOp, hop, hx, Sem.run_bind, run_str hs he hd hb, Result.andThen_ok, Sem.run_pure]

/-- the same bytes? -/
def sameB (l m : List UInt8) : Bool := l == m
theorem sameB_str (l m : List UInt8) : ((strOf l).toList == (strOf m).toList) = sameB l m := by rw [strOf_toList, strOf_toList]; rfl
theorem sameB_self (l : List UInt8) : sameB l l = true := by simp [sameB]

/-- one byte's cell -/
theorem Bs.one (w : World) (e : TypeId) (b : UInt8) : Bs (w.alloc (.cells #[.int .u8 (b.toNat : Int)] e)) (some ⟨w.heap.size, 0, none⟩) 1 1 [b] :=
  Sl.lit w #[.int .u8 (b.toNat : Int)] e 1 1 rfl (by simp [maxLen])

/-! ### padding -/
def padI (n : Int) : Int := if n ≤ 0 then 0 else (4 - n % 4) % 4
theorem padI_range (n : Int) : 0 ≤ padI n ∧ padI n ≤ 3 := by unfold padI; split <;> omega
def padN (n : Nat) : Nat := (4 - n % 4) % 4
theorem padN_le (n : Nat) : padN n ≤ 3 := by unfold padN; omega
theorem padI_nat (n : Nat) : padI (n : Int) = (padN n : Int) := by unfold padI padN; split <;> omega
def padL (l : List UInt8) : List UInt8 := l ++ List.replicate (padN l.length) 0
theorem padL_length (l : List UInt8) : (padL l).length = l.length + padN l.length := by simp [padL]
def padTo (l : List UInt8) (k : Nat) : List UInt8 := l ++ List.replicate k 0
theorem padTo_length (l : List UInt8) (k : Nat) : (padTo l k).length = l.length + k := by simp [padTo]
theorem padTo_succ (l : List UInt8) (k : Nat) : padTo l (k + 1) = padTo l k ++ [0] := by simp [padTo, List.replicate_succ']
theorem padTo_zero (l : List UInt8) : padTo l 0 = l := by simp [padTo]
theorem padTo_pad (l : List UInt8) : padTo l (padN l.length) = padL l := rfl
theorem padN_end (n k : Nat) (h : (n + k) % 4 = 0) (hk : k ≤ padN n) : k = padN n := by unfold padN at *; omega
theorem padN_more (n k : Nat) (h : (n + k) % 4 ≠ 0) (hk : k ≤ padN n) : k < padN n := by unfold padN at *; omega
theorem padN_mod (n : Nat) : (n + padN n) % 4 = 0 := by unfold padN; omega

theorem putLE_succ (n k : Nat) : putLE n (k + 1) = putLE n k ++ [byteAt n k] := by simp [putLE, List.range_succ]
theorem byteAt_quo (n k : Nat) : IntKind.u8.wrap (((n / 256 ^ k % 256 : Nat)) : Int) = ((byteAt n k).toNat : Int) := by
  rw [byteAt_toNat, show (256 : Nat) ^ k = 2 ^ (8 * k) by rw [show (256 : Nat) = 2 ^ 8 from rfl, ← Nat.pow_mul], IntKind.wrap_u8]
  omega
theorem byteAt_mod (n k : Nat) : ((n / 256 ^ k : Nat) : Int) % 256 = ((byteAt n k).toNat : Int) := by
  rw [byteAt_toNat, show (256 : Nat) ^ k = 2 ^ (8 * k) by rw [show (256 : Nat) = 2 ^ 8 from rfl, ← Nat.pow_mul]]
  omega
theorem quo_succ (n k : Nat) : ((n / 256 ^ k : Nat) : Int) / 256 = ((n / 256 ^ (k + 1) : Nat) : Int) := by
  rw [Nat.pow_succ, ← Nat.div_div_eq_div_mul]; omega
theorem putL_to (n : Nat) (size : Int) (big : Bool) (k : Nat) (h : k = sizeOf8 size) : (if big then (putLE n k).reverse else putLE n k) = putL n size big := by subst h; rfl
instance {w w' : World} {ad : Option Addr} {n c : Nat} {l : List UInt8} : Ck (Bs w ad n c l) w' w (Bs w' ad n c l) := ⟨fun h hE => h.below hE⟩
instance {w w' : World} {base : Nat} {e : TypeId} {size : Nat} {ad : Option Addr} {n c : Nat} {xs : List Value} : Ck (w.ownsRow base e size (.slice ad n c) n xs) w' w (w'.ownsRow base e size (.slice ad n c) n xs) := ⟨fun h hE => own_keep h hE⟩
end Go.Proofs.Ytgpdlhbndoeldaa
/-
  The contracts of the functions on numbers as bytes.
-/
namespace Go.Proofs.Ytgpdlhbndoeldaa
open Go.RowKit Go.Sort
set_option linter.unusedVariables false
set_option linter.unusedSimpArgs false

theorem elB : Elem Try.prog 72 5 1 1 (.int .u8 0) := ⟨Try.underlying72, by kernel_rfl, rfl, by omega⟩

set_option maxRecDepth 100000 in
theorem reverse_any (base : Nat) (ad : Option Addr) (n c : Nat) (l : List UInt8) (w : World) (hown : w.ownsRow base 5 1 (.slice ad n c) n (BV l)) (hn : n = l.length) (hsz : n ≤ 140737488351232) :
    Calls Try.prog 76 #[.slice ad n c] w fun e w' => e = .returned (.tuple #[]) ∧ w'.ownsRow base 5 1 (.slice ad n c) n (BV l.reverse) ∧ w.grownBy w' (Value.ownBlock (.slice ad n c)) := by
  have HN := Lib.hid hn
  clear hn
  have HO := Lib.hid hown
  clear hown
  go_enter Try.func76, Try.ntmps76
  go_wp2
  go_loopw [2, 3] (fun i j wr => ∃ k : Nat, k ≤ n ∧ i = .int .i64 k ∧ j = .int .i64 ((n : Int) - 1 - k) ∧ wr.ownsRow base 5 1 (.slice ad n c) n (BV (revTo l k)) ∧ w.grownBy wr (Value.ownBlock (.slice ad n c))) (fun i _ _ => n - (intOf i).toNat)
  case atStart => exact ⟨0, Nat.zero_le _, rfl, by simp, by rw [revTo_zero]; exact HO.out, World.grownBy.refl _ _⟩
  case round =>
    obtain ⟨k, hk, rfl, rfl, hown, hg⟩ := hrel
    by_cases hlt : 2 * k + 1 < n
    · rcases own_form hown with ⟨_, h0, _⟩ | ⟨g, rfl, hbg, hgs⟩
      · omega
      · have c1 := own_cell hown (j := k) (by omega)
        have c2 := own_cell hown (j := n - 1 - k) (by omega)
        have f1 := hown.frozenAt k
        have f2 := hown.frozenAt (n - 1 - k)
        have HOW := Lib.hid hown
        have HG := Lib.hid hg
        clear hown hg
        have b1 : (0 : Int) ≤ (n : Int) - 1 - k := by omega
        have b2 : (n : Int) - 1 - k < n := by omega
        have b3 : (k : Int) < n := by omega
        go_wp2_with fail
        go_region
        obtain ⟨w1, hw1⟩ : ∃ w1, w1 = ((wr.setCell ⟨g, k, none⟩ (.int .u8 (at8 (revTo l k) (n - 1 - k)).toNat)).setCell ⟨g, n - 1 - k, none⟩ (.int .u8 (at8 (revTo l k) k).toNat)).drew := ⟨_, rfl⟩
        have hR : w1.ownsRow base 5 1 (.slice (some ⟨g, 0, none⟩) n c) n (BV (revTo l (k + 1))) ∧ w.grownBy w1 (some g) := by
          subst hw1
          have hl := HN.out
          obtain ⟨o1, g1⟩ := own_store HOW.out k (at8 (revTo l k) (n - 1 - k))
          obtain ⟨o2, g2⟩ := own_store o1 (n - 1 - k) (at8 (revTo l k) k)
          have := revTo_succ l k (by omega)
          rw [← hl] at this
          rw [this] at o2
          exact ⟨World.ownsRow.drew o2, HG.out.trans (g1.trans (g2.trans (grown_drew _ _)))⟩
        have HR := Lib.hid hR
        rw [← hw1]
        clear hw1 hR c1 c2 f1 f2 HOW HG
        go_wp2_with fail
        go_roundw
        case rel => exact ⟨k + 1, by omega, by go_num, by go_num, HR.out.1, HR.out.2⟩
        case measure => simp [intOf]; omega
    · have HOW := Lib.hid hown
      have HG := Lib.hid hg
      clear hown hg
      go_wp2_with fail
      go_end0
      refine ⟨rfl, ?_, HG.out⟩
      have := HOW.out
      rwa [revTo_end l k (by have := HN.out; omega)] at this

set_option maxRecDepth 100000 in
theorem put_any (n : Nat) (size : Int) (big : Bool) (w : World) (hn : (n : Int) ≤ 18446744073709551615) :
    Calls Try.prog 61 #[.int .u64 n, .int .i64 size, .bool big] w (RetB 5 (putL n size big) w) := by
  obtain ⟨L, hL⟩ : ∃ L, L = sizeOf8 size := ⟨_, rfl⟩
  have hL8 : L ≤ 8 := by rw [hL]; unfold sizeOf8; omega
  have HL := Lib.hid hL
  have HC : Hid (size < 0 ∧ (L : Int) ≤ 0 ∨ (0 ≤ size ∧ size ≤ 8 ∧ size = L) ∨ (8 < size ∧ 8 ≤ L)) := Lib.hid (by rw [hL]; unfold sizeOf8; omega)
  clear hL
  rcases HC.out with ⟨c1, c2⟩ | ⟨c1, c2, rfl⟩ | ⟨c1, c2⟩
  all_goals
    clear HC
    go_enter Try.func61, Try.ntmps61
    go_wp2_with (at_make; go_must (refine wpL_make elB rfl (.tmp 11) (.tmp 11) rfl w.heap.size L rfl rfl (by omega) (by omega) (by omega) (by unfold maxLen; omega) (Nat.le_refl _) ?_))
    intro w1 hown1 hg1
    have HO1 : Hid (w1.ownsRow w.heap.size 5 1 (.slice (some ⟨w.heap.size, 0, none⟩) L L) L (BV (putTo n L 0))) := Lib.hid (by rw [putTo_zero, ← toList_madeCells_one]; exact hown1)
    have HB1 := Lib.hid ((Below.refl w.heap.size w).grown hg1 (Nat.le_refl _) (fun k e => by cases e))
    clear hown1 hg1
    go_wp2_with fail
    go_loopw [15, 8] (fun i _ wr => ∃ k : Nat, k ≤ L ∧ i = .int .i64 k ∧ wr.ownsRow w.heap.size 5 1 (.slice (some ⟨w.heap.size, 0, none⟩) L L) L (BV (putTo n L k)) ∧ Below w.heap.size w wr) (fun i _ _ => L - (intOf i).toNat)
    case atStart => exact ⟨0, Nat.zero_le _, rfl, HO1.out, HB1.out⟩
    case round =>
      obtain ⟨k, hk, rfl, hown, hb⟩ := hrel
      by_cases hlt : k < L
      · have cc := own_cell hown hlt
        have ff := hown.frozenAt k
        obtain ⟨o2, g2⟩ := own_store hown k (byteAt n k)
        rw [putTo_succ n L k hlt] at o2
        have HO2 := Lib.hid o2
        have HB2 := Lib.hid (hb.grown g2 hb.size (fun j e => by cases e; exact Nat.le_refl _))
        have hv := byteAt_int n k
        clear o2 g2 hown hb HO1 HB1
        first
          | (exfalso; omega)
          | (go_wp2_with fail
             go_roundw
             case rel => exact ⟨k + 1, by omega, by go_num, HO2.out, HB2.out⟩
             case measure => simp [intOf]; omega)
      · obtain rfl : k = L := by omega
        rw [putTo_all] at hown
        have HO2 := Lib.hid hown
        have HB2 := Lib.hid hb
        clear hown hb HO1 HB1
        cases big
        · go_wp2_with fail
          go_ret
          refine ⟨some ⟨w.heap.size, 0, none⟩, k, ?_, ?_, HB2.out⟩
          · rw [putL_length, ← HL.out]; rfl
          · rw [putL_length, ← HL.out]
            unfold putL
            rw [← HL.out]
            exact HO2.out
        · go_wp2_with (go_at_call 76; refine (reverse_any w.heap.size _ _ _ _ _ HO2.out (putLE_length _ _).symm (by omega)).mono ?_; rintro e w3 ⟨rfl, ho3, hg3⟩)
          have HO3 := Lib.hid ho3
          have HB3 := Lib.hid (HB2.out.grown hg3 HB2.out.size (fun j e => by cases e; exact Nat.le_refl _))
          clear ho3 hg3
          go_wp2_with fail
          go_ret
          refine ⟨some ⟨w.heap.size, 0, none⟩, k, ?_, ?_, HB3.out⟩
          · rw [putL_length, ← HL.out]; rfl
          · rw [putL_length, ← HL.out]
            unfold putL
            rw [← HL.out]
            exact HO3.out
end Go.Proofs.Ytgpdlhbndoeldaa
/-
  octet.Get reads a number: in order, and from behind (a range over the library's iterator).
-/
namespace Go.Proofs.Ytgpdlhbndoeldaa
open Go.RowKit Go.Sort Go.Shelf
set_option linter.unusedVariables false
set_option linter.unusedSimpArgs false
attribute [local go_sem] Oper.semAt_some

/-- what a round keeps: what lay below n₀, and the block Bx -/
def KpBox (n₀ Bx : Nat) (W W' : World) : Prop := Below n₀ W W' ∧ W'.heap[Bx]? = W.heap[Bx]?
theorem KpBox.refl (n₀ Bx : Nat) (W : World) : KpBox n₀ Bx W W := ⟨Below.refl _ _, rfl⟩
theorem KpBox.trans {n₀ Bx : Nat} {A B C : World} (h : KpBox n₀ Bx A B) (k : KpBox n₀ Bx B C) : KpBox n₀ Bx A C := ⟨h.1.trans k.1, k.2.trans h.2⟩
theorem KpBox.put {n₀ Bx : Nat} {w : World} (hn : n₀ ≤ w.heap.size) (hB : Bx < w.heap.size) (W : World) (l : Nat) (o o' : Obj) (hl : w.heap.size ≤ l) (ho : W.heap[l]? = some o) (h1 : o.isCells = false) (h2 : o.isWalk = false) : KpBox n₀ Bx W (W.putObj l o') :=
  ⟨belowK_b hn W l o o' hl ho h1 h2, World.putObj_heap_other (by omega)⟩
theorem KpBox.bs {n₀ Bx : Nat} {W W' : World} {ad : Option Addr} {n c : Nat} {l : List UInt8} (h : KpBox n₀ Bx W W') (hs : Bs W ad n c l) (hb : ∀ x, ad = some x → 0 < n → x.block < n₀) : Bs W' ad n c l :=
  ⟨hs.1, hs.2.1, hs.2.2.1, hs.2.2.2.1, fun j u hj => by
    obtain ⟨x, hx, hc⟩ := hs.2.2.2.2 j u hj
    have hl := hs.1
    have hlt : j < (BV l).length := (List.getElem?_eq_some_iff.1 hj).1
    exact ⟨x, hx, by rw [h.1.cell (by rw [add_block]; exact hb x hx (by omega))]; exact hc⟩⟩

theorem cell_of_block1 {w : World} {B : Nat} {v : Value} {t : TypeId} (h : w.heap[B]? = some (.cells #[v] t (0, 0))) : w.cell? ⟨B, 0, none⟩ = some v := cell_of_one h
theorem free_of_block1 {w : World} {B : Nat} {v : Value} {t : TypeId} (h : w.heap[B]? = some (.cells #[v] t (0, 0))) : w.frozen? ⟨B, 0, none⟩ = false := free_of_one h

def upto {α : Type} (f : Nat → α) (k : Nat) : List α := (List.range k).map f
theorem upto_succ {α : Type} (f : Nat → α) (k : Nat) : upto f (k + 1) = upto f k ++ [f k] := by simp [upto, List.range_succ]
theorem upto_length {α : Type} (f : Nat → α) (k : Nat) : (upto f k).length = k := by simp [upto]

/-- what slices.Backward hands out -/
def bk (l : List UInt8) (j : Nat) : Nat × UInt8 := (l.length - 1 - j, at8 l (l.length - 1 - j))

set_option maxRecDepth 100000 in
set_option maxHeartbeats 2000000 in
theorem back1_in (F : Fence) (n : Nat) (h7 : F.fn 89) (hro : F.round = none) (hn : 1 ≤ n) (l Bx n₀ : Nat) (ad : Option Addr) (len c : Nat) (bs : List UInt8) (hreach : len ≤ 140737488351232) (hb : ∀ x, ad = some x → 0 < len → x.block < n₀)
    (J Jx : List (Nat × UInt8) → World → Prop)
    (hY : ∀ pre x W, J pre W → pre.length < len → YieldAt F (n - 1) Try.prog l #[.int .i64 (x.1 : Int), .int .u8 (x.2.toNat : Int)] W fun e W' =>
      (e = .returned (.bool true) ∧ J (pre ++ [x]) W' ∧ KpBox n₀ Bx W W') ∨ (e = .returned (.bool false) ∧ Jx (pre ++ [x]) W'))
    (W : World) (hBx : W.heap[Bx]? = some (.cells #[.slice ad len c] 72 (0, 0))) (hs : Bs W ad len c bs) (h0 : J [] W) :
    CallsIn F n Try.prog 89 #[.func (.yield l) #[] #[], .pointer (some ⟨Bx, 0, none⟩)] W fun e W' => (∃ v, e = .returned v) ∧
      ((∃ ys, ys = upto (bk bs) len ∧ J ys W') ∨ (∃ pre, (∃ k, k ≤ len ∧ pre = upto (bk bs) k) ∧ Jx pre W')) := by
  have hlen := hs.len
  have HLEN := Lib.hid hlen
  clear hlen
  have hcB := cell_of_block1 hBx
  refine callsIn_of_wp Try.func89 rfl h7 ?_ hro
  simp only [Try.ntmps89, List.size_toArray, List.length_cons, List.length_nil, Nat.reduceAdd, Nat.reduceSub, Array.replicate_succ, Array.replicate_zero, List.push_toArray, List.append_toArray, List.nil_append, List.cons_append]
  have HS := Lib.hid hs
  clear hs
  gi_wp2
  gi_loopw [3] (fun i wr => ∃ k : Nat, k ≤ len ∧ i = .int .i64 ((len : Int) - 1 - k) ∧ J (upto (bk bs) k) wr ∧ KpBox n₀ Bx W wr)
    (fun i _ => (intOf i + 1).toNat)
  case atStart => exact ⟨0, Nat.zero_le _, by simp, h0, KpBox.refl _ _ _⟩
  case round =>
    obtain ⟨k, hk, rfl, hJs, hnx⟩ := hrel
    by_cases hlt : k < len
    · obtain ⟨fn, tmps, assign, body, hy, hR⟩ := hY _ (bk bs k) wr hJs (by rw [upto_length]; exact hlt)
      have hidx : (bk bs k).1 = len - 1 - k := by unfold bk; rw [← HLEN.out]
      have hval : (bk bs k).2 = at8 bs (len - 1 - k) := by unfold bk; rw [← HLEN.out]
      rw [hidx, hval] at hy
      have hw : ((len - 1 - k : Nat) : Int) = (len : Int) - 1 - k := by omega
      rw [hw] at hy
      obtain ⟨b, off, rfl, hbb, hcc⟩ := (hnx.bs HS.out hb).at (j := len - 1 - k) (by have := HLEN.out; omega)
      have hcx := hcc (len - 1 - k) (by have := HLEN.out; omega)
      have hcB' : wr.cell? ⟨Bx, 0, none⟩ = some (.slice (some ⟨b, off, none⟩) len c) := cell_of_block1 (hnx.2.trans hBx)
      have i1 : (0 : Int) ≤ (len : Int) - 1 - k := by omega
      have i2 : (len : Int) - 1 - k < len := by omega
      clear hcc hidx hval hw
      have HK := Lib.hid hnx
      clear hnx
      gi_wp2
      refine hR.mono ?_
      rintro e W3 (⟨rfl, hJ3, hk3⟩ | ⟨rfl, hJx3⟩)
      · have HK3 := Lib.hid (HK.out.trans hk3)
        have HJ3 := Lib.hid hJ3
        clear hk3 hJ3 HK hcx hcB' hy hR hJs
        gi_wp2
        go_roundw
        case rel => exact ⟨k + 1, by omega, by go_num, by rw [upto_succ]; exact HJ3.out, HK3.out⟩
        case measure => simp [intOf]; omega
      · gi_wp2
        refine bodyPost_ret (results_none rfl _ _ _) rfl ?_
        exact ⟨⟨_, rfl⟩, .inr ⟨_, ⟨k + 1, by omega, (upto_succ _ _).symm⟩, hJx3⟩⟩
    · obtain rfl : k = len := by omega
      gi_wp2
      go_end0
      exact ⟨⟨_, rfl⟩, .inl ⟨_, rfl, hJs⟩⟩

theorem back_any (F : Fence) (n : Nat) (h5 : F.fn 86) (hro : F.round = none) (a : Option Addr) (len cap : Nat) (w : World) :
    CallsIn F n Try.prog 86 #[.slice a len cap] w fun e w' => e = .returned (.func (.func 89) #[] #[.pointer (some ⟨w.heap.size, 0, none⟩)]) ∧ w' = w.alloc (.cells #[.slice a len cap] 72) := by
  refine callsIn_of_wp Try.func86 rfl h5 ?_ hro
  simp only [Try.ntmps86, List.size_toArray, List.length_cons, List.length_nil, Nat.reduceAdd, Nat.reduceSub, Array.replicate_succ, Array.replicate_zero, List.push_toArray, List.append_toArray, List.nil_append, List.cons_append]
  gi_wp2
  go_ret
  exact ⟨rfl, rfl⟩

theorem back_stops (F : Fence) (n : Nat) (h7 : F.fn 89) (hro : F.round = none) (hn : 1 ≤ n) (Bx n₀ : Nat) (ad : Option Addr) (len c : Nat) (bs : List UInt8) (hreach : len ≤ 140737488351232) (w : World) (hBx : Bx < w.heap.size) (hn₀ : n₀ ≤ w.heap.size)
    (hc : w.heap[Bx]? = some (.cells #[.slice ad len c] 72 (0, 0))) (hs : Bs w ad len c bs) (hb : ∀ x, ad = some x → 0 < len → x.block < n₀) :
    SeqStopsK F n Try.prog 89 #[.pointer (some ⟨Bx, 0, none⟩)] (fun x : Nat × UInt8 => #[Value.int .i64 (x.1 : Int), Value.int .u8 (x.2.toNat : Int)]) (KpBox n₀ Bx) (fun ys => ys = upto (bk bs) len)
      (fun pre => ∃ k, k ≤ len ∧ pre = upto (bk bs) k) len w := fun l J Jx W hW _ _ hY h0 => by
  have hc' : W.heap[Bx]? = some (.cells #[.slice ad len c] 72 (0, 0)) := (hW.block Bx hBx).trans hc
  exact back1_in F n h7 hro hn l Bx n₀ ad len c bs hreach hb J Jx hY W hc' (hs.below hW) h0


/-- the head of the slice: at most eight bytes -/
theorem Bs.head8 {w : World} {ad : Option Addr} {n c : Nat} {l : List UInt8} (h : Bs w ad n c l) : Bs w (subAd ad c 0 1) (min n 8 - 0) (c - 0) (l.take 8) := by
  have := Sl.sub h (l := 0) (h := min n 8) (Nat.zero_le _) (Nat.min_le_left _ _)
  have e : ((BV l).drop (0 * 1)).take ((min n 8 - 0) * 1) = BV (l.take 8) := by
    have hn := h.len
    simp only [List.drop_zero, Nat.sub_zero, Nat.mul_one]
    unfold BV
    rw [List.map_take]
    by_cases h8 : n ≤ 8
    · rw [Nat.min_eq_left h8, List.take_of_length_le (by simp; omega), List.take_of_length_le (by simp; omega)]
    · rw [Nat.min_eq_right (by omega)]
  rw [e] at this
  exact this

def RetN (v : Value) (w : World) (e : Ending) (w' : World) : Prop := e = .returned v ∧ Below w.heap.size w w'

set_option maxRecDepth 100000 in
theorem get_big (ad : Option Addr) (n c : Nat) (l : List UInt8) (w : World) (hs : Bs w ad n c l) :
    Calls Try.prog 78 #[.slice ad n c, .bool true] w (RetN (.int .u64 (getN l true)) w) := by
  obtain ⟨m, hm⟩ : ∃ m, m = min n 8 := ⟨_, rfl⟩
  have hc := hs.le
  have hb8 := hs.head8
  rw [← hm] at hb8
  have hlen := hb8.len
  simp only [Nat.sub_zero] at hlen hb8
  have hmin : (if (8 : Int) < (n : Int) then (8 : Int) else (n : Int)) = (m : Int) := by split <;> omega
  have HL := Lib.hid hlen
  have HB8 := Lib.hid hb8
  have hm8 : m ≤ 8 := by omega
  have hmc : m ≤ c := by omega
  have HG : Hid (getN l true = numBE (l.take 8)) := Lib.hid rfl
  clear hm hlen hb8 hs
  go_enter Try.func78, Try.ntmps78
  go_wp2_with ((with_reducible show wpList _ _ _ (⟨some 14, _, _, _, _, _⟩ :: _) _ _); go_must (refine wpL_slice elB rfl (.tmp 10) none (some (.tmp 13)) rfl rfl 0 m (.inl ⟨rfl, rfl⟩) (.inr ⟨.i64, rfl⟩) (Nat.zero_le _) hmc ?_))
  intro ad1 had1
  rw [← had1.out] at HB8
  clear had1
  go_wp2_with fail
  go_loopw [18, 7] (fun i _ wr => ∃ k : Nat, k ≤ m ∧ i = .int .i64 k ∧ wr.heap[w.heap.size]? = some (.cells #[.int .u64 (numBE ((l.take 8).take k) : Nat)] 88 (0, 0)) ∧ Below w.heap.size w wr) (fun i _ _ => m - (intOf i).toNat)
  case atStart => exact ⟨0, Nat.zero_le _, rfl, heap_alloc_new _ _, (Below.refl _ _).alloc (Nat.le_refl _) _⟩
  case round =>
    obtain ⟨k, hk, rfl, hbox, hb⟩ := hrel
    by_cases hlt : k < m
    · obtain ⟨b, off, rfl, hbl, hcc⟩ := (HB8.out.below hb).at (j := k) (by have := HL.out; omega)
      have hcx := hcc k (by have := HL.out; omega)
      have hsz : w.heap.size < wr.heap.size := (Array.getElem?_eq_some_iff.1 hbox).1
      have hcb := cell_of_one hbox
      have hfb := free_of_one hbox
      have hor := or_byte (numBE ((l.take 8).take k)) (at8 (l.take 8) k) (numBE_lt7 _ (by simp; omega))
      have hu := u64_wrap_nat (at8 (l.take 8) k).toNat (by have := (at8 (l.take 8) k).toNat_lt; omega)
      have hstep := numBE_take_succ (l.take 8) k (by have := HL.out; omega)
      have HBOX := Lib.hid (one_setCell hbox (u := .int .u64 ((stepN (numBE ((l.take 8).take k)) (at8 (l.take 8) k) : Nat) : Int)))
      have HB2 := Lib.hid (hb.setCell (p := ⟨w.heap.size, 0, none⟩) (Nat.le_refl _) (.int .u64 ((stepN (numBE ((l.take 8).take k)) (at8 (l.take 8) k) : Nat) : Int)))
      have HST := Lib.hid hstep
      clear hcc hbox hb hstep
      go_wp2_with fail
      go_roundw
      case rel => exact ⟨k + 1, by omega, by go_num, by rw [HST.out]; exact HBOX.out, HB2.out⟩
      case measure => simp [intOf]; omega
    · obtain rfl : k = m := by omega
      have hcb := cell_of_one hbox
      rw [List.take_of_length_le (by have := HL.out; omega), ← HG.out] at hcb
      have HB2 := Lib.hid hb
      clear hbox hb
      go_wp2_with fail
      go_ret
      exact ⟨rfl, HB2.out⟩

/-- the number's box in a range over the iterator -/
theorem box_ownFrom (B : Nat) (t : TypeId) (f : List (Nat × UInt8) → Value) (C : Nat) : OwnFrom C (fun pre W => W.heap[B]? = some (.cells #[f pre] t (0, 0))) :=
  fun s W W' row hs hg hr => (hg.block B (Array.getElem?_eq_some_iff.1 hs).1 (fun e => by
    obtain ⟨_, o, ho, hc⟩ := hr B e.symm
    rw [hs] at ho
    cases ho
    simp [Obj.isCells] at hc)).trans hs

theorem bk_snd (l : List UInt8) : (upto (bk l) l.length).map (·.2) = l.reverse := by
  apply ext_getD (by simp [upto])
  intro j hj
  have hj' : j < l.length := by simpa [upto] using hj
  have e1 : ((upto (bk l) l.length).map (·.2)).getD j 0 = at8 l (l.length - 1 - j) := by simp [upto, List.getD, hj', bk]
  have e2 : l.reverse.getD j 0 = l.getD (l.length - 1 - j) 0 := by simp [List.getD, List.getElem?_reverse hj']
  rw [e1, e2]
  rfl

set_option maxRecDepth 100000 in
set_option maxHeartbeats 1000000 in
theorem get_small (ad : Option Addr) (n c : Nat) (l : List UInt8) (w : World) (hs : Bs w ad n c l) :
    Calls Try.prog 78 #[.slice ad n c, .bool false] w (RetN (.int .u64 (getN l false)) w) := by
  obtain ⟨m, hm⟩ : ∃ m, m = min n 8 := ⟨_, rfl⟩
  have hc := hs.le
  have hb8 := hs.head8
  rw [← hm] at hb8
  have hlen := hb8.len
  simp only [Nat.sub_zero] at hlen hb8
  have hmin : (if (8 : Int) < (n : Int) then (8 : Int) else (n : Int)) = (m : Int) := by split <;> omega
  have HL := Lib.hid hlen
  have HB8 := Lib.hid hb8
  have hm8 : m ≤ 8 := by omega
  have hmc : m ≤ c := by omega
  have HG : Hid (getN l false = numBE (l.take 8).reverse) := Lib.hid rfl
  clear hm hlen hb8 hs
  refine (callsIn_wide (n := 6)).1 (callsIn_of_wp_marks Try.func78 rfl trivial (wpIn_wide.2 ?_) rfl)
  simp only [Try.ntmps78, List.size_toArray, List.length_cons, List.length_nil, Nat.reduceAdd, Nat.reduceSub, Array.replicate_succ, Array.replicate_zero, List.push_toArray, List.append_toArray, List.nil_append, List.cons_append]
  go_wp2_with ((with_reducible show wpList _ _ _ (⟨some 14, _, _, _, _, _⟩ :: _) _ _); go_must (refine wpL_slice elB rfl (.tmp 10) none (some (.tmp 13)) rfl rfl 0 m (.inl ⟨rfl, rfl⟩) (.inr ⟨.i64, rfl⟩) (Nat.zero_le _) hmc ?_))
  intro ad1 had1
  rw [← had1.out] at HB8
  clear had1
  go_wp2_with (go_at_call 86; refine ((callsIn_wide (n := 6)).1 (back_any _ _ trivial rfl _ _ _ _)).mono ?_; rintro e w' ⟨rfl, rfl⟩)
  refine (wpIn_wide (n := 6)).1 ?_
  have hB1 : Below w.heap.size w (w.alloc (.cells #[.int .u64 0] 88)) := (Below.refl _ _).alloc (Nat.le_refl _) _
  have hB2 := hB1.alloc (by simp) (.cells #[.slice ad1 m c] 72)
  refine wpIn_rangeFunc_ownF rfl (by omega) (gf := 89) (lb := #[.pointer (some ⟨w.heap.size + 1, 0, none⟩)]) rfl trivial (enters_of Try.func89 (by kernel_rfl) rfl)
    (back_stops _ _ trivial rfl (by omega) (w.heap.size + 1) w.heap.size ad1 m c (l.take 8) (by omega) ((w.alloc (.cells #[.int .u64 0] 88)).alloc (.cells #[.slice ad1 m c] 72)) (by simp) (by simp; omega) (by have := heap_alloc_new (w.alloc (.cells #[.int .u64 0] 88)) (.cells #[.slice ad1 m c] 72); rwa [World.size_alloc] at this) (HB8.out.below hB2)
      (fun x hx h0 => by obtain ⟨b, off, h2, h3, _⟩ := HB8.out.at (j := 0) (by have := HL.out; omega); rw [h2] at hx; cases hx; exact h3))
    KpBox.trans (KpBox.put (by simp; omega) (by simp)) (Below.refl _ _) (fun _ => rfl)
    (fun pre W => W.heap[w.heap.size]? = some (.cells #[.int .u64 (numBE (pre.map (·.2)) : Nat)] 88 (0, 0)) ∧ Below w.heap.size w W)
    (fun _ _ _ => False)
    (OwnFrom.and (box_ownFrom _ _ (fun pre => .int .u64 (numBE (pre.map (·.2)) : Nat)) _) (ownFrom_below (Nat.le_refl _) (by simp; omega)))
    (fun _ _ _ _ _ hs _ _ => hs)
    ⟨(Below.heap_alloc _ _ _ (by simp)).trans (heap_alloc_new _ _), hB2⟩
    ?a1 ?assign ?body ?done ?stop
  case assign =>
    intro l x W K hK
    gi_wp2
    exact hK
  case body =>
    rintro l pre x W ⟨hbox, hb⟩ hlen
    have hsz : w.heap.size < W.heap.size := (Array.getElem?_eq_some_iff.1 hbox).1
    have hcb := cell_of_one hbox
    have hfb := free_of_one hbox
    have hor := or_byte (numBE (pre.map (·.2))) x.2 (numBE_lt7 _ (by simp; omega))
    have hu := u64_wrap_nat x.2.toNat (by have := x.2.toNat_lt; omega)
    have HBOX := Lib.hid (one_setCell hbox (u := .int .u64 ((stepN (numBE (pre.map (·.2))) x.2 : Nat) : Int)))
    have HB2 := Lib.hid (hb.setCell (p := ⟨w.heap.size, 0, none⟩) (Nat.le_refl _) (.int .u64 ((stepN (numBE (pre.map (·.2))) x.2 : Nat) : Int)))
    clear hbox hb
    gi_wp2
    refine ⟨KeepsOthers.setCell _ _ _, ⟨(Below.refl w.heap.size W).setCell (p := ⟨w.heap.size, 0, none⟩) (Nat.le_refl _) _, Below.heap_setCell _ _ _ _ (by simp)⟩, ?_, ?_⟩
    · rw [numBE_map_snoc]; exact HBOX.out
    · exact HB2.out
  case done =>
    rintro D ys W hD rfl ⟨hbox, hb⟩ hK
    have hlm := HL.out
    have e : numBE ((upto (bk (l.take 8)) m).map (·.2)) = getN l false := by
      rw [HG.out, ← bk_snd, ← hlm]
    rw [e] at hbox
    have hcb := cell_of_one hbox
    have HB2 := Lib.hid hb
    have HD : Hid _ := Lib.hid hD
    clear hlm e hbox hb hD
    go_wp2
    refine ⟨by simp, .inl ⟨_, _, rfl, run_takeDeferred hK, ?_⟩⟩
    exact ⟨_, results_tmp rfl _ _ _, rfl, HB2.out.trans (belowK_b (w := w) (Nat.le_refl _) W D _ _ (by have := HD.out; simp at this; omega) hK rfl rfl)⟩
  case stop =>
    rintro D c pre W _ _ h _
    exact h.elim
end Go.Proofs.Ytgpdlhbndoeldaa
/-
  The contracts of the other functions on numbers as bytes, and of the document's.
-/
namespace Go.Proofs.Ytgpdlhbndoeldaa
open Go.RowKit Go.Sort
set_option linter.unusedVariables false
set_option linter.unusedSimpArgs false

set_option maxRecDepth 100000 in
theorem get_any (ad : Option Addr) (n c : Nat) (l : List UInt8) (big : Bool) (w : World) (hs : Bs w ad n c l) :
    Calls Try.prog 78 #[.slice ad n c, .bool big] w (RetN (.int .u64 (getN l big)) w) := by
  cases big
  · exact get_small ad n c l w hs
  · exact get_big ad n c l w hs





end Go.Proofs.Ytgpdlhbndoeldaa
/-
  The contracts of the document's functions on bytes: Get, Turn, Padded, Same.
-/
namespace Go.Proofs.Ytgpdlhbndoeldaa
open Go.RowKit Go.Sort
set_option linter.unusedVariables false
set_option linter.unusedSimpArgs false

theorem stepN_int (a : Nat) (b : UInt8) : 256 * (a : Int) + ((b.toNat : Nat) : Int) = ((stepN a b : Nat) : Int) := by unfold stepN; omega
theorem at8_take (l : List UInt8) (k j : Nat) (h : j < k) : at8 (l.take k) j = at8 l j := by
  simp [at8, List.getD, h]

end Go.Proofs.Ytgpdlhbndoeldaa
/-
  The contracts of the document's functions on bytes, continued: Turn, Padded, Same; what the anchor asks.
-/
namespace Go.Proofs.Ytgpdlhbndoeldaa
open Go.RowKit Go.Sort
set_option linter.unusedVariables false
set_option linter.unusedSimpArgs false

/-- how long a slice is -/
def lenV : Value → Nat
  | .slice _ n _ => n
  | _ => 0

theorem take_snocR (l : List UInt8) (k : Nat) (h : k < l.length) : l.reverse.take (k + 1) = l.reverse.take k ++ [at8 l (l.length - 1 - k)] := by
  rw [List.take_add_one, List.getElem?_eq_getElem (by simpa using h), at8_get l _ (by omega), List.getElem_reverse]; rfl



end Go.Proofs.Ytgpdlhbndoeldaa
/-
  What is known is carried from call to call.
-/
namespace Go.Proofs.Ytgpdlhbndoeldaa
open Go.RowKit Go.Sort
set_option linter.unusedVariables false
set_option linter.unusedSimpArgs false

theorem Below.next {A : Nat} {v w a w' : World} (h : Below A v w) (hA : A ≤ w.heap.size) (hu : Below w.heap.size w a) (hb : Below a.heap.size a w') : Below A v w' :=
  h.trans ((hu.trans (hb.mono hu.size)).mono hA)
theorem cB {w a w' : World} {ad : Option Addr} {n c : Nat} {l : List UInt8} (h : Hid (Bs w ad n c l)) (hu : Below w.heap.size w a) (hb : Below a.heap.size a w') : Hid (Bs w' ad n c l) :=
  Lib.hid ((h.out.below hu).below hb)
theorem cK {v w a w' : World} (h : Hid (Below v.heap.size v w)) (hu : Below w.heap.size w a) (hb : Below a.heap.size a w') : Hid (Below v.heap.size v w') :=
  Lib.hid (Below.next h.out h.out.size hu hb)
theorem cO {w a w' : World} {base : Nat} {e : TypeId} {size : Nat} {ad : Option Addr} {n c : Nat} {xs : List Value} (h : Hid (w.ownsRow base e size (.slice ad n c) n xs)) (hu : Below w.heap.size w a) (hb : Below a.heap.size a w') : Hid (w'.ownsRow base e size (.slice ad n c) n xs) :=
  Lib.hid (own_keep (own_keep h.out hu) hb)

/-- the compact forms: one step for all -/
theorem cU {v w a w' : World} (h : Hid (Below v.heap.size v w)) (hu : Below w.heap.size w a) (hb : Below a.heap.size a w') : Below w.heap.size w w' := hu.trans (hb.mono hu.size)
theorem cB1 {w w' : World} {ad : Option Addr} {n c : Nat} {l : List UInt8} (h : Hid (Bs w ad n c l)) (hE : Below w.heap.size w w') : Hid (Bs w' ad n c l) := Lib.hid (h.out.below hE)
theorem cK1 {v w w' : World} (h : Hid (Below v.heap.size v w)) (hE : Below w.heap.size w w') : Hid (Below v.heap.size v w') := Lib.hid (h.out.trans (hE.mono h.out.size))
theorem cO1 {w w' : World} {base : Nat} {e : TypeId} {size : Nat} {ad : Option Addr} {n c : Nat} {xs : List Value} (h : Hid (w.ownsRow base e size (.slice ad n c) n xs)) (hE : Below w.heap.size w w') : Hid (w'.ownsRow base e size (.slice ad n c) n xs) := Lib.hid (own_keep h.out hE)

set_option maxRecDepth 100000 in
theorem put_int (z : Int) (size : Int) (big : Bool) (w : World) (h0 : 0 ≤ z) (h1 : z ≤ 18446744073709551615) :
    Calls Try.prog 61 #[.int .u64 z, .int .i64 size, .bool big] w (RetB 5 (putL z.toNat size big) w) := by
  have := put_any z.toNat size big w (by omega)
  rwa [Int.toNat_of_nonneg h0] at this
end Go.Proofs.Ytgpdlhbndoeldaa
/-
  Laws of single operations as steps of a region that draws its order.
-/
namespace Go.Proofs.Ytgpdlhbndoeldaa
open Go.RowKit Go.Sort
set_option linter.unusedVariables false
set_option linter.unusedSimpArgs false

theorem step_run {P : Program} {w w' : World} {ops : Array Oper} {o : Oper} {a : Act} {K : Act → World → Prop} {Q : Exit → Act → World → Prop} {E : Prop} (hgd : Region.wanted o (yielded ops a.tmps) = true) {v : Value}
    (hrun : (execOp a.eval o).run P w = .ok (.value v) w') (h : K (a.put o.dst v) w') : if Region.wanted o (yielded ops a.tmps) = true then Oper.wp P o a w K Q else E := by
  rw [if_pos hgd]
  unfold Oper.wp
  rw [hrun]
  exact h

/-- 'append(s, x...)', s the call's own (or nil), x whatever: a step. -/
theorem step_append {P : Program} {w : World} {ops : Array Oper} {o : Oper} {a : Act} {K : Act → World → Prop} {Q : Exit → Act → World → Prop} {E : Prop} {t e : TypeId} {size bytes : Nat} {z : Value} (el : Elem P t e size bytes z)
    (hgd : Region.wanted o (yielded ops a.tmps) = true) (s x : Operand) (ho : o.op = .call { callee := .builtin .append, args := #[s, x], argTypes := #[t, t] })
    (base : Nat) {ad : Option Addr} {n c : Nat} {xs : List Value} (hs : a.eval s = .slice ad n c) (hown : w.ownsRow base e size (.slice ad n c) n xs)
    {ad2 : Option Addr} {m c2 : Nat} {news : List Value} (hx : a.eval x = .slice ad2 m c2) (hsl : Sl w ad2 m c2 size news) (h1 : ∀ u ∈ news, u.oneCell' = true)
    (h63 : n + m ≤ maxLen) (hbytes : (n + m) * bytes ≤ 140737488355328) (hbase : base ≤ w.heap.size)
    (h : ∀ ad' c' w', w'.ownsRow base e size (.slice ad' (n + m) c') (n + m) (xs ++ news) → w.grownBy w' (Value.ownBlock (.slice ad n c)) →
      (ad' = ad ∨ ad' = some ⟨w.heap.size, 0, none⟩) → (ad' = none ↔ ad = none ∧ m = 0) → K (a.put o.dst (.slice ad' (n + m) c')) w') :
    if Region.wanted o (yielded ops a.tmps) = true then Oper.wp P o a w K Q else E := by
  obtain ⟨ad', c', w', hr, h2, h3, h4, h5⟩ := run_append (P := P) (ty := o.type) el base hown hsl h1 h63 hbytes hbase
  refine step_run hgd (v := .slice ad' (n + m) c') (w' := w') ?_ (h ad' c' w' h2 h3 h4 h5)
  unfold execOp
  simp only [ho, resolve, invoke, builtin, Sem.run_bind, Sem.run_pure, Result.andThen_ok, List.map_toArray, List.map_cons, List.map_nil, hs, hx, hr]

theorem grown_alloc (w : World) (o : Obj) (row : Option Nat) : w.grownBy (w.alloc o) row := ⟨rfl, rfl, rfl, by simp, fun k hk _ => Below.heap_alloc w o k hk⟩
/-- 'append(s, v)', s the call's own, v laid as a literal of one element: what owned goes on owning, below B nothing has changed. -/
theorem wpL_push {P : Program} {w : World} {ops : Array Oper} {rest : List Oper} {o : Oper} {a : Act} {Q : Exit → Act → World → Prop} {t e : TypeId} {size bytes : Nat} {z : Value} (el : Elem P t e size bytes z)
    (hgd : Region.wanted o (yielded ops a.tmps) = true) (s x : Operand) (ho : o.op = .call { callee := .builtin .append, args := #[s, x], argTypes := #[t, t] })
    (base : Nat) {ad : Option Addr} {n c : Nat} {xs : List Value} (hs : a.eval s = .slice ad n c) (hown : w.ownsRow base e size (.slice ad n c) n xs)
    (cs : Array Value) {b e' : Nat} (m : Nat) (hx : a.eval x = .slice (some ⟨b, 0, none⟩) m m) (hb : b = w.heap.size) (hcs : cs.size = m * size) (h1 : ∀ u ∈ cs.toList, u.oneCell' = true) (hm : m ≤ 1000000)
    (h63 : n ≤ 140737488000000) (hbytes : (n + m) * bytes ≤ 140737488355328) (hbase : base ≤ w.heap.size) {B : Nat} {W : World} (hB : Below B W w) (hBb : B ≤ base)
    (h : ∀ ad' c' w', w'.ownsRow base e size (.slice ad' (n + m) c') (n + m) (xs ++ cs.toList) → Below B W w' → w.grownBy w' (Value.ownBlock (.slice ad n c)) → wpList P ops Q rest (a.put o.dst (.slice ad' (n + m) c')) w') :
    wpList P ops Q (o :: rest) a (w.alloc (.cells cs e')) := by
  subst hb
  refine wpL_append el hgd s x ho base hs (hown.alloc _) hx (Sl.lit w cs e' m size hcs (by unfold maxLen; omega)) h1 (by unfold maxLen; omega) hbytes (by simp; omega) ?_
  intro ad' c' w' h2 h3 h4 h5
  have hz : w.heap.size ≤ (w.alloc (.cells cs e')).heap.size := by simp
  refine h ad' c' w' h2 ((hB.alloc (by omega) _).grown h3 (by simp; omega) (fun k hk => Nat.le_trans hBb (ownBlock_ge hown k hk))) ?_
  exact World.grownBy.trans (grown_alloc w _ _) h3

theorem range_below {w w' : World} {b o : Nat} {cs : List Value} {B : Nat} (h : w.rangeAt b o cs) (hb : b < B) (hw : Below B w w') : w'.rangeAt b o cs :=
  fun j v hv => (hw.cell (p := ⟨b, o + j, none⟩) hb).trans (h j v hv)
theorem own_lit {v : World} {base b : Nat} {e : TypeId} (cs : Array Value) (size n : Nat) (hb : b = v.heap.size) (hbase : base ≤ v.heap.size) (hs : cs.size = n * size) (hn : n ≤ 1000000) : (v.alloc (.cells cs e)).ownsRow base e size (.slice (some ⟨b, 0, none⟩) n n) n cs.toList := by
  subst hb
  exact World.ownsRow_lit v cs n hbase (by unfold maxLen; omega) hs

/-- 'x := T{..}' of a variable that lies in memory: a new block, and the cells stored into it. -/
theorem wpL_new {P : Program} {w : World} {ops : Array Oper} {rest : List Oper} {o1 o2 : Oper} {a : Act} {Q : Exit → Act → World → Prop} (hg1 : o1.guard = none) (hg2 : o2.guard = none) (T : TypeId) (ho1 : o1.op = .alloc T) (x y : Operand) (ho2 : o2.op = .store T x y)
    (cs zs : Array Value) (hi : (P.info? T).map (fun i => (i.zero, i.size)) = some (some (.agg zs), cs.size)) (hz : zs.size = cs.size) (h1 : cs.all (·.oneCell') = true)
    (hx : ∀ p, (a.put o1.dst p).eval x = p) (hy : ∀ p, (a.put o1.dst p).eval y = .agg cs)
    (h : wpList P ops Q rest ((a.put o1.dst (.pointer (some ⟨w.heap.size, 0, none⟩))).put o2.dst undef) (w.alloc (.cells cs T))) :
    wpList P ops Q (o1 :: o2 :: rest) a w := by
  obtain ⟨hz0, hsz⟩ := zero_of_info hi
  refine wpL_run (v := .pointer (some ⟨w.heap.size, 0, none⟩)) (w' := w.alloc (.cells zs T)) (by simp [Region.wanted, hg1]) ?_ ?_
  · simp [execOp, ho1, Instr.alloc, hz0, newVar, newRow, Value.cells]
  · refine wpList_store_row hg2 T x y ho2 w.heap.size cs (hx _) (hy _) T zs (heap_alloc_last w _) hsz hz h1 ?_
    rw [World.setRow_alloc_new]
    exact h

/-- an operation of a drawn region taken first, its conditions in one -/
theorem tk {P : Program} {ops : Array Oper} {Q : Exit → Act → World → Prop} {md : Region.Mode} {S : World → Prop} (i : Nat) {oi : Oper} {v : Value} {fuel : Nat} {listed : Array Bool} {a : Act} {w : World} (hi : ops[i]? = some oi)
    (hk : (Region.noSelect ops && (Region.free md ops listed i && (Region.ready md ops listed).contains i)) = true) (hy : YieldsIf P ops S oi v a) (hS : S w)
    (h : wpAnyH P md ops Q S fuel (listed.setIfInBounds i true) (a.put oi.dst v) w) (hQ : ∀ c a w, Q (.panic c) (a.put oi.dst v) w → Q (.panic c) a w := by exact fun _ _ _ h => h) : wpAnyH P md ops Q S (fuel + 1) listed a w := by
  simp only [Bool.and_eq_true] at hk
  exact wpAnyH_take hi hk.1 hk.2.1 hk.2.2 hQ hy hS h
end Go.Proofs.Ytgpdlhbndoeldaa
/-
  Bytes out of a string, and what is appended to them. Over any program.
-/
namespace Go.Proofs.Ytgpdlhbndoeldaa
open Go.RowKit Go.Sort
set_option linter.unusedVariables false
set_option linter.unusedSimpArgs false

/-- block g (B or later) holds the bytes l at its head; c cells of it may be written -/
def Fresh (w : World) (B g n c : Nat) (l : List UInt8) : Prop :=
  ∃ cur e fz, w.heap[g]? = some (.cells cur e fz) ∧ B ≤ g ∧ n = l.length ∧ n ≤ c ∧ c ≤ maxLen ∧ c ≤ cur.size ∧ c ≤ fz.1 ∧ cur.toList.take n = BV l

theorem Fresh.lt {w : World} {B g n c : Nat} {l : List UInt8} (h : Fresh w B g n c l) : g < w.heap.size := by
  obtain ⟨cur, e, fz, hg, _⟩ := h
  exact lt_of_block hg
theorem Fresh.below {w w' : World} {B g n c : Nat} {l : List UInt8} (h : Fresh w B g n c l) (hb : Below w.heap.size w w') : Fresh w' B g n c l := by
  obtain ⟨cur, e, fz, hg, r⟩ := h
  exact ⟨cur, e, fz, (hb.block g (lt_of_block hg)).trans hg, r⟩
theorem Fresh.bs {w : World} {B g n c : Nat} {l : List UInt8} (h : Fresh w B g n c l) : Bs w (some ⟨g, 0, none⟩) n c l := by
  obtain ⟨cur, e, fz, hg, hB, hn, hnc, hcm, hcs, hf, ht⟩ := h
  refine ⟨by rw [BV_length]; omega, hnc, hcm, by simp, fun j u hj => ⟨_, rfl, ?_⟩⟩
  rw [addr_add, Nat.zero_add]
  have hjn : j < n := by have := (List.getElem?_eq_some_iff.1 hj).1; rw [BV_length] at this; omega
  rw [← ht, List.getElem?_take, if_pos hjn] at hj
  simpa [World.cell?, hg] using hj

theorem below_setCells {B b : Nat} (hB : B ≤ b) : ∀ (vs : List Value) (o : Nat) (w : World), Below B w (w.setCells b o vs)
  | [], _, w => Below.refl B w
  | v :: vs, o, w => by
    unfold World.setCells
    exact ((Below.refl B w).setCell (p := ⟨b, o, none⟩) hB v).trans (below_setCells hB vs (o + 1) _)
theorem run_conv {P : Program} {w : World} {src dst e : TypeId} (s : ByteArray) (hs : P.underlying src = some .string) (hd : P.underlying dst = some (.slice e)) (he : P.underlying e = some (.int .u8)) (hsz : s.size ≤ 140737488351232) :
    ∃ c w', (convert src dst (.string s)).run P w = .ok (.slice (some ⟨w.heap.size, 0, none⟩) s.size c) w' ∧ Fresh w' w.heap.size w.heap.size s.size c s.data.toList ∧ Below w.heap.size w w' := by
  refine ⟨grownCap w s.size 0 e, _, run_bytes_of_string w src dst e s hs hd he, ⟨_, _, _, heap_alloc_new w.drew _, Nat.le_refl _, Array.length_toList.symm, ?_, ?_, ?_, ?_, ?_⟩, ?_⟩
  · exact grownCap_ge w s.size 0 e
  · exact grownCap_le_maxLen w s.size 0 e (by unfold maxLen; omega)
  · simp [bytesRow]; omega
  · simp [bytesRow]; omega
  · unfold bytesRow BV
    rw [Array.toList_append, Array.toList_map]
    exact List.take_left' (by rw [List.length_map]; exact Array.length_toList)
  · exact ((Below.refl w.heap.size w).drew).alloc (Nat.le_refl _) _

/-- one byte is appended -/
theorem run_append_fresh {P : Program} {w : World} {t ty e : TypeId} {bytes : Nat} {z : Value} (el : Elem P t e 1 bytes z) {B g n c : Nat} {l : List UInt8} (h : Fresh w B g n c l)
    {ad2 : Option Addr} {m c2 : Nat} {news : List UInt8} (hsl : Bs w ad2 m c2 news) (hm : 0 < m) (h63 : n + m ≤ 140737488351232) (hby : bytes ≤ 1) (hBw : B ≤ w.heap.size) :
    ∃ ad' c' w', (Builtin.append_ #[t, t] ty #[.slice (some ⟨g, 0, none⟩) n c, .slice ad2 m c2]).run P w = .ok (.slice ad' (n + m) c') w' ∧ Bs w' ad' (n + m) c' (l ++ news) ∧ Below B w w' := by
  obtain ⟨i, hi, hz, hsize, hbb⟩ := info_parts el.info
  obtain ⟨cur, e', fz, hg, hB, hn, hnc, hcm, hcs, hf, ht⟩ := h
  have hml := hsl.len
  obtain ⟨b2, o2, rfl, _, hcc⟩ := hsl.at (j := 0) (by omega)
  have hl2 : (BV news).length = m * i.size := by rw [BV_length, hsize]; omega
  have hnews : ∀ j u, (BV news)[j]? = some u → w.cell? ((⟨b2, o2, none⟩ : Addr).add j) = some u := fun j u hj => by
    obtain ⟨y, hy, hc⟩ := hsl.2.2.2.2 j u hj
    cases hy
    exact hc
  by_cases hr : n + m ≤ c
  · have hrun := run_append_room_cells (P := P) w t ty e i el.ht hi g 0 n c ⟨b2, o2, none⟩ m c2 (BV news) hl2 hnews (BV_one _) hr
      (fun j hj => by
        have hjm : j < m := by rw [BV_length] at hj; omega
        rw [hsize]
        have : n + j < cur.size := by omega
        simp [World.cell?, hg, this])
      (fun j hj => by
        have hjm : j < m := by rw [BV_length] at hj; omega
        rw [hsize]
        simp [World.frozen?, hg]
        omega)
    refine ⟨some ⟨g, 0, none⟩, c, _, hrun, ?_, ?_⟩
    · refine ⟨by rw [BV_length, List.length_append]; omega, hr, hcm, by simp, fun j u hj => ⟨_, rfl, ?_⟩⟩
      rw [addr_add, Nat.zero_add, hsize]
      simp only [Nat.zero_add, Nat.mul_one]
      have hjl : j < n + m := by have := (List.getElem?_eq_some_iff.1 hj).1; rw [BV_length, List.length_append] at this; omega
      by_cases hjn : j < n
      · rw [World.cell?_setCells_out g _ n w ⟨g, j, none⟩ (fun _ _ => .inl hjn)]
        rw [BV_append, List.getElem?_append_left (by rw [BV_length]; omega), ← ht, List.getElem?_take, if_pos hjn] at hj
        simpa [World.cell?, hg] using hj
      · have hin := World.cell?_setCells_in g (BV news) n w (fun k hk => by
          have hkm : k < m := by rw [BV_length] at hk; omega
          have : n + k < cur.size := by omega
          simp [World.cell?, hg, this]) (j - n) (by rw [BV_length]; omega)
        rw [show n + (j - n) = j by omega] at hin
        rw [hin, ← hj, BV_append, List.getElem?_append_right (by rw [BV_length]; omega), show j - (BV l).length = j - n by rw [BV_length]; omega, List.getElem?_eq_getElem]
    · exact below_setCells hB _ _ w
  · obtain ⟨v', w', hrun, r1, r2⟩ := run_append_arg_grows (P := P) w t ty e i z 1 bytes el.ht hi hz hsize hbb el.hzs el.hsz ⟨g, 0, none⟩ n c (BV l) (by rw [BV_length]; omega)
      (fun j u hj => by
        have hjn : j < n := by have := (List.getElem?_eq_some_iff.1 hj).1; rw [BV_length] at this; omega
        rw [← ht, List.getElem?_take, if_pos hjn] at hj
        rw [addr_add, Nat.zero_add]
        simpa [World.cell?, hg] using hj) ⟨b2, o2, none⟩ m c2 (BV news) (by rw [BV_length]; omega) hnews (by omega) (by unfold maxLen; omega) (by
          have := Nat.mul_le_mul_left (n + m) hby
          omega)
    obtain ⟨ad', c', rfl, _⟩ := own_forms r1
    refine ⟨ad', c', w', hrun, ?_, ?_⟩
    · have := Sl.of_own r1
      rw [← BV_append] at this
      exact this
    · exact ((Below.refl B w).grown r2 hBw (fun k hk => by cases hk))

/-! ### as steps -/
theorem wpL_conv {P : Program} {w : World} {ops : Array Oper} {rest : List Oper} {o : Oper} {a : Act} {Q : Exit → Act → World → Prop} {src dst e : TypeId} (s : ByteArray) (hs : P.underlying src = some .string) (hd : P.underlying dst = some (.slice e)) (he : P.underlying e = some (.int .u8)) (hsz : s.size ≤ 140737488351232)
    (hg : Region.wanted o (yielded ops a.tmps) = true) (x : Operand) (hop : o.op = Op.convert src dst x) (hx : a.eval x = .string s)
    (h : ∀ c w', Fresh w' w.heap.size w.heap.size s.size c s.data.toList → Below w.heap.size w w' → wpList P ops Q rest (a.put o.dst (.slice (some ⟨w.heap.size, 0, none⟩) s.size c)) w') : wpList P ops Q (o :: rest) a w := by
  obtain ⟨c, w', hr, h1, h2⟩ := run_conv (P := P) (w := w) s hs hd he hsz
  refine wpL_run hg ?_ (h c w' h1 h2)
  simp only [execOp, hop, hx, Sem.run_bind, hr, Result.andThen_ok, Sem.run_pure]
theorem step_conv {P : Program} {w : World} {ops : Array Oper} {o : Oper} {a : Act} {K : Act → World → Prop} {Q : Exit → Act → World → Prop} {E : Prop} {src dst e : TypeId} (s : ByteArray) (hs : P.underlying src = some .string) (hd : P.underlying dst = some (.slice e)) (he : P.underlying e = some (.int .u8)) (hsz : s.size ≤ 140737488351232)
    (hg : Region.wanted o (yielded ops a.tmps) = true) (x : Operand) (hop : o.op = Op.convert src dst x) (hx : a.eval x = .string s)
    (h : ∀ c w', Fresh w' w.heap.size w.heap.size s.size c s.data.toList → Below w.heap.size w w' → K (a.put o.dst (.slice (some ⟨w.heap.size, 0, none⟩) s.size c)) w') : if Region.wanted o (yielded ops a.tmps) = true then Oper.wp P o a w K Q else E := by
  obtain ⟨c, w', hr, h1, h2⟩ := run_conv (P := P) (w := w) s hs hd he hsz
  refine step_run hg ?_ (h c w' h1 h2)
  simp only [execOp, hop, hx, Sem.run_bind, hr, Result.andThen_ok, Sem.run_pure]
theorem step_append_fresh {P : Program} {w : World} {ops : Array Oper} {o : Oper} {a : Act} {K : Act → World → Prop} {Q : Exit → Act → World → Prop} {E : Prop} {t e : TypeId} {bytes : Nat} {z : Value} (el : Elem P t e 1 bytes z)
    (hgd : Region.wanted o (yielded ops a.tmps) = true) (s x : Operand) (ho : o.op = .call { callee := .builtin .append, args := #[s, x], argTypes := #[t, t] })
    {B g n c : Nat} {l : List UInt8} (hs : a.eval s = .slice (some ⟨g, 0, none⟩) n c) (hf : Fresh w B g n c l) {ad2 : Option Addr} {m c2 : Nat} {news : List UInt8} (hx : a.eval x = .slice ad2 m c2) (hsl : Bs w ad2 m c2 news) (hm : 0 < m) (h63 : n + m ≤ 140737488351232) (hby : bytes ≤ 1) (hBw : B ≤ w.heap.size)
    (h : ∀ ad' c' w', Bs w' ad' (n + m) c' (l ++ news) → Below B w w' → K (a.put o.dst (.slice ad' (n + m) c')) w') :
    if Region.wanted o (yielded ops a.tmps) = true then Oper.wp P o a w K Q else E := by
  obtain ⟨ad', c', w', hr, h2, h3⟩ := run_append_fresh (P := P) (ty := o.type) el hf hsl hm h63 hby hBw
  refine step_run hgd (v := .slice ad' (n + m) c') (w' := w') ?_ (h ad' c' w' h2 h3)
  unfold execOp
  simp only [ho, resolve, invoke, builtin, Sem.run_bind, Sem.run_pure, Result.andThen_ok, List.map_toArray, List.map_cons, List.map_nil, hs, hx, hr]
end Go.Proofs.Ytgpdlhbndoeldaa
/-
  More laws of single operations: loads of rows, new variables, parts of slices. Over any program.
-/
namespace Go.Proofs.Ytgpdlhbndoeldaa
open Go.RowKit Go.Sort
set_option linter.unusedVariables false
set_option linter.unusedSimpArgs false

theorem cells_get {w : World} {g : Nat} {cs : List Value} {ty : TypeId} {fz : Nat × Nat} (h : w.heap[g]? = some (.cells cs.toArray ty fz)) (j : Nat) : w.cell? ⟨g, j, none⟩ = cs[j]? := by
  simp [World.cell?, h]
theorem range_block {w : World} {b : Nat} {cs : List Value} {ty : TypeId} {fz : Nat × Nat} (h : w.heap[b]? = some (.cells cs.toArray ty fz)) : w.rangeAt b 0 cs :=
  fun j v hv => by rw [Nat.zero_add, cells_get h, hv]

theorem wpL_newAt {P : Program} {w : World} {ops : Array Oper} {rest : List Oper} {o1 o2 : Oper} {a : Act} {Q : Exit → Act → World → Prop} (b : Nat) (hg1 : o1.guard = none) (hg2 : o2.guard = none) (T : TypeId) (ho1 : o1.op = .alloc T) (x y : Operand) (ho2 : o2.op = .store T x y)
    (cs zs : Array Value) (hi : (P.info? T).map (fun i => (i.zero, i.size)) = some (some (.agg zs), cs.size)) (hz : zs.size = cs.size) (h1 : cs.all (·.oneCell') = true)
    (hx : ∀ p, (a.put o1.dst p).eval x = p) (hy : ∀ p, (a.put o1.dst p).eval y = .agg cs) (hb : b = w.heap.size)
    (h : wpList P ops Q rest ((a.put o1.dst (.pointer (some ⟨b, 0, none⟩))).put o2.dst undef) (w.alloc (.cells cs T))) :
    wpList P ops Q (o1 :: o2 :: rest) a w := by
  subst hb
  exact wpL_new hg1 hg2 T ho1 x y ho2 cs zs hi hz h1 hx hy h
theorem range_last {v : World} {b : Nat} {cs : List Value} {T : TypeId} (hb : b = v.heap.size) : (v.alloc (.cells cs.toArray T)).rangeAt b 0 cs := by
  subst hb
  exact range_block (heap_alloc_last v _)
theorem yields_slice {P : Program} {ops : Array Oper} {o : Oper} {a : Act} {S : World → Prop} {t e : TypeId} {size bytes : Nat} {z : Value} (el : Elem P t e size bytes z)
    (hg : Region.wanted o (yielded ops a.tmps) = true) (x : Operand) (lo hi : Option Operand) (hop : o.op = Op.slice t x lo hi none) {ad : Option Addr} {n c : Nat} (hx : a.eval x = .slice ad n c) (l h : Nat)
    (hlo : (lo.map a.eval = none ∧ l = 0) ∨ ∃ k, lo.map a.eval = some (.int k (l : Int))) (hhi : (hi.map a.eval = none ∧ h = n) ∨ ∃ k, hi.map a.eval = some (.int k (h : Int))) (hl : l ≤ h) (hh : h ≤ c) :
    YieldsIf P ops S o (.slice (subAd ad c l size) (h - l) (c - l)) a := by
  refine Or.inl ⟨hg, fun w _ => ?_⟩
  simp only [execOp, hop, hx, Option.map_none, Sem.run_bind, run_slice (P := P) (w := w) el ad n c (lo.map a.eval) (hi.map a.eval) l h hlo hhi hl hh, Result.andThen_ok, Sem.run_pure]

theorem wpL_load {P : Program} {ops : Array Oper} {rest : List Oper} {o : Oper} {a : Act} {w : World} {Q : Exit → Act → World → Prop} (hgd : Region.wanted o (yielded ops a.tmps) = true) (ty : TypeId) (x : Operand) (ho : o.op = .load ty x)
    (b off : Nat) (hx : a.eval x = .pointer (some ⟨b, off, none⟩)) (cs : List Value) (d : TypeDesc) (hc : w.rangeAt b off cs)
    (hu : P.underlying ty = some d) (hd : d.isRow = true) (hi : (P.info? ty).map (·.size) = some cs.length)
    (h : wpList P ops Q rest (a.put o.dst (.agg cs.toArray)) w) : wpList P ops Q (o :: rest) a w := by
  refine wpL_run hgd ?_ h
  unfold execOp
  simp only [ho, hx, Instr.loadAt, Instr.sureAddr, Sem.run_bind, Sem.run_pure, Result.andThen_ok, run_loadVar_mid w b off ty cs d hc hu hd hi]

end Go.Proofs.Ytgpdlhbndoeldaa
/-
  SipHash's words: what turns, sums and differences of words are; the rounds.
-/
namespace Go.Proofs.Ytgpdlhbndoeldaa
open Go.RowKit Go.Sort
set_option linter.unusedVariables false
set_option linter.unusedSimpArgs false

def M64 : Nat := 18446744073709551616
def orN (a b : Nat) : Nat := (a % 18446744073709551616) ||| (b % 18446744073709551616)
def xorN (a b : Nat) : Nat := (a % 18446744073709551616) ^^^ (b % 18446744073709551616)
def addN (a b : Nat) : Nat := (a + b) % 18446744073709551616
def turnN (n k : Nat) : Nat := orN (n * 2 ^ k % 18446744073709551616) (n / 2 ^ (64 - k))
theorem orN_lt (a b : Nat) : orN a b < 18446744073709551616 := Nat.or_lt_two_pow (n := 64) (Nat.mod_lt _ (by decide)) (Nat.mod_lt _ (by decide))
theorem xorN_lt (a b : Nat) : xorN a b < 18446744073709551616 := Nat.xor_lt_two_pow (n := 64) (Nat.mod_lt _ (by decide)) (Nat.mod_lt _ (by decide))
theorem addN_lt (a b : Nat) : addN a b < 18446744073709551616 := Nat.mod_lt _ (by decide)
theorem turnN_lt (n k : Nat) : turnN n k < 18446744073709551616 := orN_lt _ _
theorem bits_or (a b : Nat) : bits BinOp.or .u64 (a : Int) (b : Int) = ((orN a b : Nat) : Int) := by
  show IntKind.u64.wrap ((BitVec.ofInt 64 (a : Int) ||| BitVec.ofInt 64 (b : Int)).toNat : Int) = _
  have e (a : Nat) : (BitVec.ofInt 64 (a : Int)).toNat = a % 18446744073709551616 := by rw [BitVec.toNat_ofInt]; show ((a : Int) % 18446744073709551616).toNat = _; omega
  rw [BitVec.toNat_or, e, e]
  exact u64_wrap_nat _ (orN_lt a b)
theorem bits_xor (a b : Nat) : bits BinOp.xor .u64 (a : Int) (b : Int) = ((xorN a b : Nat) : Int) := by
  show IntKind.u64.wrap ((BitVec.ofInt 64 (a : Int) ^^^ BitVec.ofInt 64 (b : Int)).toNat : Int) = _
  have e (a : Nat) : (BitVec.ofInt 64 (a : Int)).toNat = a % 18446744073709551616 := by rw [BitVec.toNat_ofInt]; show ((a : Int) % 18446744073709551616).toNat = _; omega
  rw [BitVec.toNat_xor, e, e]
  exact u64_wrap_nat _ (xorN_lt a b)
theorem wrap_add (a b : Nat) : IntKind.u64.wrap ((a : Int) + (b : Int)) = ((addN a b : Nat) : Int) := by
  rw [IntKind.wrap_u64]; unfold addN; omega

theorem turn_bits (n A B : Nat) (a b : Int) (ha : a = A) (hb : b = B) :
    Ending.returned (.int .u64 (bits BinOp.or .u64 (IntKind.u64.wrap ((n : Int) * a)) ((n : Int) / b))) = Ending.returned (.int .u64 ((orN (n * A % 18446744073709551616) (n / B) : Nat) : Int)) := by
  subst ha hb
  rw [show IntKind.u64.wrap ((n : Int) * (A : Int)) = ((n * A % 18446744073709551616 : Nat) : Int) by rw [IntKind.wrap_u64]; omega, show (n : Int) / (B : Int) = ((n / B : Nat) : Int) by omega, bits_or]

set_option maxRecDepth 100000 in
theorem rot_any (n : Nat) (k : Int) (w : World) (hn : n < 18446744073709551616) (hk : k = 13 ∨ k = 16 ∨ k = 17 ∨ k = 21 ∨ k = 32) :
    Calls Try.prog 87 #[.int .u64 n, .int .i64 k] w fun e w' => e = .returned (.int .u64 (turnN n k.toNat)) ∧ w = w' := by
  have a13 : bits BinOp.and .u64 13 63 = 13 := by rfl
  have a16 : bits BinOp.and .u64 16 63 = 16 := by rfl
  have a17 : bits BinOp.and .u64 17 63 = 17 := by rfl
  have a21 : bits BinOp.and .u64 21 63 = 21 := by rfl
  have a32 : bits BinOp.and .u64 32 63 = 32 := by rfl
  rcases hk with rfl | rfl | rfl | rfl | rfl
  all_goals
    go_enter Try.func87, Try.ntmps87
    go_wp2_with fail
    go_ret
    exact ⟨turn_bits n _ _ _ _ (by rfl) (by rfl), rfl⟩


/-- a round of the four words -/
def roundN (s : Nat × Nat × Nat × Nat) : Nat × Nat × Nat × Nat :=
  let a1 := addN s.1 s.2.1
  let b1 := xorN (turnN s.2.1 13) a1
  let a2 := turnN a1 32
  let c1 := addN s.2.2.1 s.2.2.2
  let d1 := xorN (turnN s.2.2.2 16) c1
  let a3 := addN a2 d1
  let d2 := xorN (turnN d1 21) a3
  let c2 := addN c1 b1
  let b2 := xorN (turnN b1 17) c2
  let c3 := turnN c2 32
  (a3, b2, c3, d2)
/-- words all -/
def Okw (s : Nat × Nat × Nat × Nat) : Prop := s.1 < 18446744073709551616 ∧ s.2.1 < 18446744073709551616 ∧ s.2.2.1 < 18446744073709551616 ∧ s.2.2.2 < 18446744073709551616
theorem Okw.round {s : Nat × Nat × Nat × Nat} (h : Okw s) : Okw (roundN s) := ⟨addN_lt _ _, xorN_lt _ _, turnN_lt _ _, xorN_lt _ _⟩
def aggN (s : Nat × Nat × Nat × Nat) : Value := .agg #[.int .u64 s.1, .int .u64 s.2.1, .int .u64 s.2.2.1, .int .u64 s.2.2.2]

end Go.Proofs.Ytgpdlhbndoeldaa
/-
  SipHash's state in memory: the rounds, and a word taken in.
-/
namespace Go.Proofs.Ytgpdlhbndoeldaa
open Go.RowKit Go.Sort
set_option linter.unusedVariables false
set_option linter.unusedSimpArgs false

set_option maxRecDepth 100000 in
theorem rotS (n t : Nat) (k : Int) (ht : t = turnN n k.toNat) (hn : n < 18446744073709551616) (hk : k = 13 ∨ k = 16 ∨ k = 17 ∨ k = 21 ∨ k = 32) (w : World) :
    Calls Try.prog 87 #[.int .u64 n, .int .i64 k] w fun e w'' => e = .returned (.int .u64 t) ∧ w'' = w :=
  (rot_any n k w hn hk).mono fun e w' h => ⟨by rw [h.1, ht], h.2.symm⟩

/-- the four words lie in block g -/
def StAt (w : World) (g : Nat) (a b c d : Nat) : Prop := w.heap[g]? = some (.cells #[.int .u64 a, .int .u64 b, .int .u64 c, .int .u64 d] 118 (0, 0))
theorem StAt.cells {w : World} {g a b c d : Nat} (h : StAt w g a b c d) : w.cell? ⟨g, 0, none⟩ = some (.int .u64 a) ∧ w.cell? ⟨g, 1, none⟩ = some (.int .u64 b) ∧ w.cell? ⟨g, 2, none⟩ = some (.int .u64 c) ∧ w.cell? ⟨g, 3, none⟩ = some (.int .u64 d) ∧
    w.frozen? ⟨g, 0, none⟩ = false ∧ w.frozen? ⟨g, 1, none⟩ = false ∧ w.frozen? ⟨g, 2, none⟩ = false ∧ w.frozen? ⟨g, 3, none⟩ = false := by
  unfold StAt at h
  simp [World.cell?, World.frozen?, h]
theorem StAt.drew {w : World} {g a b c d : Nat} (h : StAt w g a b c d) : StAt w.drew g a b c d := h
theorem StAt.set {w : World} {g a b c d : Nat} (h : StAt w g a b c d) (k x : Nat) : (w.setCell ⟨g, k, none⟩ (.int .u64 x)).heap[g]? = some (.cells (#[.int .u64 a, .int .u64 b, .int .u64 c, .int .u64 d].setIfInBounds k (.int .u64 x)) 118 (0, 0)) := by
  unfold StAt at h
  have hlt := lt_of_block h
  have h' : w.heap[g] = .cells #[.int .u64 a, .int .u64 b, .int .u64 c, .int .u64 d] 118 (0, 0) := by simpa [Array.getElem?_eq_getElem hlt] using h
  show (w.heap.modify g _)[g]? = _
  rw [Array.getElem?_eq_getElem (by simpa using hlt), Array.getElem_modify_self, h']
  rfl
theorem grown_set (w : World) (g k : Nat) (v : Value) : w.grownBy (w.setCell ⟨g, k, none⟩ v) (some g) :=
  ⟨rfl, rfl, rfl, by simp [World.setCell], fun i hi hne => Below.heap_setCell _ _ _ _ (by intro h; exact hne (by rw [h]))⟩

set_option maxRecDepth 100000 in
set_option maxHeartbeats 1000000 in
theorem rounds_any (g : Nat) (n : Nat) (a b c d : Nat) (w : World) (hn : n ≤ 4) (h : Okw (a, b, c, d)) (hs : StAt w g a b c d) :
    Calls Try.prog 80 #[.pointer (some ⟨g, 0, none⟩), .int .i64 n] w fun e w' => e = .returned (.tuple #[]) ∧ (∃ a' b' c' d', (a', b', c', d') = Nat.repeat roundN n (a, b, c, d) ∧ Okw (a', b', c', d') ∧ StAt w' g a' b' c' d') ∧ w.grownBy w' (some g) := by
  have HS := Lib.hid hs
  have HO := Lib.hid h
  clear hs h
  go_enter Try.func80, Try.ntmps80
  go_wp2
  go_loopw [5] (fun i wr => ∃ k : Nat, k ≤ n ∧ i = .int .i64 k ∧ ∃ a' b' c' d', (a', b', c', d') = Nat.repeat roundN k (a, b, c, d) ∧ Okw (a', b', c', d') ∧ StAt wr g a' b' c' d' ∧ w.grownBy wr (some g)) (fun i _ => n - (intOf i).toNat)
  case atStart => exact ⟨0, Nat.zero_le _, rfl, a, b, c, d, rfl, HO.out, HS.out, World.grownBy.refl _ _⟩
  case round =>
    obtain ⟨k, hk, rfl, a1, b1, c1, d1, he, ho, hst, hg⟩ := hrel
    have HE := Lib.hid he
    have HST := Lib.hid hst
    have HG := Lib.hid hg
    clear he hst hg HS HO
    by_cases hlt : k < n
    · have la1 := ho.1; have lb1 := ho.2.1; have lc1 := ho.2.2.1; have ld1 := ho.2.2.2
      simp only at la1 lb1 lc1 ld1
      obtain ⟨x0, hx0⟩ : ∃ x, x = addN a1 b1 := ⟨_, rfl⟩
      have lx0 : x0 < 18446744073709551616 := by rw [hx0]; exact addN_lt _ _
      have fx0 := wrap_add a1 b1; rw [← hx0] at fx0
      obtain ⟨t1, ht1⟩ : ∃ x, x = turnN b1 (Int.toNat 13) := ⟨_, rfl⟩
      obtain ⟨x1, hx1⟩ : ∃ x, x = xorN t1 x0 := ⟨_, rfl⟩
      have lx1 : x1 < 18446744073709551616 := by rw [hx1]; exact xorN_lt _ _
      have fx1 := bits_xor t1 x0; rw [← hx1] at fx1
      have Fx1 := Lib.hid (rotS b1 t1 13 ht1 lb1 (by omega))
      obtain ⟨x2, hx2⟩ : ∃ x, x = turnN x0 (Int.toNat 32) := ⟨_, rfl⟩
      have lx2 : x2 < 18446744073709551616 := by rw [hx2]; exact turnN_lt _ _
      have Fx2 := Lib.hid (rotS x0 x2 32 hx2 lx0 (by omega))
      obtain ⟨x3, hx3⟩ : ∃ x, x = addN c1 d1 := ⟨_, rfl⟩
      have lx3 : x3 < 18446744073709551616 := by rw [hx3]; exact addN_lt _ _
      have fx3 := wrap_add c1 d1; rw [← hx3] at fx3
      obtain ⟨t4, ht4⟩ : ∃ x, x = turnN d1 (Int.toNat 16) := ⟨_, rfl⟩
      obtain ⟨x4, hx4⟩ : ∃ x, x = xorN t4 x3 := ⟨_, rfl⟩
      have lx4 : x4 < 18446744073709551616 := by rw [hx4]; exact xorN_lt _ _
      have fx4 := bits_xor t4 x3; rw [← hx4] at fx4
      have Fx4 := Lib.hid (rotS d1 t4 16 ht4 ld1 (by omega))
      obtain ⟨x5, hx5⟩ : ∃ x, x = addN x2 x4 := ⟨_, rfl⟩
      have lx5 : x5 < 18446744073709551616 := by rw [hx5]; exact addN_lt _ _
      have fx5 := wrap_add x2 x4; rw [← hx5] at fx5
      obtain ⟨t6, ht6⟩ : ∃ x, x = turnN x4 (Int.toNat 21) := ⟨_, rfl⟩
      obtain ⟨x6, hx6⟩ : ∃ x, x = xorN t6 x5 := ⟨_, rfl⟩
      have lx6 : x6 < 18446744073709551616 := by rw [hx6]; exact xorN_lt _ _
      have fx6 := bits_xor t6 x5; rw [← hx6] at fx6
      have Fx6 := Lib.hid (rotS x4 t6 21 ht6 lx4 (by omega))
      obtain ⟨x7, hx7⟩ : ∃ x, x = addN x3 x1 := ⟨_, rfl⟩
      have lx7 : x7 < 18446744073709551616 := by rw [hx7]; exact addN_lt _ _
      have fx7 := wrap_add x3 x1; rw [← hx7] at fx7
      obtain ⟨t8, ht8⟩ : ∃ x, x = turnN x1 (Int.toNat 17) := ⟨_, rfl⟩
      obtain ⟨x8, hx8⟩ : ∃ x, x = xorN t8 x7 := ⟨_, rfl⟩
      have lx8 : x8 < 18446744073709551616 := by rw [hx8]; exact xorN_lt _ _
      have fx8 := bits_xor t8 x7; rw [← hx8] at fx8
      have Fx8 := Lib.hid (rotS x1 t8 17 ht8 lx1 (by omega))
      obtain ⟨x9, hx9⟩ : ∃ x, x = turnN x7 (Int.toNat 32) := ⟨_, rfl⟩
      have lx9 : x9 < 18446744073709551616 := by rw [hx9]; exact turnN_lt _ _
      have Fx9 := Lib.hid (rotS x7 x9 32 hx9 lx7 (by omega))
      have HR : Hid ((x5, x8, x9, x6) = Nat.repeat roundN (k + 1) (a, b, c, d)) := Lib.hid (by show _ = roundN (Nat.repeat roundN k (a, b, c, d)); rw [← HE.out]; subst hx9 hx8 hx7 hx6 hx5 hx4 hx3 hx2 hx1 hx0; subst ht1 ht4 ht6 ht8; rfl)
      clear hx0 hx1 hx2 hx3 hx4 hx5 hx6 hx7 hx8 hx9 ht1 ht4 ht6 ht8
      obtain ⟨p0, p1, p2, p3, q0, q1, q2, q3⟩ := HST.out.cells
      go_wp2_with fail
      go_still_tail 11, (by kernel_rfl)
      change wpList _ _ _ _ _ wr.drew
      have hD := HST.out.drew; have hGD := HG.out.trans (grown_drew wr (some g))
      generalize wr.drew = v0 at hD hGD ⊢
      clear p0 p1 p2 p3 q0 q1 q2 q3 HST HG
      obtain ⟨p0, p1, p2, p3, q0, q1, q2, q3⟩ := hD.cells
      have HD := Lib.hid hD; have HGD := Lib.hid hGD; clear hD hGD
      go_wp2_with fail
      have hS : StAt (v0.setCell ⟨g, 0, none⟩ (.int .u64 x0)) g x0 b1 c1 d1 := HD.out.set 0 x0
      have hGS := HGD.out.trans (grown_set v0 g 0 (.int .u64 x0))
      generalize v0.setCell ⟨g, 0, none⟩ (.int .u64 x0) = w0 at hS hGS ⊢
      have HST := Lib.hid hS; have HG := Lib.hid hGS; clear hS hGS HD HGD p0 p1 p2 p3 q0 q1 q2 q3
      obtain ⟨p0, p1, p2, p3, q0, q1, q2, q3⟩ := HST.out.cells
      go_still_tail 13, (by kernel_rfl)
      still_call (Fx1.out _)
      repeat still_step
      refine wpStill_nil ?_
      change wpList _ _ _ _ _ w0.drew
      have hD := HST.out.drew; have hGD := HG.out.trans (grown_drew w0 (some g))
      generalize w0.drew = v1 at hD hGD ⊢
      clear p0 p1 p2 p3 q0 q1 q2 q3 HST HG
      obtain ⟨p0, p1, p2, p3, q0, q1, q2, q3⟩ := hD.cells
      have HD := Lib.hid hD; have HGD := Lib.hid hGD; clear hD hGD
      go_wp2_with fail
      have hS : StAt (v1.setCell ⟨g, 1, none⟩ (.int .u64 x1)) g x0 x1 c1 d1 := HD.out.set 1 x1
      have hGS := HGD.out.trans (grown_set v1 g 1 (.int .u64 x1))
      generalize v1.setCell ⟨g, 1, none⟩ (.int .u64 x1) = w1 at hS hGS ⊢
      have HST := Lib.hid hS; have HG := Lib.hid hGS; clear hS hGS HD HGD p0 p1 p2 p3 q0 q1 q2 q3
      obtain ⟨p0, p1, p2, p3, q0, q1, q2, q3⟩ := HST.out.cells
      have HD := HST; have HGD := HG; clear HST HG
      go_wp2_with (go_at_call 87; refine (Fx2.out _).mono ?_; rintro e w' ⟨rfl, hw⟩; obtain rfl := hw.symm)
      have hS : StAt (w1.setCell ⟨g, 0, none⟩ (.int .u64 x2)) g x2 x1 c1 d1 := HD.out.set 0 x2
      have hGS := HGD.out.trans (grown_set w1 g 0 (.int .u64 x2))
      generalize w1.setCell ⟨g, 0, none⟩ (.int .u64 x2) = w2 at hS hGS ⊢
      have HST := Lib.hid hS; have HG := Lib.hid hGS; clear hS hGS HD HGD p0 p1 p2 p3 q0 q1 q2 q3
      obtain ⟨p0, p1, p2, p3, q0, q1, q2, q3⟩ := HST.out.cells
      go_still_tail 11, (by kernel_rfl)
      change wpList _ _ _ _ _ w2.drew
      have hD := HST.out.drew; have hGD := HG.out.trans (grown_drew w2 (some g))
      generalize w2.drew = v3 at hD hGD ⊢
      clear p0 p1 p2 p3 q0 q1 q2 q3 HST HG
      obtain ⟨p0, p1, p2, p3, q0, q1, q2, q3⟩ := hD.cells
      have HD := Lib.hid hD; have HGD := Lib.hid hGD; clear hD hGD
      go_wp2_with fail
      have hS : StAt (v3.setCell ⟨g, 2, none⟩ (.int .u64 x3)) g x2 x1 x3 d1 := HD.out.set 2 x3
      have hGS := HGD.out.trans (grown_set v3 g 2 (.int .u64 x3))
      generalize v3.setCell ⟨g, 2, none⟩ (.int .u64 x3) = w3 at hS hGS ⊢
      have HST := Lib.hid hS; have HG := Lib.hid hGS; clear hS hGS HD HGD p0 p1 p2 p3 q0 q1 q2 q3
      obtain ⟨p0, p1, p2, p3, q0, q1, q2, q3⟩ := HST.out.cells
      go_still_tail 13, (by kernel_rfl)
      still_call (Fx4.out _)
      repeat still_step
      refine wpStill_nil ?_
      change wpList _ _ _ _ _ w3.drew
      have hD := HST.out.drew; have hGD := HG.out.trans (grown_drew w3 (some g))
      generalize w3.drew = v4 at hD hGD ⊢
      clear p0 p1 p2 p3 q0 q1 q2 q3 HST HG
      obtain ⟨p0, p1, p2, p3, q0, q1, q2, q3⟩ := hD.cells
      have HD := Lib.hid hD; have HGD := Lib.hid hGD; clear hD hGD
      go_wp2_with fail
      have hS : StAt (v4.setCell ⟨g, 3, none⟩ (.int .u64 x4)) g x2 x1 x3 x4 := HD.out.set 3 x4
      have hGS := HGD.out.trans (grown_set v4 g 3 (.int .u64 x4))
      generalize v4.setCell ⟨g, 3, none⟩ (.int .u64 x4) = w4 at hS hGS ⊢
      have HST := Lib.hid hS; have HG := Lib.hid hGS; clear hS hGS HD HGD p0 p1 p2 p3 q0 q1 q2 q3
      obtain ⟨p0, p1, p2, p3, q0, q1, q2, q3⟩ := HST.out.cells
      go_still_tail 11, (by kernel_rfl)
      change wpList _ _ _ _ _ w4.drew
      have hD := HST.out.drew; have hGD := HG.out.trans (grown_drew w4 (some g))
      generalize w4.drew = v5 at hD hGD ⊢
      clear p0 p1 p2 p3 q0 q1 q2 q3 HST HG
      obtain ⟨p0, p1, p2, p3, q0, q1, q2, q3⟩ := hD.cells
      have HD := Lib.hid hD; have HGD := Lib.hid hGD; clear hD hGD
      go_wp2_with fail
      have hS : StAt (v5.setCell ⟨g, 0, none⟩ (.int .u64 x5)) g x5 x1 x3 x4 := HD.out.set 0 x5
      have hGS := HGD.out.trans (grown_set v5 g 0 (.int .u64 x5))
      generalize v5.setCell ⟨g, 0, none⟩ (.int .u64 x5) = w5 at hS hGS ⊢
      have HST := Lib.hid hS; have HG := Lib.hid hGS; clear hS hGS HD HGD p0 p1 p2 p3 q0 q1 q2 q3
      obtain ⟨p0, p1, p2, p3, q0, q1, q2, q3⟩ := HST.out.cells
      go_still_tail 13, (by kernel_rfl)
      still_call (Fx6.out _)
      repeat still_step
      refine wpStill_nil ?_
      change wpList _ _ _ _ _ w5.drew
      have hD := HST.out.drew; have hGD := HG.out.trans (grown_drew w5 (some g))
      generalize w5.drew = v6 at hD hGD ⊢
      clear p0 p1 p2 p3 q0 q1 q2 q3 HST HG
      obtain ⟨p0, p1, p2, p3, q0, q1, q2, q3⟩ := hD.cells
      have HD := Lib.hid hD; have HGD := Lib.hid hGD; clear hD hGD
      go_wp2_with fail
      have hS : StAt (v6.setCell ⟨g, 3, none⟩ (.int .u64 x6)) g x5 x1 x3 x6 := HD.out.set 3 x6
      have hGS := HGD.out.trans (grown_set v6 g 3 (.int .u64 x6))
      generalize v6.setCell ⟨g, 3, none⟩ (.int .u64 x6) = w6 at hS hGS ⊢
      have HST := Lib.hid hS; have HG := Lib.hid hGS; clear hS hGS HD HGD p0 p1 p2 p3 q0 q1 q2 q3
      obtain ⟨p0, p1, p2, p3, q0, q1, q2, q3⟩ := HST.out.cells
      go_still_tail 11, (by kernel_rfl)
      change wpList _ _ _ _ _ w6.drew
      have hD := HST.out.drew; have hGD := HG.out.trans (grown_drew w6 (some g))
      generalize w6.drew = v7 at hD hGD ⊢
      clear p0 p1 p2 p3 q0 q1 q2 q3 HST HG
      obtain ⟨p0, p1, p2, p3, q0, q1, q2, q3⟩ := hD.cells
      have HD := Lib.hid hD; have HGD := Lib.hid hGD; clear hD hGD
      go_wp2_with fail
      have hS : StAt (v7.setCell ⟨g, 2, none⟩ (.int .u64 x7)) g x5 x1 x7 x6 := HD.out.set 2 x7
      have hGS := HGD.out.trans (grown_set v7 g 2 (.int .u64 x7))
      generalize v7.setCell ⟨g, 2, none⟩ (.int .u64 x7) = w7 at hS hGS ⊢
      have HST := Lib.hid hS; have HG := Lib.hid hGS; clear hS hGS HD HGD p0 p1 p2 p3 q0 q1 q2 q3
      obtain ⟨p0, p1, p2, p3, q0, q1, q2, q3⟩ := HST.out.cells
      go_still_tail 13, (by kernel_rfl)
      still_call (Fx8.out _)
      repeat still_step
      refine wpStill_nil ?_
      change wpList _ _ _ _ _ w7.drew
      have hD := HST.out.drew; have hGD := HG.out.trans (grown_drew w7 (some g))
      generalize w7.drew = v8 at hD hGD ⊢
      clear p0 p1 p2 p3 q0 q1 q2 q3 HST HG
      obtain ⟨p0, p1, p2, p3, q0, q1, q2, q3⟩ := hD.cells
      have HD := Lib.hid hD; have HGD := Lib.hid hGD; clear hD hGD
      go_wp2_with fail
      have hS : StAt (v8.setCell ⟨g, 1, none⟩ (.int .u64 x8)) g x5 x8 x7 x6 := HD.out.set 1 x8
      have hGS := HGD.out.trans (grown_set v8 g 1 (.int .u64 x8))
      generalize v8.setCell ⟨g, 1, none⟩ (.int .u64 x8) = w8 at hS hGS ⊢
      have HST := Lib.hid hS; have HG := Lib.hid hGS; clear hS hGS HD HGD p0 p1 p2 p3 q0 q1 q2 q3
      obtain ⟨p0, p1, p2, p3, q0, q1, q2, q3⟩ := HST.out.cells
      have HD := HST; have HGD := HG; clear HST HG
      go_wp2_with (go_at_call 87; refine (Fx9.out _).mono ?_; rintro e w' ⟨rfl, hw⟩; obtain rfl := hw.symm)
      have hS : StAt (w8.setCell ⟨g, 2, none⟩ (.int .u64 x9)) g x5 x8 x9 x6 := HD.out.set 2 x9
      have hGS := HGD.out.trans (grown_set w8 g 2 (.int .u64 x9))
      generalize w8.setCell ⟨g, 2, none⟩ (.int .u64 x9) = w9 at hS hGS ⊢
      have HST := Lib.hid hS; have HG := Lib.hid hGS; clear hS hGS HD HGD p0 p1 p2 p3 q0 q1 q2 q3
      go_roundw
      case rel => exact ⟨k + 1, by omega, by go_num, x5, x8, x9, x6, HR.out, ⟨lx5, lx8, lx9, lx6⟩, HST.out, HG.out⟩
      case measure => simp [intOf]; omega
    · obtain rfl : k = n := by omega
      go_wp2_with fail
      go_end0
      exact ⟨rfl, ⟨a1, b1, c1, d1, HE.out, ho, HST.out⟩, HG.out⟩
end Go.Proofs.Ytgpdlhbndoeldaa
/-
  SipHash: a word taken in.
-/
namespace Go.Proofs.Ytgpdlhbndoeldaa
open Go.RowKit Go.Sort
set_option linter.unusedVariables false
set_option linter.unusedSimpArgs false

/-- a word taken in -/
def wordN (s : Nat × Nat × Nat × Nat) (n : Nat) : Nat × Nat × Nat × Nat :=
  let r := roundN (roundN (s.1, s.2.1, s.2.2.1, xorN s.2.2.2 n))
  (xorN r.1 n, r.2.1, r.2.2.1, r.2.2.2)

set_option maxRecDepth 100000 in
set_option maxHeartbeats 1000000 in
theorem word_any (g : Nat) (n : Nat) (a b c d : Nat) (w : World) (h : Okw (a, b, c, d)) (hs : StAt w g a b c d) :
    Calls Try.prog 79 #[.pointer (some ⟨g, 0, none⟩), .int .u64 n] w fun e w' => e = .returned (.tuple #[]) ∧ (∃ a' b' c' d', (a', b', c', d') = wordN (a, b, c, d) n ∧ Okw (a', b', c', d') ∧ StAt w' g a' b' c' d') ∧ w.grownBy w' (some g) := by
  have HST := Lib.hid hs
  obtain ⟨x, hx⟩ : ∃ x, x = xorN d n := ⟨_, rfl⟩
  have fx := bits_xor d n
  rw [← hx] at fx
  have lx : x < 18446744073709551616 := by rw [hx]; exact xorN_lt _ _
  have ho : Okw (a, b, c, x) := ⟨h.1, h.2.1, h.2.2.1, lx⟩
  have HX := Lib.hid hx
  have HO := Lib.hid ho
  clear hs h hx ho
  obtain ⟨p0, p1, p2, p3, q0, q1, q2, q3⟩ := HST.out.cells
  go_enter Try.func79, Try.ntmps79
  go_wp2_with fail
  have hS : StAt (w.setCell ⟨g, 3, none⟩ (.int .u64 x)) g a b c x := HST.out.set 3 x
  have hG := grown_set w g 3 (.int .u64 x)
  generalize w.setCell ⟨g, 3, none⟩ (.int .u64 x) = w1 at hS hG ⊢
  have HS := Lib.hid hS
  have HG := Lib.hid hG
  clear hS hG HST p0 p1 p2 p3 q0 q1 q2 q3
  have R := rounds_any g 2 a b c x w1 (by omega) HO.out HS.out
  have HR := Lib.hid R
  clear R
  go_wp2_with (go_at_call 80; refine HR.out.mono ?_; rintro e w2 ⟨rfl, ⟨a2, b2, c2, d2, he2, ho2, hs2⟩, hg2⟩; have HE2 := Lib.hid he2; have HO2 := Lib.hid ho2; have HS2 := Lib.hid hs2; have HG2 := Lib.hid hg2; clear he2 ho2 hs2 hg2; obtain ⟨p0, p1, p2, p3, q0, q1, q2, q3⟩ := HS2.out.cells; have fy := bits_xor a2 n)
  have hS : StAt (w2.setCell ⟨g, 0, none⟩ (.int .u64 (xorN a2 n))) g (xorN a2 n) b2 c2 d2 := HS2.out.set 0 (xorN a2 n)
  have hG := grown_set w2 g 0 (.int .u64 (xorN a2 n))
  go_end0
  refine ⟨rfl, ⟨_, _, _, _, ?_, ⟨xorN_lt _ _, HO2.out.2.1, HO2.out.2.2.1, HO2.out.2.2.2⟩, hS⟩, HG.out.trans (HG2.out.trans hG)⟩
  have e := HE2.out
  have e' : (a2, b2, c2, d2) = roundN (roundN (a, b, c, x)) := e
  unfold wordN
  rw [show xorN (a, b, c, d).2.2.2 n = x from HX.out.symm]
  show _ = (xorN (roundN (roundN (a, b, c, x))).1 n, (roundN (roundN (a, b, c, x))).2.1, (roundN (roundN (a, b, c, x))).2.2.1, (roundN (roundN (a, b, c, x))).2.2.2)
  rw [← e']
  rfl
end Go.Proofs.Ytgpdlhbndoeldaa
/-
  slices.Grow of nil, slices.Concat: of bytes.
-/
namespace Go.Proofs.Ytgpdlhbndoeldaa
open Go.RowKit Go.Sort
set_option linter.unusedVariables false
set_option linter.unusedSimpArgs false

set_option maxRecDepth 100000 in
set_option maxHeartbeats 1000000 in
theorem grow_nil (n : Nat) (w : World) (hn : n ≤ 140737488351232) :
    Calls Try.prog 77 #[.slice none 0 0, .int .i64 n] w fun e w' => ∃ ad c, e = .returned (.slice ad 0 c) ∧ w'.ownsRow w.heap.size 5 1 (.slice ad 0 c) 0 [] ∧ Below w.heap.size w w' := by
  by_cases h0 : n = 0
  · subst h0
    go_enter Try.func77, Try.ntmps77
    go_wp2
    go_ret
    exact ⟨none, 0, rfl, World.ownsRow_nil _ _ _ _, Below.refl _ _⟩
  · obtain ⟨i, hi, hz, hsize, hby⟩ := info_parts elB.info
    have hpos : (0 : Int) < n := by omega
    have hr := fun ty => Lib.run_append_nil_zeros (P := Try.prog) w 72 3 ty 5 i _ .i64 .i64 elB.ht Try.underlying3 hi hz n (by omega) (by omega) (by omega) (by rw [hby]; omega)
    have HR := Lib.hid hr
    clear hr
    go_enter Try.func77, Try.ntmps77
    go_wp2_with (first
      | ((with_reducible refine sl 22 ?_); go_must (refine Lib.wpList_append_run _ rfl _ _ _ _ rfl _ _ rfl rfl _ _ (HR.out _) ?_)))
    go_ret
    have hge := grownCap_ge w n 0 5
    refine ⟨some ⟨w.heap.size, 0, none⟩, grownCap w n 0 5, rfl, ⟨by simp, .inr ⟨w.heap.size, _, _, rfl, Nat.le_refl _, heap_alloc_new _ _, Nat.zero_le _, grownCap_le_maxLen _ _ _ _ (by unfold maxLen; omega), ?_, by simp⟩⟩, ((Below.refl _ _).alloc (Nat.le_refl _) _).drew⟩
    simp [Builtin.zeroCells]
    omega

/-- parts of bytes, one behind the other in a slice of slices -/
def Pts (w : World) (ad : Option Addr) (m c : Nat) (ps : List (Option Addr × Nat × Nat × List UInt8)) : Prop :=
  Sl w ad m c 1 (ps.map fun p => .slice p.1 p.2.1 p.2.2.1) ∧ ∀ p ∈ ps, Bs w p.1 p.2.1 p.2.2.1 p.2.2.2
/-- all bytes of parts -/
def flat (ps : List (Option Addr × Nat × Nat × List UInt8)) : List UInt8 := (ps.map (·.2.2.2)).flatten
theorem flat_snoc (ps : List (Option Addr × Nat × Nat × List UInt8)) (p : Option Addr × Nat × Nat × List UInt8) : flat (ps ++ [p]) = flat ps ++ p.2.2.2 := by simp [flat]
theorem flat_take (ps : List (Option Addr × Nat × Nat × List UInt8)) (k : Nat) (h : k < ps.length) : flat (ps.take (k + 1)) = flat (ps.take k) ++ ps[k].2.2.2 := by
  rw [List.take_add_one, List.getElem?_eq_getElem h, Option.toList_some, flat_snoc]
theorem flat_take_le (ps : List (Option Addr × Nat × Nat × List UInt8)) (k : Nat) : (flat (ps.take k)).length ≤ (flat ps).length := by
  have : flat ps = flat (ps.take k) ++ flat (ps.drop k) := by
    unfold flat
    rw [← List.flatten_append, ← List.map_append, List.take_append_drop]
  rw [this, List.length_append]
  omega
theorem Pts.below {w w' : World} {ad : Option Addr} {m c : Nat} {ps : List (Option Addr × Nat × Nat × List UInt8)} (h : Pts w ad m c ps) (hb : Below w.heap.size w w') : Pts w' ad m c ps :=
  ⟨h.1.below hb, fun p hp => (h.2 p hp).below hb⟩

set_option maxRecDepth 100000 in
set_option maxHeartbeats 1000000 in
theorem concat_any (ad : Option Addr) (m c : Nat) (ps : List (Option Addr × Nat × Nat × List UInt8)) (w : World) (hp : Pts w ad m c ps) (hsz : (flat ps).length ≤ 140737488351232) :
    Calls Try.prog 62 #[.slice ad m c] w (RetB 5 (flat ps) w) := by
  have hm : m = ps.length := by have := hp.1.len; simp at this; omega
  have hmc := hp.1.le
  have hcm : c ≤ 9223372036854775807 := by have := hp.1.2.2.1; simp [maxLen] at this; omega
  have HP := Lib.hid hp
  have HM := Lib.hid hm
  clear hp hm
  go_enter Try.func62, Try.ntmps62
  go_wp2
  go_loop [3, 11] (fun n i => ∃ k : Nat, k ≤ m ∧ i = .int .i64 k ∧ n = .int .i64 ((flat (ps.take k)).length : Nat)) (fun _ i => m - (intOf i).toNat)
  case atStart => exact ⟨0, Nat.zero_le _, rfl, by simp [flat]⟩
  case round =>
    obtain ⟨k, hk, rfl, rfl⟩ := hrel
    by_cases hlt : k < m
    · have hk2 : k < ps.length := by have := HM.out; omega
      obtain ⟨b, off, rfl, _, hcc⟩ := HP.out.1.at (j := k) (by simpa using hk2)
      have hcx := hcc k (by simpa using hk2)
      simp only [List.getElem_map] at hcx
      have hl := (HP.out.2 ps[k] (List.getElem_mem hk2)).len
      have hst := flat_take ps k hk2
      have hle := flat_take_le ps (k + 1)
      generalize ps[k] = p at *
      obtain ⟨pa, pn, pc, pl⟩ := p
      simp only at hcx hl hst
      rw [hst, List.length_append, ← hl] at hle
      have HST := Lib.hid hst
      have HL := Lib.hid hl
      generalize hq : (flat (ps.take k)).length = q at *
      have HQ := Lib.hid hq
      clear hst hcc hl hq
      go_wp2_with fail
      go_round
      case rel => exact ⟨k + 1, by omega, by go_num, by rw [HST.out, List.length_append, ← HL.out, HQ.out]; go_num⟩
      case measure => simp [intOf]; omega
    · obtain rfl : k = m := by omega
      have hall : flat (ps.take k) = flat ps := by rw [List.take_of_length_le (by have := HM.out; omega)]
      rw [hall]
      have HF := Lib.hid hsz
      clear hall
      go_wp2_with (go_at_call 77; refine (grow_nil _ _ hsz).mono ?_; rintro e w1 ⟨ad1, c1, rfl, ho1, hb1⟩; have HO1 := Lib.hid ho1; have HB1 := Lib.hid hb1; clear ho1 hb1)
      go_loopw [6, 27] (fun v i wr => ∃ (j : Nat) (ad' : Option Addr) (c' : Nat), j ≤ k ∧ i = .int .i64 j ∧ v = .slice ad' (flat (ps.take j)).length c' ∧ wr.ownsRow w.heap.size 5 1 (.slice ad' (flat (ps.take j)).length c') (flat (ps.take j)).length (BV (flat (ps.take j))) ∧ Below w.heap.size w wr) (fun _ i _ => k - (intOf i).toNat)
      case atStart => exact ⟨0, ad1, c1, Nat.zero_le _, rfl, by simp [flat], by simpa [flat, BV] using HO1.out, HB1.out⟩
      case round =>
        obtain ⟨j, ad2, c2, hj, rfl, rfl, ho, hb⟩ := hrel
        have HO := Lib.hid ho
        have HB := Lib.hid hb
        clear HO1 HB1
        by_cases hlt2 : j < k
        · have hk2 : j < ps.length := by have := HM.out; omega
          have HP2 := Lib.hid (HP.out.below hb)
          obtain ⟨b, off, rfl, _, hcc⟩ := HP2.out.1.at (j := j) (by simpa using hk2)
          have hcx := hcc j (by simpa using hk2)
          simp only [List.getElem_map] at hcx
          have hbs := HP2.out.2 ps[j] (List.getElem_mem hk2)
          have hl := hbs.len
          have hst := flat_take ps j hk2
          have hle := flat_take_le ps (j + 1)
          generalize ps[j] = p at *
          obtain ⟨pa, pn, pc, pl⟩ := p
          simp only at hcx hl hst hbs
          rw [hst, List.length_append, ← hl] at hle
          have HST := Lib.hid hst
          have HL := Lib.hid hl
          have HBS := Lib.hid hbs
          have HLE := Lib.hid hle
          obtain ⟨F, hF⟩ : ∃ F, F = flat (ps.take j) := ⟨_, rfl⟩
          rw [← hF] at HO HST HLE ⊢
          clear hst hcc hl hbs hle ho hb hF
          go_wp2_with (((with_reducible refine sl 33 ?_); go_must (refine wpL_append elB rfl (.tmp 31) (.tmp 32) rfl w.heap.size rfl HO.out rfl HBS.out (BV_one _) (by have := HLE.out; unfold maxLen; omega) (by have := HLE.out; omega) HB.out.size ?_)))
          intro ad3 c3 w3 hown3 hgrow3 hat3 hnil3
          have HO3 := Lib.hid hown3
          have HB3 : Hid (Below w.heap.size w w3) := Lib.hid (HB.out.grown hgrow3 HB.out.size (ownBlock_ge HO.out))
          clear hown3 hgrow3 hat3 hnil3
          go_wp2_with fail
          go_roundw
          case rel => exact ⟨j + 1, ad3, c3, by omega, by go_num, by rw [HST.out, List.length_append, ← HL.out], by rw [HST.out, List.length_append, ← HL.out, BV_append]; exact HO3.out, HB3.out⟩
          case measure => simp [intOf]; omega
        · obtain rfl : j = k := by omega
          have hall : flat (ps.take j) = flat ps := by rw [List.take_of_length_le (by have := HM.out; omega)]
          rw [hall] at HO ⊢
          clear ho hb hall
          go_wp2_with fail
          go_ret
          exact ⟨ad2, c2, rfl, HO.out, HB.out⟩
end Go.Proofs.Ytgpdlhbndoeldaa
/-
  SipHash: the hash of a key and of parts.
-/
namespace Go.Proofs.Ytgpdlhbndoeldaa
open Go.RowKit Go.Sort
set_option linter.unusedVariables false
set_option linter.unusedSimpArgs false

/-- the four words at the beginning -/
def sip0 (kb : List UInt8) : Nat × Nat × Nat × Nat :=
  let k := getN (kb.take 8) false
  let l := getN (kb.drop 8) false
  (xorN k 8317987319222330741, xorN l 7237128888997146477, xorN k 7816392313619706465, xorN l 8387220255154660723)
/-- behind i whole words -/
def sipI (kb l : List UInt8) : Nat → Nat × Nat × Nat × Nat
  | 0 => sip0 kb
  | i + 1 => wordN (sipI kb l i) (getN (l.drop (8 * i)) false)
def sipLast (l : List UInt8) : Nat := orN (l.length * 72057594037927936 % 18446744073709551616) (getN (l.drop (8 * (l.length / 8))) false)
def sipEnd (s : Nat × Nat × Nat × Nat) : Nat :=
  let r := Nat.repeat roundN 4 (s.1, s.2.1, xorN s.2.2.1 255, s.2.2.2)
  xorN (xorN (xorN r.1 r.2.1) r.2.2.1) r.2.2.2
/-- the hash -/
def sipN (kb l : List UInt8) : Nat := sipEnd (wordN (sipI kb l (l.length / 8)) (sipLast l))

theorem xorC (a : Nat) (z : Int) (n : Nat) (h : z = n) : bits BinOp.xor .u64 (a : Int) z = ((xorN a n : Nat) : Int) := by rw [h]; exact bits_xor a n

theorem Bs.drop8 {w : World} {ad : Option Addr} {n c : Nat} {l : List UInt8} (h : Bs w ad n c l) (k : Nat) (hk : k ≤ n) : Bs w (subAd ad c k 1) (n - k) (c - k) (l.drop k) := by
  have := Sl.sub h (l := k) (h := n) hk (Nat.le_refl _)
  have e : ((BV l).drop (k * 1)).take ((n - k) * 1) = BV (l.drop k) := by
    have hn := h.len
    simp only [Nat.mul_one]
    unfold BV
    rw [← List.map_drop, List.take_of_length_le (by simp; omega)]
  rw [e] at this
  exact this

set_option maxRecDepth 100000 in
set_option maxHeartbeats 600000 in
theorem of_any (kb : List UInt8) (hkb : kb.length = 16) (ad : Option Addr) (m c : Nat) (ps : List (Option Addr × Nat × Nat × List UInt8)) (w : World) (hp : Pts w ad m c ps) (hsz : (flat ps).length ≤ 140737488351232) :
    Calls Try.prog 64 #[.agg (BV kb).toArray, .slice ad m c] w fun e w' => e = .returned (.int .u64 (sipN kb (flat ps))) ∧ Below w.heap.size w w' := by
  have HP := Lib.hid hp
  have HK := Lib.hid (Below.refl w.heap.size w)
  have hall : Sl (w.alloc (.cells (BV kb).toArray 22)) (some ⟨w.heap.size, 0, none⟩) 16 16 1 (BV kb) := Sl.lit w (BV kb).toArray _ 16 1 (by simp [BV_length, hkb]) (by simp [maxLen])
  have h1 : Bs (w.alloc (.cells (BV kb).toArray 22)) (some ⟨w.heap.size, 0, none⟩) 8 16 (kb.take 8) := by
    have := Sl.sub hall (l := 0) (h := 8) (by omega) (by omega)
    have e : ((BV kb).drop (0 * 1)).take ((8 - 0) * 1) = BV (kb.take 8) := by simp [BV, List.map_take]
    rw [e] at this
    exact this
  have h2 : Bs (w.alloc (.cells (BV kb).toArray 22)) (some ⟨w.heap.size, 8, none⟩) 8 8 (kb.drop 8) := by
    have := Sl.sub hall (l := 8) (h := 16) (by omega) (by omega)
    have e : ((BV kb).drop (8 * 1)).take ((16 - 8) * 1) = BV (kb.drop 8) := by
      show ((BV kb).drop 8).take 8 = _
      rw [List.take_of_length_le (by simp [BV, hkb])]
      simp [BV, List.map_drop]
    rw [e] at this
    have e2 : subAd (some (⟨w.heap.size, 0, none⟩ : Addr)) 16 8 1 = some ⟨w.heap.size, 8, none⟩ := by simp [subAd, Addr.add]
    rw [e2] at this
    exact this
  have H1 := Lib.hid h1
  have H2 := Lib.hid h2
  have H0 := Lib.hid ((Below.refl w.heap.size w).alloc (Nat.le_refl _) (.cells (BV kb).toArray 22))
  clear h1 h2
  have HP1 := Lib.hid (hp.below H0.out)
  clear hp
  obtain ⟨K, hK⟩ : ∃ K, K = getN (kb.take 8) false := ⟨_, rfl⟩
  obtain ⟨L, hL⟩ : ∃ L, L = getN (kb.drop 8) false := ⟨_, rfl⟩
  obtain ⟨x0, hx0⟩ : ∃ x, x = xorN K 8317987319222330741 := ⟨_, rfl⟩
  obtain ⟨x1, hx1⟩ : ∃ x, x = xorN L 7237128888997146477 := ⟨_, rfl⟩
  obtain ⟨x2, hx2⟩ : ∃ x, x = xorN K 7816392313619706465 := ⟨_, rfl⟩
  obtain ⟨x3, hx3⟩ : ∃ x, x = xorN L 8387220255154660723 := ⟨_, rfl⟩
  have c0 := xorC K 8317987319222330741 _ rfl
  have c1 := xorC L 7237128888997146477 _ rfl
  have c2 := xorC K 7816392313619706465 _ rfl
  have c3 := xorC L 8387220255154660723 _ rfl
  rw [← hx0] at c0
  rw [← hx1] at c1
  rw [← hx2] at c2
  rw [← hx3] at c3
  have hs0 : sip0 kb = (x0, x1, x2, x3) := by rw [hx0, hx1, hx2, hx3, hK, hL]; rfl
  have ho0 : Okw (x0, x1, x2, x3) := by rw [hx0, hx1, hx2, hx3]; exact ⟨xorN_lt _ _, xorN_lt _ _, xorN_lt _ _, xorN_lt _ _⟩
  have HS0 := Lib.hid hs0
  have HO0 := Lib.hid ho0
  obtain ⟨F, hF⟩ : ∃ F, F = flat ps := ⟨_, rfl⟩
  have hFl : F.length ≤ 140737488351232 := by rw [hF]; exact hsz
  rw [← hF]
  have HF := Lib.hid hF
  obtain ⟨E, hE⟩ : ∃ E, E = F.length * 72057594037927936 % 18446744073709551616 := ⟨_, rfl⟩
  have fE : IntKind.u64.wrap ((F.length : Int) * 72057594037927936) = (E : Int) := by rw [IntKind.wrap_u64, hE]; omega
  have HE := Lib.hid hE
  clear hE
  clear hx0 hx1 hx2 hx3 hs0 ho0 hF
  have HKK := Lib.hid hK
  have HLL := Lib.hid hL
  clear hK hL
  go_enter Try.func64, Try.ntmps64
  go_wp2_with fail
  generalize w.alloc (.cells (BV kb).toArray 22) = w1 at *
  go_region_with (first
    | (go_at_call 78; have t1 := H1; refine (get_any _ _ _ _ _ _ (H1.out.below bup)).mono ?_; intro e w2 hr2; rw [← HKK.out] at hr2; obtain ⟨rfl, hb2⟩ := hr2; replace H0 := ckk H0 bup hb2; replace H2 := ckk H2 bup hb2; have HP2 := Lib.hid (HP1.out.below (Below.trans (bup) hb2)); clear hb2 H1 t1 HP1)
    | (go_at_call 78; refine (get_any _ _ _ _ _ _ (H2.out.below bup)).mono ?_; intro e w3 hr3; rw [← HLL.out] at hr3; obtain ⟨rfl, hb3⟩ := hr3; replace H0 := ckk H0 bup hb3; have HP3 := Lib.hid (HP2.out.below hb3); clear hb3 H2 HP2))
  go_wp2_with (first
    | (go_at_call 62; refine (concat_any _ _ _ ps _ (HP3.out.below bup) hsz).mono ?_; intro e w4 hr4; unfold RetB at hr4; rw [← HF.out] at hr4; obtain ⟨ad4, c4, rfl, ho4, hb4⟩ := hr4; have hg4 : w4.heap[w3.heap.size]? = some (.cells #[.int .u64 x0, .int .u64 x1, .int .u64 x2, .int .u64 x3] 118 (0, 0)) := (hb4.block w3.heap.size (by simp)).trans (heap_alloc_new _ _); have HG0 := Lib.hid H0.out.size; have HST := Lib.hid (show StAt w4 w3.heap.size x0 x1 x2 x3 from hg4); replace H0 := ckk H0 bup hb4; have HBB := Lib.hid (own_form ho4); have H4 := Lib.hid (Bs.of_own ho4); clear hb4 ho4 hg4 HP3))
  have hne : ∀ x, ad4 = some x → w3.heap.size < x.block := by
    intro x hx
    rcases HBB.out with ⟨h, _⟩ | ⟨g, h, h2, _⟩
    · rw [h] at hx; cases hx
    · rw [h] at hx; cases hx; simp at h2; show w3.heap.size < g; omega
  have HNE := Lib.hid hne
  clear hne HBB
  generalize w3.heap.size = g at *
  go_loopw [8] (fun v wr => ∃ (i : Nat) (ad' : Option Addr) (n' c' : Nat), 8 * i ≤ F.length ∧ v = .slice ad' n' c' ∧ Bs wr ad' n' c' (F.drop (8 * i)) ∧ (∀ x, ad' = some x → g < x.block) ∧ (∃ a b c d, (a, b, c, d) = sipI kb F i ∧ Okw (a, b, c, d) ∧ StAt wr g a b c d) ∧ Below w.heap.size w wr) (fun v _ => lenV v)
  case atStart => exact ⟨0, ad4, _, c4, by omega, rfl, by simpa using H4.out, HNE.out, ⟨x0, x1, x2, x3, HS0.out.symm, HO0.out, HST.out⟩, H0.out⟩
  case round =>
    obtain ⟨i, ad5, n5, c5, hi, rfl, hbs, hne5, ⟨a, b, c, d, hs, ho, hst⟩, hb⟩ := hrel
    have hn5 := hbs.len
    have hc5 := hbs.le
    rw [List.length_drop] at hn5
    have HSB := Lib.hid hbs
    have HS := Lib.hid hs
    have HO := Lib.hid ho
    have HT := Lib.hid hst
    have HB := Lib.hid hb
    have HN5 := Lib.hid hn5
    have HNE5 := Lib.hid hne5
    clear hbs hs ho hst hb H4 HST H0 hne5 HNE
    by_cases h8 : (8 : Int) ≤ n5
    · obtain ⟨G, hG⟩ : ∃ G, G = getN (F.drop (8 * i)) false := ⟨_, rfl⟩
      have HG := Lib.hid hG
      clear hG hn5
      have h8n : 8 ≤ n5 := by omega
      have h8c : 8 ≤ c5 := by omega
      go_wp2_with (first
        | (go_at_call 78; refine (get_any _ _ _ _ _ _ HSB.out).mono ?_; intro e w6 hr6; rw [← HG.out] at hr6; obtain ⟨rfl, hb6⟩ := hr6; have HT6 : Hid (StAt w6 g a b c d) := Lib.hid ((hb6.block g (lt_of_block HT.out)).trans HT.out); replace HSB := ckk HSB bup hb6; have HB6 := Lib.hid (Below.next HB.out HB.out.size (Below.refl _ _) hb6); clear hb6 HB HT)
        | (go_at_call 79; refine (word_any g G a b c d _ HO.out HT6.out).mono ?_; rintro e w7 ⟨rfl, ⟨a7, b7, c7, d7, he7, ho7, hs7⟩, hg7⟩; have HE7 := Lib.hid he7; have HO7 := Lib.hid ho7; have HS7 := Lib.hid hs7; have HB7 := Lib.hid (HB6.out.grown hg7 HB6.out.size (fun k e => by cases e; exact HG0.out)); have HSB7 := Lib.hid (Sl.grown HSB.out hg7 (fun x hx e => by have := HNE5.out x hx; cases e; omega)); clear he7 ho7 hs7 hg7 HSB HB6)
        | ((with_reducible refine sl 34 ?_); go_must (refine wpL_slice elB rfl (.tmp 33) (some (.const (.int .i64 8))) none rfl rfl 8 n5 (.inr ⟨.i64, rfl⟩) (.inl ⟨rfl, rfl⟩) h8n (by omega) ?_)))
      intro ad6 had6
      have HB6 := HB7
      have hb6 : Bs w7 ad6 (n5 - 8) (c5 - 8) (F.drop (8 * (i + 1))) := by
        have h := Bs.drop8 HSB7.out 8 h8n
        rw [List.drop_drop, ← had6.out, show 8 * i + 8 = 8 * (i + 1) by omega] at h
        exact h
      have HB8 := Lib.hid hb6
      clear hb6
      go_wp2_with fail
      go_roundw
      case rel =>
        refine ⟨i + 1, ad6, n5 - 8, c5 - 8, by have := HN5.out; omega, rfl, HB8.out, ?_, ⟨a7, b7, c7, d7, ?_, HO7.out, HS7.out⟩, HB7.out⟩
        · intro x hx
          rw [had6.out] at hx
          obtain ⟨y, hy, hxy⟩ := subAd_block hx
          rw [hxy]
          exact HNE5.out y hy
        · rw [HE7.out, HS.out, HG.out]
          rfl
      case measure => simp only [lenV]; omega
    · have hi8 : i = F.length / 8 := by have := HN5.out; omega
      obtain ⟨G, hG⟩ : ∃ G, G = getN (F.drop (8 * i)) false := ⟨_, rfl⟩
      obtain ⟨z, hz⟩ : ∃ z, z = orN E G := ⟨_, rfl⟩
      have fz := bits_or E G
      rw [← hz] at fz
      have hzl : z = sipLast F := by
        rw [hz, HE.out, hG, hi8]
        rfl
      have HG := Lib.hid hG
      have HZ := Lib.hid hzl
      clear hG hn5 hz hzl
      go_wp2_with (first
        | (go_at_call 78; refine (get_any _ _ _ _ _ _ HSB.out).mono ?_; intro e w6 hr6; rw [← HG.out] at hr6; obtain ⟨rfl, hb6⟩ := hr6; have HT6 : Hid (StAt w6 g a b c d) := Lib.hid ((hb6.block g (lt_of_block HT.out)).trans HT.out); have HB6 := Lib.hid (Below.next HB.out HB.out.size (Below.refl _ _) hb6); clear hb6 HB HT)
        | (go_at_call 79; refine (word_any g z a b c d _ HO.out HT6.out).mono ?_; rintro e w7 ⟨rfl, ⟨a7, b7, c7, d7, he7, ho7, hs7⟩, hg7⟩; have HE7 := Lib.hid he7; have HO7 := Lib.hid ho7; have HS7 := Lib.hid hs7; have HB7 := Lib.hid (HB6.out.grown hg7 HB6.out.size (fun k e => by cases e; exact HG0.out)); obtain ⟨p0, p1, p2, p3, q0, q1, q2, q3⟩ := hs7.cells; have cx := xorC c7 255 _ rfl; clear he7 ho7 hs7 hg7 HB6))
      have hS8 : StAt (w7.setCell ⟨g, 2, none⟩ (.int .u64 (xorN c7 255))) g a7 b7 (xorN c7 255) d7 := HS7.out.set 2 _
      have hG8 := grown_set w7 g 2 (.int .u64 (xorN c7 255))
      have hB8 := HB7.out.grown hG8 HB7.out.size (fun k e => by cases e; exact HG0.out)
      generalize w7.setCell ⟨g, 2, none⟩ (.int .u64 (xorN c7 255)) = w8 at hS8 hG8 hB8 ⊢
      have ho8 : Okw (a7, b7, xorN c7 255, d7) := ⟨HO7.out.1, HO7.out.2.1, xorN_lt _ _, HO7.out.2.2.2⟩
      have HR := Lib.hid (rounds_any g 4 a7 b7 (xorN c7 255) d7 w8 (by omega) ho8 hS8)
      have HB8 := Lib.hid hB8
      clear hS8 hG8 hB8 ho8 p0 p1 p2 p3 q0 q1 q2 q3
      go_wp2_with (first
        | (go_at_call 80; refine HR.out.mono ?_; rintro e w9 ⟨rfl, ⟨a9, b9, c9, d9, he9, ho9, hs9⟩, hg9⟩; have HE9 := Lib.hid he9; have HB9 := Lib.hid (HB8.out.grown hg9 HB8.out.size (fun k e => by cases e; exact HG0.out)); obtain ⟨p0, p1, p2, p3, q0, q1, q2, q3⟩ := hs9.cells; clear he9 ho9 hs9 hg9))
      have y1 := bits_xor a9 b9
      have y2 := bits_xor (xorN a9 b9) c9
      have y3 := bits_xor (xorN (xorN a9 b9) c9) d9
      have hfin : xorN (xorN (xorN a9 b9) c9) d9 = sipN kb F := by
        have e9 : (a9, b9, c9, d9) = Nat.repeat roundN 4 (a7, b7, xorN c7 255, d7) := HE9.out
        have e7 : (a7, b7, c7, d7) = wordN (sipI kb F (F.length / 8)) (sipLast F) := by rw [HE7.out, HS.out, HZ.out, hi8]
        unfold sipN sipEnd
        rw [← e7]
        show _ = xorN (xorN (xorN (Nat.repeat roundN 4 (a7, b7, xorN c7 255, d7)).1 (Nat.repeat roundN 4 (a7, b7, xorN c7 255, d7)).2.1) (Nat.repeat roundN 4 (a7, b7, xorN c7 255, d7)).2.2.1) (Nat.repeat roundN 4 (a7, b7, xorN c7 255, d7)).2.2.2
        rw [← e9]
      have HFIN := Lib.hid hfin
      clear hfin
      go_quiet (fail)
      go_wp2_with fail
      go_ret
      exact ⟨by rw [← HFIN.out]; rfl, HB9.out.trans ⟨rfl, rfl, rfl, Nat.le_refl _, fun _ _ => rfl⟩⟩
end Go.Proofs.Ytgpdlhbndoeldaa
/-
  What came in, opened: structs, arrays of bytes, by their cells. Over any program.
-/
namespace Go.Proofs.Ytgpdlhbndoeldaa
open Go.RowKit Go.Sort
set_option linter.unusedVariables false
set_option linter.unusedSimpArgs false

theorem mapM_each {α β : Type} {f : α → Option β} : ∀ {l : List α} {ys : List β}, l.mapM f = some ys → ∀ x ∈ l, ∃ y, f x = some y
  | [], _, _, x, hx => by cases hx
  | a :: l, ys, h, x, hx => by
    rw [List.mapM_cons] at h
    obtain ⟨y, hy, h⟩ := Option.bind_eq_some_iff.1 h
    obtain ⟨zs, hz, _⟩ := Option.bind_eq_some_iff.1 h
    rcases List.mem_cons.1 hx with rfl | hx
    · exact ⟨y, hy⟩
    · exact mapM_each hz x hx

section
variable {H : Type} {enc : TypeId × Value → H} {P : Program} {w : World} {base : Nat} {spare : Nat → Bool} {held : Bool}

theorem trod_struct {t : TypeId} {fs : Array Field} {fuel : Nat} {cs : List Value} {x : DataW H × List MemPlace} (ht : P.underlying t = some (.struct fs)) (h : DataW.trod enc P w base spare held fuel t cs = some x) :
    cs.length = P.cellsOf t ∧ ∃ fuel', ∀ f ∈ fs.toList, ∃ y, DataW.trod enc P w base spare held fuel' f.type ((cs.drop f.offset).take (P.cellsOf f.type)) = some y := by
  cases fuel with
  | zero => simp [DataW.trod] at h
  | succ f =>
    simp only [DataW.trod, ht] at h
    split at h
    · rename_i hl
      obtain ⟨xs, hxs, _⟩ := Option.map_eq_some_iff.1 h
      exact ⟨hl, f, mapM_each hxs⟩
    · cases h
theorem trod_int {k : IntKind} {t : TypeId} {fuel : Nat} {c : Value} {x : DataW H × List MemPlace} (ht : P.underlying t = some (.int k)) (h : DataW.trod enc P w base spare held fuel t [c] = some x) : ∃ n, c = .int k n ∧ (Lit.int k n).wf = true := by
  cases fuel with
  | zero => simp [DataW.trod] at h
  | succ f =>
    simp only [DataW.trod, ht] at h
    split at h <;> simp_all
theorem trod_bool {t : TypeId} {fuel : Nat} {c : Value} {x : DataW H × List MemPlace} (ht : P.underlying t = some .bool) (h : DataW.trod enc P w base spare held fuel t [c] = some x) : ∃ b, c = .bool b := by
  cases fuel with
  | zero => simp [DataW.trod] at h
  | succ f =>
    simp only [DataW.trod, ht] at h
    split at h <;> simp_all
theorem trod_bytes {t e : TypeId} {n : Nat} {fuel : Nat} {cs : List Value} {x : DataW H × List MemPlace} (ht : P.underlying t = some (.array n e)) (he : P.underlying e = some (.int .u8)) (hce : P.cellsOf e = 1) (hct : P.cellsOf t = n)
    (h : DataW.trod enc P w base spare held fuel t cs = some x) : ∃ l : List UInt8, l.length = n ∧ cs = BV l := by
  cases fuel with
  | zero => simp [DataW.trod] at h
  | succ f =>
    simp only [DataW.trod, ht] at h
    split at h
    · rename_i hl
      obtain ⟨xs, hxs, _⟩ := Option.map_eq_some_iff.1 h
      rw [List.range_eq_range'] at hxs
      obtain ⟨zs, h1, h2, h3⟩ := mapM_ints he hce n 0 xs (by omega) hxs
      rw [List.drop_zero, List.take_of_length_le (by omega)] at h2
      exact ⟨ofInts zs, by simp [ofInts, h1], by rw [h2, BV_ofInts h3]⟩
    · cases h
end
theorem take_one_of {cs : List Value} {k : Nat} (h : k < cs.length) : (cs.drop k).take 1 = [cs[k]] := by
  rw [List.drop_eq_getElem_cons h, List.take_succ_cons, List.take_zero]
end Go.Proofs.Ytgpdlhbndoeldaa
