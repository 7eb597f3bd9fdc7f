/-
  Joined by program (merge.py): Base, Bytes, Octet, Get, Octet2, Octet3, Octet4, Carry, Step, Rng, Str, Kit, Kit2, Fk, RngK.
-/
import Derived.WalkKit
import Derived.Handy
import Derived.Lib.Hide
import Derived.Lib.QuietBelow
import Derived.Maps.AppendAt
import Derived.KernelRfl
import Derived.ProofKit
import Derived.OpenShut
import Derived.ShutString
import Derived.ChangeOld
import Derived.Below
import Derived.WalkSpells
import Derived.Test.YtaadpldijnegkaaProg
import Derived.RegionTactic
import Derived.BigRegion
import Derived.RangeFuncNested
import Derived.RangeFuncBound
import Derived.RangeFuncCalls
import Derived.RangeFuncLeaves
import Derived.RangeFuncBox
import Derived.Shelf.Abstract
import Derived.Shelf.RegionOpen
import Derived.OwnWalkIn
import Derived.TacticsInMore
import Derived.LoopNIn
import Derived.LoopIn
import Derived.Deep.RegionHeld3
import Derived.Deep.WholeRow
import Derived.ArgAppend
import Derived.WalkMore
import Derived.Deep.MidRow
import Derived.OrdersHeld
/-
  A layer of laws over any program: slices that are read ('Sl'), slices that a call owns, and the operations on them, in one form each.
-/
namespace Go.Proofs.Ytaadpldijnegkaa
open Go.RowKit Go.Sort
set_option linter.unusedVariables false
set_option linter.unusedSimpArgs false

/-- A slice type t of elements e: the row of the table of types that the laws ask. -/
structure Elem (P : Program) (t e : TypeId) (size bytes : Nat) (z : Value) : Prop where
  ht : P.underlying t = some (.slice e)
  info : (P.info? e).map (fun i => (i.zero, i.size, i.bytes)) = some (some z, size, bytes)
  hzs : z.cells.size = size
  hsz : 0 < size

/-- The value '.slice ad n c' reads as the cells vs (n elements of 'size' cells). -/
def Sl (w : World) (ad : Option Addr) (n c size : Nat) (vs : List Value) : Prop :=
  vs.length = n * size ∧ n ≤ c ∧ c ≤ maxLen ∧ (ad = none → n = 0 ∧ c = 0) ∧ ∀ j u, vs[j]? = some u → ∃ x, ad = some x ∧ w.cell? (x.add j) = some u

theorem cell_addr {w : World} {x : Addr} {u : Value} (h : w.cell? x = some u) : ∃ b off, x = ⟨b, off, none⟩ ∧ b < w.heap.size := by
  obtain ⟨b, off, sp⟩ := x
  have hb := World.block_lt_of_cell? w _ h
  cases sp with
  | none => exact ⟨b, off, rfl, hb⟩
  | some s =>
    exfalso
    simp only [World.cell?] at h
    split at h <;> simp at h

theorem addr_add (b off j : Nat) : (⟨b, off, none⟩ : Addr).add j = ⟨b, off + j, none⟩ := by
  unfold Addr.add
  split
  · subst_vars; rfl
  · rfl

theorem add_addr {x : Addr} {j b o : Nat} (h : x.add j = ⟨b, o, none⟩) : x.block = b ∧ (j = 0 → x = ⟨b, o, none⟩) ∧ x.off + j = o := by
  unfold Addr.add at h
  split at h
  · subst_vars; simp
  · obtain ⟨xb, xo, xs⟩ := x
    simp at h
    refine ⟨h.1, by omega, h.2⟩

theorem add_zero (x : Addr) : x.add 0 = x := by unfold Addr.add; simp

/-- An element that is there: the address written out, and its cell. -/
theorem Sl.at {w : World} {ad : Option Addr} {n c size : Nat} {vs : List Value} (h : Sl w ad n c size vs) {j : Nat} (hj : j < vs.length) :
    ∃ b off, ad = some ⟨b, off, none⟩ ∧ b < w.heap.size ∧ ∀ i (hi : i < vs.length), w.cell? ⟨b, off + i, none⟩ = some vs[i] := by
  have h0 : 0 < vs.length := by omega
  obtain ⟨x, hx, hc⟩ := h.2.2.2.2 0 vs[0] (by simp [h0])
  rw [add_zero] at hc
  obtain ⟨b, off, rfl, hb⟩ := cell_addr hc
  refine ⟨b, off, hx, hb, fun i hi => ?_⟩
  obtain ⟨y, hy, hcy⟩ := h.2.2.2.2 i vs[i] (by simp [hi])
  rw [hx] at hy
  cases hy
  rwa [addr_add] at hcy

theorem Sl.len {w : World} {ad : Option Addr} {n c size : Nat} {vs : List Value} (h : Sl w ad n c size vs) : vs.length = n * size := h.1
theorem Sl.le {w : World} {ad : Option Addr} {n c size : Nat} {vs : List Value} (h : Sl w ad n c size vs) : n ≤ c := h.2.1

theorem Sl.of_same {w w' : World} {ad : Option Addr} {n c size : Nat} {vs : List Value} (h : Sl w ad n c size vs)
    (hs : ∀ x j u, ad = some x → w.cell? (x.add j) = some u → w'.cell? (x.add j) = some u) : Sl w' ad n c size vs :=
  ⟨h.1, h.2.1, h.2.2.1, h.2.2.2.1, fun j u hj => let ⟨x, hx, hc⟩ := h.2.2.2.2 j u hj; ⟨x, hx, hs x j u hx hc⟩⟩

/-- What lay below a heap's size reads as it did. -/
theorem Sl.below {w w' : World} {ad : Option Addr} {n c size : Nat} {vs : List Value} (h : Sl w ad n c size vs) (hb : Below w.heap.size w w') : Sl w' ad n c size vs :=
  h.of_same fun x j u _ hc => by
    have hlt := World.block_lt_of_cell? w _ hc
    rw [hb.cell hlt]; exact hc

/-- .. and behind writes to one row, if that is another block. -/
theorem Sl.grown {w w' : World} {row : Option Nat} {ad : Option Addr} {n c size : Nat} {vs : List Value} (h : Sl w ad n c size vs) (hg : w.grownBy w' row) (hne : ∀ x, ad = some x → row ≠ some x.block) : Sl w' ad n c size vs :=
  h.of_same fun x j u hx hc => by
    have hb : (x.add j).block = x.block := by unfold Addr.add; split <;> rfl
    exact hg.cell hc (by rw [hb]; exact fun e => hne x hx e.symm)

theorem Sl.nil (w : World) (size : Nat) : Sl w none 0 0 size [] := ⟨by simp, Nat.le_refl _, by simp [maxLen], fun _ => ⟨rfl, rfl⟩, fun j u h => by simp at h⟩

/-- What a call owns reads so. -/
theorem Sl.of_own {w : World} {base : Nat} {e : TypeId} {size : Nat} {ad : Option Addr} {n c : Nat} {xs : List Value} (h : w.ownsRow base e size (.slice ad n c) n xs) : Sl w ad n c size xs := by
  obtain ⟨hl, h2 | ⟨g, cap, cur, hv, hb, hg, hnc, hcm, hcs, ht⟩⟩ := h
  · obtain ⟨hv, rfl⟩ := h2
    simp at hv
    obtain ⟨rfl, rfl⟩ := hv
    have : xs = [] := by cases xs with | nil => rfl | cons => simp at hl
    subst this
    exact Sl.nil w size
  · simp at hv
    obtain ⟨rfl, rfl⟩ := hv
    refine ⟨hl, hnc, hcm, by simp, fun j u hj => ⟨_, rfl, ?_⟩⟩
    exact World.ownsRow.cells (w := w) ⟨hl, .inr ⟨g, c, cur, rfl, hb, hg, hnc, hcm, hcs, ht⟩⟩ rfl j u hj

/-- A slice of numbers, of bytes .. that came in, as the proof's frame hands it. -/
theorem Sl.of_row {k : IntKind} {w : World} {a : Option Addr} {len cap : Nat} {zs : List Int}
    (h : (a = none ∧ len = 0 ∧ cap = 0 ∧ zs = []) ∨ ∃ x, a = some x ∧ len ≤ cap ∧ cap ≤ maxLen ∧ zs.length = cap ∧ (∀ i, i < zs.length → w.cell? (x.add i) = some (.int k (zs.getD i 0))) ∧ ∀ n ∈ zs, (Lit.int k n).wf = true) :
    Sl w a len cap 1 ((zs.take len).map (Value.int k)) := by
  rcases h with ⟨rfl, rfl, rfl, rfl⟩ | ⟨x, rfl, hlc, hcm, hl, hc, _⟩
  · exact Sl.nil w 1
  · refine ⟨by simp; omega, hlc, hcm, by simp, fun j u hj => ⟨x, rfl, ?_⟩⟩
    simp only [List.getElem?_map, List.getElem?_take] at hj
    by_cases hlt : j < len
    · rw [if_pos hlt, List.getElem?_eq_getElem (by omega)] at hj
      simp at hj
      subst hj
      rw [hc j (by omega)]
      simp [List.getD, List.getElem?_eq_getElem (show j < zs.length by omega)]
    · rw [if_neg hlt] at hj
      simp at hj

/-- a literal's new block -/
theorem Sl.lit (w : World) (cs : Array Value) (e : TypeId) (n size : Nat) (hn : cs.size = n * size) (hm : n ≤ maxLen) : Sl (w.alloc (.cells cs e)) (some ⟨w.heap.size, 0, none⟩) n n size cs.toList :=
  ⟨by simpa using hn, Nat.le_refl _, hm, by simp, fun j u hj => ⟨_, rfl, by
    rw [addr_add, Nat.zero_add, World.cell?_alloc_at _ _ _ _ rfl]
    simpa using hj⟩⟩

theorem ints_one (k : IntKind) (zs : List Int) : ∀ u ∈ zs.map (Value.int k), u.oneCell' = true := by
  intro u hu
  obtain ⟨x, _, rfl⟩ := List.mem_map.1 hu
  rfl

/-- An operation whose run is known. -/
theorem wpL_run {P : Program} {w w' : World} {ops : Array Oper} {rest : List Oper} {o : Oper} {a : Act} {Q : Exit → Act → World → Prop} (hgd : Region.wanted o (yielded ops a.tmps) = true) {v : Value}
    (hrun : (execOp a.eval o).run P w = .ok (.value v) w') (h : wpList P ops Q rest (a.put o.dst v) w') : wpList P ops Q (o :: rest) a w := by
  refine wpList_step fun K hK => ?_
  rw [if_pos hgd]
  unfold Oper.wp
  rw [hrun]
  exact hK _ _ h

theorem own_forms {w : World} {base : Nat} {e : TypeId} {size : Nat} {v : Value} {n : Nat} {xs : List Value} (h : w.ownsRow base e size v n xs) : ∃ ad c, v = .slice ad n c ∧ (ad = none ∧ n = 0 ∧ c = 0 ∨ ∃ g, ad = some ⟨g, 0, none⟩) := by
  rcases h.2 with ⟨rfl, rfl⟩ | ⟨g, cap, cur, rfl, _⟩
  · exact ⟨none, 0, rfl, .inl ⟨rfl, rfl, rfl⟩⟩
  · exact ⟨_, _, rfl, .inr ⟨g, rfl⟩⟩

theorem run_append {P : Program} {w : World} {t ty e : TypeId} {size bytes : Nat} {z : Value} (el : Elem P t e size bytes z)
    (base : Nat) {ad : Option Addr} {n c : Nat} {xs : List Value} (hown : w.ownsRow base e size (.slice ad n c) n xs)
    {ad2 : Option Addr} {m c2 : Nat} {news : List Value} (hsl : Sl w ad2 m c2 size news) (h1 : ∀ u ∈ news, u.oneCell' = true)
    (h63 : n + m ≤ maxLen) (hbytes : (n + m) * bytes ≤ 140737488355328) (hbase : base ≤ w.heap.size) :
    ∃ ad' c' w', (Builtin.append_ #[t, t] ty #[.slice ad n c, .slice ad2 m c2]).run P w = .ok (.slice ad' (n + m) c') w' ∧ w'.ownsRow base e size (.slice ad' (n + m) c') (n + m) (xs ++ news) ∧ w.grownBy w' (Value.ownBlock (.slice ad n c)) ∧
      (ad' = ad ∨ ad' = some ⟨w.heap.size, 0, none⟩) ∧ (ad' = none ↔ ad = none ∧ m = 0) := by
  obtain ⟨i, hi, hz, hsize, hby⟩ := info_parts el.info
  cases ad2 with
  | none =>
    obtain ⟨hl, hmc, hcm, hnil, hcells⟩ := hsl
    obtain ⟨rfl, rfl⟩ := hnil rfl
    have : news = [] := by cases news with | nil => rfl | cons => simp at hl
    subst this
    exact ⟨ad, c, w, run_append_owned_none (P := P) (w := w) base t ty e i size el.ht hi _ n xs hown, by simpa using hown, World.grownBy.refl _ _, .inl rfl, by simp⟩
  | some ad2 =>
    obtain ⟨hl, hmc, hcm, hnil, hcells⟩ := hsl
    obtain ⟨v', w', hr, hown', hgrow, hnil', hat⟩ := run_append_own_at (P := P) w base t ty e i z size bytes el.ht hi hz hsize hby el.hzs el.hsz _ n xs hown ad2 m c2 news hl (fun j u hj => by
      obtain ⟨y, hy, hc⟩ := hcells j u hj
      cases hy
      exact hc) h1 h63 hbytes hbase
    obtain ⟨ad', c', rfl, hf⟩ := own_forms hown'
    obtain ⟨ad0, c0, hv0, hadf⟩ := own_forms hown
    simp only [Value.slice.injEq, true_and] at hv0
    obtain ⟨rfl, rfl⟩ := hv0
    refine ⟨ad', c', w', hr, hown', hgrow, ?_, ?_⟩
    · rcases hf with ⟨rfl, _⟩ | ⟨g, rfl⟩ <;> rcases hadf with ⟨rfl, _⟩ | ⟨g', rfl⟩ <;> simp [Value.ownBlock] at hat ⊢ <;> omega
    · constructor
      · rintro rfl
        rcases hf with ⟨_, h0, rfl⟩ | ⟨g, hg⟩
        · rw [h0] at hnil'
          have h2 := hnil'.1 rfl
          have h3 := h2.1
          simp at h3
          exact ⟨h3.1, h2.2⟩
        · cases hg
      · rintro ⟨rfl, rfl⟩
        rcases hadf with ⟨_, rfl, rfl⟩ | ⟨g, hg⟩
        · have h2 := hnil'.2 ⟨rfl, rfl⟩
          simp at h2
          exact h2.1
        · cases hg

/-- 'append(s, x...)', s the call's own (or nil), x whatever. -/
theorem wpL_append {P : Program} {w : World} {ops : Array Oper} {rest : List Oper} {o : Oper} {a : Act} {Q : Exit → Act → World → Prop} {t e : TypeId} {size bytes : Nat} {z : Value} (el : Elem P t e size bytes z)
    (hgd : Region.wanted o (yielded ops a.tmps) = true) (s x : Operand) (ho : o.op = .call { callee := .builtin .append, args := #[s, x], argTypes := #[t, t] })
    (base : Nat) {ad : Option Addr} {n c : Nat} {xs : List Value} (hs : a.eval s = .slice ad n c) (hown : w.ownsRow base e size (.slice ad n c) n xs)
    {ad2 : Option Addr} {m c2 : Nat} {news : List Value} (hx : a.eval x = .slice ad2 m c2) (hsl : Sl w ad2 m c2 size news) (h1 : ∀ u ∈ news, u.oneCell' = true)
    (h63 : n + m ≤ maxLen) (hbytes : (n + m) * bytes ≤ 140737488355328) (hbase : base ≤ w.heap.size)
    (h : ∀ ad' c' w', w'.ownsRow base e size (.slice ad' (n + m) c') (n + m) (xs ++ news) → w.grownBy w' (Value.ownBlock (.slice ad n c)) →
      (ad' = ad ∨ ad' = some ⟨w.heap.size, 0, none⟩) → (ad' = none ↔ ad = none ∧ m = 0) → wpList P ops Q rest (a.put o.dst (.slice ad' (n + m) c')) w') :
    wpList P ops Q (o :: rest) a w := by
  obtain ⟨ad', c', w', hr, h2, h3, h4, h5⟩ := run_append (P := P) (ty := o.type) el base hown hsl h1 h63 hbytes hbase
  refine wpL_run hgd (v := .slice ad' (n + m) c') (w' := w') ?_ (h ad' c' w' h2 h3 h4 h5)
  unfold execOp
  simp only [ho, resolve, invoke, builtin, Sem.run_bind, Sem.run_pure, Result.andThen_ok, List.map_toArray, List.map_cons, List.map_nil, hs, hx, hr]

/-- 'make([]T, n)'. -/
theorem wpL_make {P : Program} {w : World} {ops : Array Oper} {rest : List Oper} {o : Oper} {a : Act} {Q : Exit → Act → World → Prop} {t e : TypeId} {size bytes : Nat} {z : Value} (el : Elem P t e size bytes z)
    (hg : Region.wanted o (yielded ops a.tmps) = true) (l c : Operand) (hop : o.op = Op.makeSlice t l c) (base : Nat) {kl kc : IntKind} {L C : Int} (n : Nat) (hl : a.eval l = .int kl L) (hc : a.eval c = .int kc C) (hL : L = (n : Int)) (hC : C = (n : Int))
    (b2 : bytes * n ≤ 281474976710656) (b3 : n ≤ maxLen) (b4 : base ≤ w.heap.size)
    (hK : ∀ w', w'.ownsRow base e size (.slice (some ⟨w.heap.size, 0, none⟩) n n) n (madeCells z.cells (n * size)).toList → w.grownBy w' none → wpList P ops Q rest (a.put o.dst (.slice (some ⟨w.heap.size, 0, none⟩) n n)) w') :
    wpList P ops Q (o :: rest) a w := by
  obtain ⟨i, hi, hz, hsize, hby⟩ := info_parts el.info
  obtain ⟨w', hrun, r1, r2⟩ := run_make_full (P := P) w base t e i z size el.ht hi hz hsize kl kc n (by rw [hby]; exact b2) b3 b4
  subst hL
  subst hC
  refine wpL_run hg ?_ (hK w' r1 r2)
  simp [execOp, hop, hl, hc, hrun, Result.andThen]

/-! ### x[lo:hi] -/
/-- where the part from element l on begins -/
def subAd (ad : Option Addr) (c l size : Nat) : Option Addr := if c = l then ad else ad.map (·.add (l * size))
theorem add_block (x : Addr) (j : Nat) : (x.add j).block = x.block := by unfold Addr.add; split <;> rfl
theorem add_add {w : World} (x : Addr) (i j : Nat) {u : Value} (h : w.cell? (x.add (i + j)) = some u) : ((x.add i).add j) = x.add (i + j) := by
  unfold Addr.add
  by_cases h1 : i = 0
  · subst h1; simp
  · by_cases h2 : j = 0
    · subst h2; simp
    · simp [h1, h2, Nat.add_assoc]
theorem subAd_none {ad : Option Addr} {c l size : Nat} : subAd ad c l size = none ↔ ad = none := by unfold subAd; split <;> simp
theorem subAd_block {ad : Option Addr} {c l size : Nat} {y : Addr} (h : subAd ad c l size = some y) : ∃ x, ad = some x ∧ y.block = x.block := by
  unfold subAd at h
  split at h
  · exact ⟨y, h, rfl⟩
  · cases ad with
    | none => simp at h
    | some x =>
      simp only [Option.map_some, Option.some.injEq] at h
      exact ⟨x, rfl, by rw [← h, add_block]⟩

theorem Sl.sub {w : World} {ad : Option Addr} {n c size : Nat} {vs : List Value} (hs : Sl w ad n c size vs) {l h : Nat} (hl : l ≤ h) (hh : h ≤ n) :
    Sl w (subAd ad c l size) (h - l) (c - l) size ((vs.drop (l * size)).take ((h - l) * size)) := by
  obtain ⟨h1, h2, h3, h4, h5⟩ := hs
  have hle : l * size + (h - l) * size ≤ vs.length := by
    rw [h1, ← Nat.add_mul]
    exact Nat.mul_le_mul_right _ (by omega)
  refine ⟨by rw [List.length_take, List.length_drop]; omega, by omega, by omega, fun e => ?_, fun j u hj => ?_⟩
  · have := h4 (subAd_none.1 e); omega
  · rw [List.getElem?_take] at hj
    split at hj
    · rename_i hlt
      rw [List.getElem?_drop] at hj
      obtain ⟨x, hx, hc⟩ := h5 _ u hj
      subst hx
      unfold subAd
      by_cases e : c = l
      · exfalso
        have : h - l = 0 := by omega
        rw [this] at hlt
        omega
      · rw [if_neg e]
        exact ⟨_, rfl, by rw [add_add x _ _ hc]; exact hc⟩
    · cases hj

theorem run_slice {P : Program} {w : World} {t e : TypeId} {size bytes : Nat} {z : Value} (el : Elem P t e size bytes z) (ad : Option Addr) (n c : Nat) (lo hi : Option Value) (l h : Nat)
    (hlo : (lo = none ∧ l = 0) ∨ ∃ k, lo = some (.int k (l : Int))) (hhi : (hi = none ∧ h = n) ∨ ∃ k, hi = some (.int k (h : Int))) (hl : l ≤ h) (hh : h ≤ c) :
    (Instr.sliceAt t (.slice ad n c) lo hi none).run P w = .ok (.slice (subAd ad c l size) (h - l) (c - l)) w := by
  obtain ⟨i, hi', hz, hsize, hby⟩ := info_parts el.info
  subst hsize
  unfold subAd
  rcases hlo with ⟨rfl, rfl⟩ | ⟨k, rfl⟩ <;> rcases hhi with ⟨rfl, rfl⟩ | ⟨k', rfl⟩ <;>
    simp [Instr.sliceAt, Instr.slice, Instr.sliceBounds, Instr.sliceBound, asIntOf, run_underlying el.ht, sizeOf, typeInfo, hi', hl, hh]

theorem wpL_slice {P : Program} {w : World} {ops : Array Oper} {rest : List Oper} {o : Oper} {a : Act} {Q : Exit → Act → World → Prop} {t e : TypeId} {size bytes : Nat} {z : Value} (el : Elem P t e size bytes z)
    (hg : Region.wanted o (yielded ops a.tmps) = true) (x : Operand) (lo hi : Option Operand) (hop : o.op = Op.slice t x lo hi none) {ad : Option Addr} {n c : Nat} (hx : a.eval x = .slice ad n c) (l h : Nat)
    (hlo : (lo.map a.eval = none ∧ l = 0) ∨ ∃ k, lo.map a.eval = some (.int k (l : Int))) (hhi : (hi.map a.eval = none ∧ h = n) ∨ ∃ k, hi.map a.eval = some (.int k (h : Int))) (hl : l ≤ h) (hh : h ≤ c)
    (hK : ∀ ad', Hid (ad' = subAd ad c l size) → wpList P ops Q rest (a.put o.dst (.slice ad' (h - l) (c - l))) w) : wpList P ops Q (o :: rest) a w := by
  have hrun := run_slice (P := P) (w := w) el ad n c (lo.map a.eval) (hi.map a.eval) l h hlo hhi hl hh
  refine wpL_run hg ?_ (hK _ rfl)
  simp only [execOp, hop, hx, Option.map_none, Sem.run_bind, hrun, Result.andThen_ok, Sem.run_pure]

theorem ownBlock_ge {w : World} {base : Nat} {e : TypeId} {size : Nat} {v : Value} {n : Nat} {xs : List Value} (h : w.ownsRow base e size v n xs) : ∀ k, v.ownBlock = some k → base ≤ k := fun k hk => (h.lt k hk).1

/-- What reads below 'base' reads so behind writes to a row of one's own. -/
theorem Sl.past {w w' : World} {base : Nat} {e : TypeId} {size' : Nat} {v : Value} {m : Nat} {xs : List Value} {ad : Option Addr} {n c size : Nat} {vs : List Value} (h : Sl w ad n c size vs)
    (hown : w.ownsRow base e size' v m xs) (hg : w.grownBy w' v.ownBlock) (hlt : ∀ x, ad = some x → x.block < base) : Sl w' ad n c size vs :=
  h.grown hg fun x hx e => by have := ownBlock_ge hown _ e; have := hlt x hx; omega

theorem grown_drew (w : World) (row : Option Nat) : w.grownBy w.drew row := ⟨rfl, rfl, rfl, Nat.le_refl _, fun _ _ _ => rfl⟩

theorem below_drewN (B : Nat) (w : World) (n : Nat) : Below B w (w.drewN n) := ⟨rfl, rfl, rfl, Nat.le_refl _, fun _ _ => rfl⟩

theorem bcell {W w1 : World} (hb : Below W.heap.size W w1) : (∀ b o, b < W.heap.size → w1.cell? ⟨b, o, none⟩ = W.cell? ⟨b, o, none⟩) ∧ (∀ b o, b < W.heap.size → w1.frozen? ⟨b, o, none⟩ = W.frozen? ⟨b, o, none⟩) :=
  ⟨fun b o h => hb.cell (p := ⟨b, o, none⟩) h, fun b o h => hb.frozen (p := ⟨b, o, none⟩) h⟩

theorem below_of_regrown {B : Nat} {w : World} (hB : B ≤ w.heap.size) (d : Nat) (os : Array Obj) : Below B w (grow (redrawn w d) os) := (below_regrown w d os).mono hB

/-! ### What came in: arrays of numbers -/
section
variable {H : Type} {enc : TypeId × Value → H} {P : Program} {w : World} {base : Nat} {spare : Nat → Bool} {held : Bool}

theorem mapM_ints {k : IntKind} {e : TypeId} (he : P.underlying e = some (.int k)) (hce : P.cellsOf e = 1) {fuel : Nat} {cs : List Value} :
    ∀ (n m : Nat) (xs : List (DataW H × List MemPlace)), m + n ≤ cs.length → (List.range' m n).mapM (fun i => DataW.trod enc P w base spare held fuel e ((cs.drop (i * P.cellsOf e)).take (P.cellsOf e))) = some xs →
      ∃ zs : List Int, zs.length = n ∧ (cs.drop m).take n = zs.map (Value.int k) ∧ ∀ x ∈ zs, (Lit.int k x).wf = true
  | 0, m, xs, _, _ => ⟨[], rfl, by simp, by simp⟩
  | n + 1, m, xs, hl, h => by
    rw [List.range'_succ, List.mapM_cons] at h
    obtain ⟨x, hx, h⟩ := Option.bind_eq_some_iff.1 h
    obtain ⟨ys, hys, _⟩ := Option.bind_eq_some_iff.1 h
    obtain ⟨zs, hz1, hz2, hz3⟩ := mapM_ints he hce n (m + 1) ys (by omega) hys
    rw [hce, Nat.mul_one] at hx
    have hcell : (cs.drop m).take 1 = [cs[m]'(by omega)] := by
      rw [List.drop_eq_getElem_cons (by omega)]
      rfl
    rw [hcell] at hx
    obtain ⟨z, hz, hwf⟩ : ∃ z, cs[m]'(by omega) = .int k z ∧ (Lit.int k z).wf = true := by
      cases fuel with
      | zero => simp [DataW.trod] at hx
      | succ f =>
        simp only [DataW.trod, he] at hx
        split at hx <;> simp_all
    refine ⟨z :: zs, by simp [hz1], ?_, by simpa [hwf] using hz3⟩
    rw [List.drop_eq_getElem_cons (by omega), List.take_succ_cons, hz2, hz]
    rfl

theorem open_int_array {k : IntKind} {t e : TypeId} {n : Nat} (ht : P.underlying t = some (.array n e)) (he : P.underlying e = some (.int k)) (hce : P.cellsOf e = 1) (hct : P.cellsOf t = n)
    {r : Reach} {b0 : Nat} {v : Value} {d : DataW H} {ps : List MemPlace} (hv : Value.okWide P w r b0 t v) (h : DataW.Trod enc P w base spare held t v d ps) :
    ∃ zs : List Int, zs.length = n ∧ v = .agg (zs.map (Value.int k)).toArray ∧ ∀ x ∈ zs, (Lit.int k x).wf = true := by
  simp only [Value.okWide, ht] at hv
  obtain ⟨cs, rfl, hsz, _⟩ := hv
  obtain ⟨fuel, hf⟩ := h
  cases fuel with
  | zero => simp [DataW.trod] at hf
  | succ f =>
    simp only [Value.cells, DataW.trod, ht] at hf
    rw [if_pos (by simpa using hsz)] at hf
    obtain ⟨xs, hxs, _⟩ := Option.map_eq_some_iff.1 hf
    rw [List.range_eq_range'] at hxs
    have hl : cs.toList.length = n := by rw [Array.length_toList, hsz, hct]
    obtain ⟨zs, h1, h2, h3⟩ := mapM_ints he hce n 0 xs (by omega) hxs
    refine ⟨zs, h1, ?_, h3⟩
    rw [List.drop_zero, List.take_of_length_le (by omega)] at h2
    rw [← h2]
end

theorem wf_u16' {n : Int} (h : (Lit.int .u16 n).wf = true) : 0 ≤ n ∧ n ≤ 65535 := by
  simp [Lit.wf, IntKind.min, IntKind.max, IntKind.signed, IntKind.bits] at h
  omega
theorem wf_i64' {n : Int} (h : (Lit.int .i64 n).wf = true) : -9223372036854775808 ≤ n ∧ n ≤ 9223372036854775807 := by
  simp [Lit.wf, IntKind.min, IntKind.max, IntKind.signed, IntKind.bits] at h
  omega
theorem wf_u8' {n : Int} (h : (Lit.int .u8 n).wf = true) : 0 ≤ n ∧ n ≤ 255 := by
  simp [Lit.wf, IntKind.min, IntKind.max, IntKind.signed, IntKind.bits] at h
  omega
theorem wf_u32' {n : Int} (h : (Lit.int .u32 n).wf = true) : 0 ≤ n ∧ n ≤ 4294967295 := by
  simp [Lit.wf, IntKind.min, IntKind.max, IntKind.signed, IntKind.bits] at h
  omega
theorem wf_i32' {n : Int} (h : (Lit.int .i32 n).wf = true) : -2147483648 ≤ n ∧ n ≤ 2147483647 := by
  simp [Lit.wf, IntKind.min, IntKind.max, IntKind.signed, IntKind.bits] at h
  omega
theorem wf_u64' {n : Int} (h : (Lit.int .u64 n).wf = true) : 0 ≤ n ∧ n ≤ 18446744073709551615 := by
  simp [Lit.wf, IntKind.min, IntKind.max, IntKind.signed, IntKind.bits] at h
  omega

/-- short forms: a world behind draws and rows laid -/
class Rch (w a : World) : Prop where
  h : Below w.heap.size w a
instance (w : World) : Rch w w := ⟨Below.refl _ _⟩
instance {w a : World} [r : Rch w a] : Rch w a.drew := ⟨r.h.drew⟩
instance {w a : World} {n : Nat} [r : Rch w a] : Rch w (a.drewN n) := ⟨r.h.trans (below_drewN _ _ _)⟩
instance {w a : World} {o : Obj} [r : Rch w a] : Rch w (a.alloc o) := ⟨r.h.alloc r.h.size _⟩
theorem bup {w a : World} [r : Rch w a] : Below w.heap.size w a := r.h
theorem sl {P : Program} {ops : Array Oper} {Q : Exit → Act → World → Prop} {op : Op} {ty : TypeId} {pos : String} {af : Array Edge} {gd : Option (Nat × Bool)} {rest : List Oper} {a : Act} {w : World} (k : Nat) (h : wpList P ops Q (⟨some k, op, ty, pos, af, gd⟩ :: rest) a w) : wpList P ops Q (⟨some k, op, ty, pos, af, gd⟩ :: rest) a w := h
theorem PT : (∀ (a : Act) (d : Tmp) (v : Value), a.put (some d) v = { a with tmps := a.tmps.setIfInBounds d v }) ∧ (∀ (a : Act) (v : Value), a.put none v = a) ∧ (∀ (l : List Value) (i : Nat) (v : Value), l.toArray.setIfInBounds i v = (l.set i v).toArray) ∧ (∀ (x v : Value) (l : List Value), (x :: l).set 0 v = v :: l) ∧ (∀ (x v : Value) (i : Nat) (l : List Value), (x :: l).set (i + 1) v = x :: l.set i v) :=
  ⟨fun _ _ _ => rfl, fun _ _ => rfl, fun _ _ _ => by simp, fun _ _ _ => rfl, fun _ _ _ _ => rfl⟩
/-- what is known is carried: p at w, q the same at w' -/
class Ck (p : Prop) (w' : World) (w : outParam World) (q : outParam Prop) : Prop where
  h : p → Below w.heap.size w w' → q
theorem ck {p q : Prop} {w w' : World} [c : Ck p w' w q] (h : Hid p) (hE : Below w.heap.size w w') : Hid q := Lib.hid (c.h h.out hE)
theorem ckk {p q : Prop} {w a w' : World} [c : Ck p w' w q] (h : Hid p) (hu : Below w.heap.size w a) (hb : Below a.heap.size a w') : Hid q := Lib.hid (c.h h.out (hu.trans (hb.mono hu.size)))
instance {v w w' : World} : Ck (Below v.heap.size v w) w' w (Below v.heap.size v w') := ⟨fun h hE => h.trans (hE.mono h.size)⟩
/-- .. over a store into block g -/
class Cg (p : Prop) (w1 : World) (g : Nat) (w : outParam World) (s q : outParam Prop) : Prop where
  h : ∀ wd, p → Below w.heap.size w wd → wd.grownBy w1 (some g) → s → q
theorem cg {p s q : Prop} {w wd w1 : World} {g : Nat} [c : Cg p w1 g w s q] (h : Hid p) (hE : Below w.heap.size w wd) (hg : wd.grownBy w1 (some g)) (hs : s) : Hid q := Lib.hid (c.h wd h.out hE hg hs)
end Go.Proofs.Ytaadpldijnegkaa
/-
  Bytes: a row of them as a list, and what is done to such lists: turned round, and so on. Over any program.
-/
namespace Go.Proofs.Ytaadpldijnegkaa
open Go.RowKit Go.Sort
set_option linter.unusedVariables false
set_option linter.unusedSimpArgs false

/-- the cells of bytes -/
def BV (l : List UInt8) : List Value := l.map fun b => Value.int .u8 (b.toNat : Int)
theorem BV_length (l : List UInt8) : (BV l).length = l.length := by simp [BV]
theorem BV_one (l : List UInt8) : ∀ u ∈ BV l, u.oneCell' = true := by
  intro u hu
  obtain ⟨x, _, rfl⟩ := List.mem_map.1 hu
  rfl
theorem BV_append (l m : List UInt8) : BV (l ++ m) = BV l ++ BV m := by simp [BV]
theorem BV_nil : BV [] = [] := rfl
theorem BV_get (l : List UInt8) (i : Nat) (h : i < (BV l).length) : (BV l)[i] = .int .u8 ((l[i]'(by simpa [BV] using h)).toNat : Int) := by simp [BV]
theorem BV_set (l : List UInt8) (i : Nat) (b : UInt8) : (BV l).set i (.int .u8 (b.toNat : Int)) = BV (l.set i b) := by simp [BV, List.map_set]
theorem BV_inj {l m : List UInt8} (h : BV l = BV m) : l = m := by
  unfold BV at h
  refine List.map_inj_right (fun a b hab => ?_) |>.1 h
  simp at hab
  exact UInt8.toNat_inj.1 (by omega)

/-- byte j (0 behind the end) -/
def at8 (l : List UInt8) (j : Nat) : UInt8 := l.getD j 0
theorem at8_lt (l : List UInt8) (j : Nat) : (0 : Int) ≤ ((at8 l j).toNat : Int) ∧ ((at8 l j).toNat : Int) ≤ 255 := by
  have := (at8 l j).toNat_lt
  omega
theorem at8_get (l : List UInt8) (j : Nat) (h : j < l.length) : at8 l j = l[j] := by simp [at8, List.getD, h]
theorem at8_end (l : List UInt8) (j : Nat) (h : l.length ≤ j) : at8 l j = 0 := by simp [at8, List.getD, h]

/-- bytes that came in, as numbers -/
def ofInts (zs : List Int) : List UInt8 := zs.map fun z => UInt8.ofNat z.toNat
theorem BV_ofInts {zs : List Int} (h : ∀ n ∈ zs, (Lit.int .u8 n).wf = true) : BV (ofInts zs) = zs.map (Value.int .u8) := by
  unfold BV ofInts
  rw [List.map_map]
  refine List.map_congr_left fun z hz => ?_
  have hb := wf_u8' (h z hz)
  simp only [Function.comp]
  rw [UInt8.toNat_ofNat_of_lt' (by show z.toNat < 256; omega)]
  congr 1
  omega

/-- a slice of bytes reads as l -/
def Bs (w : World) (ad : Option Addr) (n c : Nat) (l : List UInt8) : Prop := Sl w ad n c 1 (BV l)
theorem Bs.len {w : World} {ad : Option Addr} {n c : Nat} {l : List UInt8} (h : Bs w ad n c l) : n = l.length := by have := Sl.len h; rw [BV_length] at this; omega
theorem Bs.le {w : World} {ad : Option Addr} {n c : Nat} {l : List UInt8} (h : Bs w ad n c l) : n ≤ c ∧ c ≤ 9223372036854775807 := ⟨h.2.1, by have := h.2.2.1; simp [maxLen] at this; omega⟩
theorem Bs.below {w w' : World} {ad : Option Addr} {n c : Nat} {l : List UInt8} (h : Bs w ad n c l) (hb : Below w.heap.size w w') : Bs w' ad n c l := Sl.below h hb
theorem Bs.at {w : World} {ad : Option Addr} {n c : Nat} {l : List UInt8} (h : Bs w ad n c l) {j : Nat} (hj : j < l.length) :
    ∃ b off, ad = some ⟨b, off, none⟩ ∧ b < w.heap.size ∧ ∀ i, i < l.length → w.cell? ⟨b, off + i, none⟩ = some (.int .u8 ((at8 l i).toNat : Int)) := by
  obtain ⟨b, off, ha, hb, hc⟩ := Sl.at h (j := j) (by rw [BV_length]; exact hj)
  refine ⟨b, off, ha, hb, fun i hi => ?_⟩
  rw [hc i (by rw [BV_length]; exact hi), BV_get]
  simp [at8, List.getD, hi]
theorem Bs.of_own {w : World} {base : Nat} {e : TypeId} {ad : Option Addr} {n c : Nat} {l : List UInt8} (h : w.ownsRow base e 1 (.slice ad n c) n (BV l)) : Bs w ad n c l := Sl.of_own h

/-- What a function answers that hands back bytes in memory of its own. -/
def RetB (e : TypeId) (l : List UInt8) (w : World) (en : Ending) (w' : World) : Prop :=
  ∃ ad c, en = .returned (.slice ad l.length c) ∧ w'.ownsRow w.heap.size e 1 (.slice ad l.length c) l.length (BV l) ∧ Below w.heap.size w w'

theorem own_form {w : World} {base : Nat} {e : TypeId} {size : Nat} {ad : Option Addr} {n c : Nat} {xs : List Value} (h : w.ownsRow base e size (.slice ad n c) n xs) :
    (ad = none ∧ n = 0 ∧ c = 0) ∨ ∃ g, ad = some ⟨g, 0, none⟩ ∧ base ≤ g ∧ g < w.heap.size := by
  have hlt := h.lt
  rcases h.2 with ⟨hv, h0⟩ | ⟨g, cap, cur, hv, _⟩
  · simp at hv; exact .inl ⟨hv.1, h0, hv.2.2⟩
  · simp at hv
    obtain ⟨rfl, rfl⟩ := hv
    exact .inr ⟨g, rfl, (hlt g rfl).1, (hlt g rfl).2⟩

theorem own_base {w : World} {base base' : Nat} {e : TypeId} {size : Nat} {ad : Option Addr} {n c : Nat} {xs : List Value} (h : w.ownsRow base e size (.slice ad n c) n xs) (hb : base' ≤ base) : w.ownsRow base' e size (.slice ad n c) n xs := by
  obtain ⟨h1, h2⟩ := h
  refine ⟨h1, ?_⟩
  rcases h2 with h2 | ⟨g, cap, cur, hv, hg, r⟩
  · exact .inl h2
  · exact .inr ⟨g, cap, cur, hv, Nat.le_trans hb hg, r⟩

theorem own_below {w w' : World} {base B : Nat} {e : TypeId} {size : Nat} {ad : Option Addr} {n c : Nat} {xs : List Value} (h : w.ownsRow base e size (.slice ad n c) n xs) (hb : Below B w w') (hlt : ∀ g, ad = some ⟨g, 0, none⟩ → g < B) : w'.ownsRow base e size (.slice ad n c) n xs := by
  obtain ⟨h1, h2⟩ := h
  refine ⟨h1, ?_⟩
  rcases h2 with h2 | ⟨g, cap, cur, hv, hg, hh, r⟩
  · exact .inl h2
  · have hv' := hv
    simp at hv'
    exact .inr ⟨g, cap, cur, hv, hg, by rw [hb.block g (hlt g hv'.1)]; exact hh, r⟩

/-- .. the same, where nothing that was there has turned -/
theorem own_keep {w w' : World} {base : Nat} {e : TypeId} {size : Nat} {ad : Option Addr} {n c : Nat} {xs : List Value} (h : w.ownsRow base e size (.slice ad n c) n xs) (hb : Below w.heap.size w w') : w'.ownsRow base e size (.slice ad n c) n xs :=
  own_below h hb fun g hg => by
    rcases own_form h with ⟨h0, _⟩ | ⟨g', h1, _, h2⟩
    · rw [h0] at hg; cases hg
    · rw [h1] at hg; cases hg; exact h2

theorem own_cell {w : World} {base : Nat} {e : TypeId} {g n c : Nat} {l : List UInt8} (h : w.ownsRow base e 1 (.slice (some ⟨g, 0, none⟩) n c) n (BV l)) {j : Nat} (hj : j < n) : w.cell? ⟨g, j, none⟩ = some (.int .u8 ((at8 l j).toNat : Int)) := by
  have hl := h.1
  rw [BV_length] at hl
  rw [h.cellAt j (by omega), List.getElem?_eq_getElem (by rw [BV_length]; omega), BV_get]
  simp [at8, List.getD, show j < l.length by omega]

theorem own_store {w : World} {base : Nat} {e : TypeId} {g n c : Nat} {l : List UInt8} (h : w.ownsRow base e 1 (.slice (some ⟨g, 0, none⟩) n c) n (BV l)) (j : Nat) (b : UInt8) :
    (w.setCell ⟨g, j, none⟩ (.int .u8 (b.toNat : Int))).ownsRow base e 1 (.slice (some ⟨g, 0, none⟩) n c) n (BV (l.set j b)) ∧ w.grownBy (w.setCell ⟨g, j, none⟩ (.int .u8 (b.toNat : Int))) (some g) := by
  have := h.stored j (.int .u8 (b.toNat : Int))
  rwa [BV_set] at this

/-! ### turned round, a swap a step -/
/-- the first k and the last k have been swapped -/
def revTo (l : List UInt8) (k : Nat) : List UInt8 := (List.range l.length).map fun j => if j < k ∨ l.length ≤ j + k then l.getD (l.length - 1 - j) 0 else l.getD j 0
theorem revTo_length (l : List UInt8) (k : Nat) : (revTo l k).length = l.length := by simp [revTo]
theorem revTo_get (l : List UInt8) (k j : Nat) (h : j < l.length) : (revTo l k).getD j 0 = if j < k ∨ l.length ≤ j + k then l.getD (l.length - 1 - j) 0 else l.getD j 0 := by
  simp [revTo, List.getD, h]
theorem ext_getD {l m : List UInt8} (hl : l.length = m.length) (h : ∀ j, j < l.length → l.getD j 0 = m.getD j 0) : l = m := by
  apply List.ext_getElem hl
  intro j h1 h2
  have := h j h1
  simpa [List.getD, h1, h2] using this
theorem revTo_zero (l : List UInt8) : revTo l 0 = l := by
  apply ext_getD (by rw [revTo_length])
  intro j hj
  rw [revTo_length] at hj
  rw [revTo_get l 0 j hj, if_neg (by omega)]
theorem revTo_end (l : List UInt8) (k : Nat) (h : l.length ≤ 2 * k + 1) : revTo l k = l.reverse := by
  apply ext_getD (by rw [revTo_length]; simp)
  intro j hj
  rw [revTo_length] at hj
  rw [revTo_get l k j hj]
  have hr : l.reverse.getD j 0 = l.getD (l.length - 1 - j) 0 := by
    simp [List.getD, List.getElem?_reverse hj]
  rw [hr]
  split
  · rfl
  · have : l.length - 1 - j = j := by omega
    rw [this]
theorem set_getD (l : List UInt8) (i j : Nat) (b : UInt8) (hi : i < l.length) : (l.set i b).getD j 0 = if i = j then b else l.getD j 0 := by
  simp only [List.getD, List.getElem?_set]
  split
  · subst_vars; simp
  · rfl
theorem revTo_succ (l : List UInt8) (k : Nat) (h : 2 * k + 1 < l.length) :
    ((revTo l k).set k (at8 (revTo l k) (l.length - 1 - k))).set (l.length - 1 - k) (at8 (revTo l k) k) = revTo l (k + 1) := by
  apply ext_getD (by simp [revTo_length])
  intro j hj
  simp only [List.length_set, revTo_length] at hj
  rw [set_getD _ _ _ _ (by simp [revTo_length]; omega), set_getD _ _ _ _ (by simp [revTo_length]; omega)]
  unfold at8
  have e1 : (revTo l k).getD k 0 = l.getD k 0 := by rw [revTo_get l k k (by omega), if_neg (by omega)]
  have e2 : (revTo l k).getD (l.length - 1 - k) 0 = l.getD (l.length - 1 - k) 0 := by rw [revTo_get l k _ (by omega), if_neg (by omega)]
  rw [e1, e2, revTo_get l (k + 1) j hj, revTo_get l k j hj]
  by_cases h1 : l.length - 1 - k = j
  · rw [if_pos h1, if_pos (by omega)]
    congr 1
    omega
  · rw [if_neg h1]
    by_cases h2 : k = j
    · rw [if_pos h2, if_pos (by omega)]
      congr 1
      omega
    · rw [if_neg h2]
      by_cases h3 : j < k ∨ l.length ≤ j + k
      · rw [if_pos h3, if_pos (by omega)]
      · rw [if_neg h3, if_neg (by omega)]

/-! ### numbers as bytes -/
/-- byte i of a number, the lowest first -/
def byteAt (n i : Nat) : UInt8 := UInt8.ofNat (n / 2 ^ (8 * i))
theorem byteAt_toNat (n i : Nat) : (byteAt n i).toNat = n / 2 ^ (8 * i) % 256 := by unfold byteAt; simp
theorem byteAt_wrap (n i : Nat) : IntKind.u8.wrap (((n / 2 ^ (8 * i) : Nat)) : Int) = ((byteAt n i).toNat : Int) := by
  rw [byteAt_toNat, IntKind.wrap_u8]; omega
theorem byteAt_int (n i : Nat) : (n : Int) / 2 ^ (8 * i) % 256 = ((byteAt n i).toNat : Int) := by
  rw [byteAt_toNat, Int.natCast_emod, Int.natCast_ediv, Int.natCast_pow]; rfl
def putLE (n k : Nat) : List UInt8 := (List.range k).map (byteAt n)
theorem putLE_length (n k : Nat) : (putLE n k).length = k := by simp [putLE]
/-- what the document lays of a number: how many bytes, in which order -/
def sizeOf8 (size : Int) : Nat := min size.toNat 8
def putL (n : Nat) (size : Int) (big : Bool) : List UInt8 := if big then (putLE n (sizeOf8 size)).reverse else putLE n (sizeOf8 size)
theorem putL_length (n : Nat) (size : Int) (big : Bool) : (putL n size big).length = sizeOf8 size := by unfold putL; split <;> simp [putLE_length]
/-- the first k of L bytes are laid -/
def putTo (n L k : Nat) : List UInt8 := (List.range L).map fun i => if i < k then byteAt n i else 0
theorem putTo_length (n L k : Nat) : (putTo n L k).length = L := by simp [putTo]
theorem putTo_zero (n L : Nat) : BV (putTo n L 0) = List.replicate L (.int .u8 0) := by
  apply List.ext_getElem (by simp [BV, putTo])
  intro i h1 h2
  simp [BV, putTo]
theorem putTo_all (n L : Nat) : putTo n L L = putLE n L := by
  unfold putTo putLE
  refine List.map_congr_left fun i hi => ?_
  rw [if_pos (by simpa using hi)]
theorem putTo_succ (n L k : Nat) (h : k < L) : (putTo n L k).set k (byteAt n k) = putTo n L (k + 1) := by
  apply ext_getD (by simp [putTo])
  intro j hj
  simp only [List.length_set, putTo_length] at hj
  rw [set_getD _ _ _ _ (by rw [putTo_length]; exact h)]
  simp only [putTo, List.getD, List.getElem?_map, List.getElem?_range hj, Option.map_some, Option.getD_some]
  by_cases h1 : k = j
  · rw [if_pos h1, if_pos (by omega), h1]
  · rw [if_neg h1]
    by_cases h2 : j < k
    · rw [if_pos h2, if_pos (by omega)]
    · rw [if_neg h2, if_neg (by omega)]

/-! ### bytes as numbers -/
def numBE (l : List UInt8) : Nat := l.foldl (fun n b => n * 256 + b.toNat) 0
theorem numBE_nil : numBE [] = 0 := rfl
theorem numBE_snoc (l : List UInt8) (b : UInt8) : numBE (l ++ [b]) = numBE l * 256 + b.toNat := by simp [numBE]
theorem numBE_lt (l : List UInt8) : numBE l < 256 ^ l.length := by
  have key : ∀ m : List UInt8, numBE m.reverse < 256 ^ m.length := by
    intro m
    induction m with
    | nil => simp [numBE]
    | cons b m ih =>
      rw [List.reverse_cons, numBE_snoc, List.length_cons, Nat.pow_succ]
      have := b.toNat_lt
      omega
  have := key l.reverse
  simpa using this
theorem numBE_lt8 (l : List UInt8) (h : l.length ≤ 8) : numBE l < 18446744073709551616 :=
  Nat.lt_of_lt_of_le (numBE_lt l) (Nat.pow_le_pow_right (by omega) h)
theorem numBE_lt7 (l : List UInt8) (h : l.length ≤ 7) : numBE l < 72057594037927936 :=
  Nat.lt_of_lt_of_le (numBE_lt l) (Nat.pow_le_pow_right (by omega) h)
def getN (l : List UInt8) (big : Bool) : Nat := if big then numBE (l.take 8) else numBE (l.take 8).reverse
theorem getN_lt (l : List UInt8) (big : Bool) : getN l big < 18446744073709551616 := by
  unfold getN
  split
  · exact numBE_lt8 _ (by simp; omega)
  · exact numBE_lt8 _ (by simp; omega)

/-- one byte more -/
def stepN (a : Nat) (b : UInt8) : Nat := a * 256 + b.toNat
theorem u64_wrap_nat (n : Nat) (h : n < 18446744073709551616) : IntKind.u64.wrap (n : Int) = n := by rw [IntKind.wrap_u64]; omega
theorem or_byte (a : Nat) (b : UInt8) (h : a < 72057594037927936) : bits BinOp.or .u64 (IntKind.u64.wrap ((a : Int) * 256)) ((b.toNat : Nat) : Int) = ((stepN a b : Nat) : Int) := by
  unfold stepN
  have hb := b.toNat_lt
  have e : IntKind.u64.wrap ((a : Int) * 256) = ((a * 256 : Nat) : Int) := by rw [IntKind.wrap_u64]; omega
  rw [e]
  show IntKind.u64.wrap ((BitVec.ofInt 64 ((a * 256 : Nat) : Int) ||| BitVec.ofInt 64 ((b.toNat : Nat) : Int)).toNat : Int) = _
  rw [BitVec.toNat_or]
  have e1 : (BitVec.ofInt 64 ((a * 256 : Nat) : Int)).toNat = a * 256 := by rw [BitVec.toNat_ofInt]; show (((a * 256 : Nat) : Int) % 18446744073709551616).toNat = _; omega
  have e2 : (BitVec.ofInt 64 ((b.toNat : Nat) : Int)).toNat = b.toNat := by rw [BitVec.toNat_ofInt]; show (((b.toNat : Nat) : Int) % 18446744073709551616).toNat = _; omega
  rw [e1, e2]
  have : a * 256 ||| b.toNat = a * 256 + b.toNat := by
    have := Nat.two_pow_add_eq_or_of_lt (i := 8) (b := b.toNat) hb a
    rw [Nat.mul_comm a 256]
    exact this.symm
  rw [this, u64_wrap_nat _ (by omega)]
theorem take_snoc8 (l : List UInt8) (k : Nat) (h : k < l.length) : l.take (k + 1) = l.take k ++ [at8 l k] := by
  rw [List.take_add_one, List.getElem?_eq_getElem h, at8_get l k h]; rfl
theorem numBE_take_succ (l : List UInt8) (k : Nat) (h : k < l.length) : numBE (l.take (k + 1)) = stepN (numBE (l.take k)) (at8 l k) := by
  rw [take_snoc8 l k h, numBE_snoc]; rfl
/-- from behind: what has been read in k rounds -/
def numFrom (l : List UInt8) (k : Nat) : Nat := numBE (l.reverse.take k)
theorem numFrom_succ (l : List UInt8) (k : Nat) (h : k < l.length) : numFrom l (k + 1) = stepN (numFrom l k) (at8 l (l.length - 1 - k)) := by
  unfold numFrom
  rw [numBE_take_succ _ _ (by simpa using h)]
  have : at8 l.reverse k = at8 l (l.length - 1 - k) := by rw [at8_get _ _ (by simpa using h), at8_get _ _ (by omega), List.getElem_reverse]
  rw [this]
theorem numFrom_lt7 (l : List UInt8) (k : Nat) (h : k ≤ 7) : numFrom l k < 72057594037927936 := numBE_lt7 _ (by simp; omega)
theorem numFrom_all (l : List UInt8) : numFrom l l.length = numBE l.reverse := by unfold numFrom; rw [List.take_of_length_le (by simp)]
theorem numBE_map_snoc {α : Type} (f : α → UInt8) (pre : List α) (x : α) : numBE ((pre ++ [x]).map f) = stepN (numBE (pre.map f)) (f x) := by
  rw [List.map_append, List.map_cons, List.map_nil, numBE_snoc]; rfl

/-! ### strings out of bytes -/
def strOf (l : List UInt8) : ByteArray := ⟨l.toArray⟩
theorem strOf_data (l : List UInt8) : (strOf l).data.toList = l := rfl
theorem strOf_toList (l : List UInt8) : (strOf l).toList = l := by
  unfold ByteArray.toList
  have key : ∀ (k : Nat) (r : List UInt8), k ≤ l.length → ByteArray.toList.loop (strOf l) (l.length - k) r = r.reverse ++ l.drop (l.length - k) := by
    intro k
    induction k with
    | zero =>
      intro r _
      unfold ByteArray.toList.loop
      rw [if_neg (by show ¬ (l.length - 0 < (strOf l).size); simp [strOf, ByteArray.size])]
      simp
    | succ k ih =>
      intro r hk
      unfold ByteArray.toList.loop
      rw [if_pos (by show l.length - (k + 1) < (strOf l).size; simp [strOf, ByteArray.size]; omega)]
      rw [show l.length - (k + 1) + 1 = l.length - k by omega, ih _ (by omega)]
      have hlt : l.length - (k + 1) < l.length := by omega
      rw [List.drop_eq_getElem_cons hlt, show l.length - (k + 1) + 1 = l.length - k by omega]
      have : (strOf l).get! (l.length - (k + 1)) = l[l.length - (k + 1)] := by
        simp [strOf, ByteArray.get!, hlt]
      rw [this]
      simp
  have := key l.length [] (Nat.le_refl _)
  simpa using this

theorem run_str {P : Program} {w : World} {src dst e : TypeId} {ad : Option Addr} {n c : Nat} {l : List UInt8} (hs : P.underlying src = some (.slice e)) (he : P.underlying e = some (.int .u8)) (hd : P.underlying dst = some .string) (hb : Bs w ad n c l) :
    (convert src dst (.slice ad n c)).run P w = .ok (.string (strOf l)) w := by
  have hn := hb.len
  subst hn
  cases ad with
  | none =>
    obtain ⟨_, _, _, h0, _⟩ := hb
    have : l = [] := List.length_eq_zero_iff.1 (h0 rfl).1
    subst this
    rw [run_convert_bytes_nil (P := P) w src e hs he _ _ dst hd]
    rfl
  | some x =>
    refine run_convert_bytes_back (P := P) w src dst e x c l hs he hd fun j hj => ?_
    obtain ⟨y, hy, hc⟩ := hb.2.2.2.2 j (.int .u8 (l[j].toNat : Int)) (by rw [List.getElem?_eq_getElem (by rw [BV_length]; exact hj), BV_get])
    cases hy
    exact hc

theorem wpL_str {P : Program} {w : World} {ops : Array Oper} {rest : List Oper} {o : Oper} {a : Act} {Q : Exit → Act → World → Prop} {src dst e : TypeId} (hs : P.underlying src = some (.slice e)) (he : P.underlying e = some (.int .u8)) (hd : P.underlying dst = some .string)
    (hg : Region.wanted o (yielded ops a.tmps) = true) (x : Operand) (hop : o.op = Op.convert src dst x) {ad : Option Addr} {n c : Nat} {l : List UInt8} (hx : a.eval x = .slice ad n c) (hb : Bs w ad n c l)
    (h : wpList P ops Q rest (a.put o.dst (.string (strOf l))) w) : wpList P ops Q (o :: rest) a w := by
  refine wpL_run hg ?_ h
  simp only [execOp, hop, hx, Sem.run_bind, run_str hs he hd hb, Result.andThen_ok, Sem.run_pure]

/-- the same bytes? -/
def sameB (l m : List UInt8) : Bool := l == m
theorem sameB_str (l m : List UInt8) : ((strOf l).toList == (strOf m).toList) = sameB l m := by rw [strOf_toList, strOf_toList]; rfl
theorem sameB_self (l : List UInt8) : sameB l l = true := by simp [sameB]

/-- one byte's cell -/
theorem Bs.one (w : World) (e : TypeId) (b : UInt8) : Bs (w.alloc (.cells #[.int .u8 (b.toNat : Int)] e)) (some ⟨w.heap.size, 0, none⟩) 1 1 [b] :=
  Sl.lit w #[.int .u8 (b.toNat : Int)] e 1 1 rfl (by simp [maxLen])

/-! ### padding -/
def padI (n : Int) : Int := if n ≤ 0 then 0 else (4 - n % 4) % 4
theorem padI_range (n : Int) : 0 ≤ padI n ∧ padI n ≤ 3 := by unfold padI; split <;> omega
def padN (n : Nat) : Nat := (4 - n % 4) % 4
theorem padN_le (n : Nat) : padN n ≤ 3 := by unfold padN; omega
theorem padI_nat (n : Nat) : padI (n : Int) = (padN n : Int) := by unfold padI padN; split <;> omega
def padL (l : List UInt8) : List UInt8 := l ++ List.replicate (padN l.length) 0
theorem padL_length (l : List UInt8) : (padL l).length = l.length + padN l.length := by simp [padL]
def padTo (l : List UInt8) (k : Nat) : List UInt8 := l ++ List.replicate k 0
theorem padTo_length (l : List UInt8) (k : Nat) : (padTo l k).length = l.length + k := by simp [padTo]
theorem padTo_succ (l : List UInt8) (k : Nat) : padTo l (k + 1) = padTo l k ++ [0] := by simp [padTo, List.replicate_succ']
theorem padTo_zero (l : List UInt8) : padTo l 0 = l := by simp [padTo]
theorem padTo_pad (l : List UInt8) : padTo l (padN l.length) = padL l := rfl
theorem padN_end (n k : Nat) (h : (n + k) % 4 = 0) (hk : k ≤ padN n) : k = padN n := by unfold padN at *; omega
theorem padN_more (n k : Nat) (h : (n + k) % 4 ≠ 0) (hk : k ≤ padN n) : k < padN n := by unfold padN at *; omega
theorem padN_mod (n : Nat) : (n + padN n) % 4 = 0 := by unfold padN; omega

theorem putLE_succ (n k : Nat) : putLE n (k + 1) = putLE n k ++ [byteAt n k] := by simp [putLE, List.range_succ]
theorem byteAt_quo (n k : Nat) : IntKind.u8.wrap (((n / 256 ^ k % 256 : Nat)) : Int) = ((byteAt n k).toNat : Int) := by
  rw [byteAt_toNat, show (256 : Nat) ^ k = 2 ^ (8 * k) by rw [show (256 : Nat) = 2 ^ 8 from rfl, ← Nat.pow_mul], IntKind.wrap_u8]
  omega
theorem byteAt_mod (n k : Nat) : ((n / 256 ^ k : Nat) : Int) % 256 = ((byteAt n k).toNat : Int) := by
  rw [byteAt_toNat, show (256 : Nat) ^ k = 2 ^ (8 * k) by rw [show (256 : Nat) = 2 ^ 8 from rfl, ← Nat.pow_mul]]
  omega
theorem quo_succ (n k : Nat) : ((n / 256 ^ k : Nat) : Int) / 256 = ((n / 256 ^ (k + 1) : Nat) : Int) := by
  rw [Nat.pow_succ, ← Nat.div_div_eq_div_mul]; omega
theorem putL_to (n : Nat) (size : Int) (big : Bool) (k : Nat) (h : k = sizeOf8 size) : (if big then (putLE n k).reverse else putLE n k) = putL n size big := by subst h; rfl
instance {w w' : World} {ad : Option Addr} {n c : Nat} {l : List UInt8} : Ck (Bs w ad n c l) w' w (Bs w' ad n c l) := ⟨fun h hE => h.below hE⟩
instance {w w' : World} {base : Nat} {e : TypeId} {size : Nat} {ad : Option Addr} {n c : Nat} {xs : List Value} : Ck (w.ownsRow base e size (.slice ad n c) n xs) w' w (w'.ownsRow base e size (.slice ad n c) n xs) := ⟨fun h hE => own_keep h hE⟩
end Go.Proofs.Ytaadpldijnegkaa
/-
  The contracts of the functions on numbers as bytes.
-/
namespace Go.Proofs.Ytaadpldijnegkaa
open Go.RowKit Go.Sort
set_option linter.unusedVariables false
set_option linter.unusedSimpArgs false

theorem elB : Elem Try.prog 62 5 1 1 (.int .u8 0) := ⟨Try.underlying62, by kernel_rfl, rfl, by omega⟩

end Go.Proofs.Ytaadpldijnegkaa
/-
  octet.Get reads a number: in order, and from behind (a range over the library's iterator).
-/
namespace Go.Proofs.Ytaadpldijnegkaa
open Go.RowKit Go.Sort Go.Shelf
set_option linter.unusedVariables false
set_option linter.unusedSimpArgs false
attribute [local go_sem] Oper.semAt_some

/-- what a round keeps: what lay below n₀, and the block Bx -/
def KpBox (n₀ Bx : Nat) (W W' : World) : Prop := Below n₀ W W' ∧ W'.heap[Bx]? = W.heap[Bx]?
theorem KpBox.refl (n₀ Bx : Nat) (W : World) : KpBox n₀ Bx W W := ⟨Below.refl _ _, rfl⟩
theorem KpBox.trans {n₀ Bx : Nat} {A B C : World} (h : KpBox n₀ Bx A B) (k : KpBox n₀ Bx B C) : KpBox n₀ Bx A C := ⟨h.1.trans k.1, k.2.trans h.2⟩
theorem KpBox.put {n₀ Bx : Nat} {w : World} (hn : n₀ ≤ w.heap.size) (hB : Bx < w.heap.size) (W : World) (l : Nat) (o o' : Obj) (hl : w.heap.size ≤ l) (ho : W.heap[l]? = some o) (h1 : o.isCells = false) (h2 : o.isWalk = false) : KpBox n₀ Bx W (W.putObj l o') :=
  ⟨belowK_b hn W l o o' hl ho h1 h2, World.putObj_heap_other (by omega)⟩
theorem KpBox.bs {n₀ Bx : Nat} {W W' : World} {ad : Option Addr} {n c : Nat} {l : List UInt8} (h : KpBox n₀ Bx W W') (hs : Bs W ad n c l) (hb : ∀ x, ad = some x → 0 < n → x.block < n₀) : Bs W' ad n c l :=
  ⟨hs.1, hs.2.1, hs.2.2.1, hs.2.2.2.1, fun j u hj => by
    obtain ⟨x, hx, hc⟩ := hs.2.2.2.2 j u hj
    have hl := hs.1
    have hlt : j < (BV l).length := (List.getElem?_eq_some_iff.1 hj).1
    exact ⟨x, hx, by rw [h.1.cell (by rw [add_block]; exact hb x hx (by omega))]; exact hc⟩⟩

theorem cell_of_block1 {w : World} {B : Nat} {v : Value} {t : TypeId} (h : w.heap[B]? = some (.cells #[v] t (0, 0))) : w.cell? ⟨B, 0, none⟩ = some v := cell_of_one h
theorem free_of_block1 {w : World} {B : Nat} {v : Value} {t : TypeId} (h : w.heap[B]? = some (.cells #[v] t (0, 0))) : w.frozen? ⟨B, 0, none⟩ = false := free_of_one h

def upto {α : Type} (f : Nat → α) (k : Nat) : List α := (List.range k).map f
theorem upto_succ {α : Type} (f : Nat → α) (k : Nat) : upto f (k + 1) = upto f k ++ [f k] := by simp [upto, List.range_succ]
theorem upto_length {α : Type} (f : Nat → α) (k : Nat) : (upto f k).length = k := by simp [upto]

/-- what slices.Backward hands out -/
def bk (l : List UInt8) (j : Nat) : Nat × UInt8 := (l.length - 1 - j, at8 l (l.length - 1 - j))

set_option maxRecDepth 100000 in
set_option maxHeartbeats 2000000 in
theorem back1_in (F : Fence) (n : Nat) (h7 : F.fn 74) (hro : F.round = none) (hn : 1 ≤ n) (l Bx n₀ : Nat) (ad : Option Addr) (len c : Nat) (bs : List UInt8) (hreach : len ≤ 140737488351232) (hb : ∀ x, ad = some x → 0 < len → x.block < n₀)
    (J Jx : List (Nat × UInt8) → World → Prop)
    (hY : ∀ pre x W, J pre W → pre.length < len → YieldAt F (n - 1) Try.prog l #[.int .i64 (x.1 : Int), .int .u8 (x.2.toNat : Int)] W fun e W' =>
      (e = .returned (.bool true) ∧ J (pre ++ [x]) W' ∧ KpBox n₀ Bx W W') ∨ (e = .returned (.bool false) ∧ Jx (pre ++ [x]) W'))
    (W : World) (hBx : W.heap[Bx]? = some (.cells #[.slice ad len c] 62 (0, 0))) (hs : Bs W ad len c bs) (h0 : J [] W) :
    CallsIn F n Try.prog 74 #[.func (.yield l) #[] #[], .pointer (some ⟨Bx, 0, none⟩)] W fun e W' => (∃ v, e = .returned v) ∧
      ((∃ ys, ys = upto (bk bs) len ∧ J ys W') ∨ (∃ pre, (∃ k, k ≤ len ∧ pre = upto (bk bs) k) ∧ Jx pre W')) := by
  have hlen := hs.len
  have HLEN := Lib.hid hlen
  clear hlen
  have hcB := cell_of_block1 hBx
  refine callsIn_of_wp Try.func74 rfl h7 ?_ hro
  simp only [Try.ntmps74, List.size_toArray, List.length_cons, List.length_nil, Nat.reduceAdd, Nat.reduceSub, Array.replicate_succ, Array.replicate_zero, List.push_toArray, List.append_toArray, List.nil_append, List.cons_append]
  have HS := Lib.hid hs
  clear hs
  gi_wp2
  gi_loopw [3] (fun i wr => ∃ k : Nat, k ≤ len ∧ i = .int .i64 ((len : Int) - 1 - k) ∧ J (upto (bk bs) k) wr ∧ KpBox n₀ Bx W wr)
    (fun i _ => (intOf i + 1).toNat)
  case atStart => exact ⟨0, Nat.zero_le _, by simp, h0, KpBox.refl _ _ _⟩
  case round =>
    obtain ⟨k, hk, rfl, hJs, hnx⟩ := hrel
    by_cases hlt : k < len
    · obtain ⟨fn, tmps, assign, body, hy, hR⟩ := hY _ (bk bs k) wr hJs (by rw [upto_length]; exact hlt)
      have hidx : (bk bs k).1 = len - 1 - k := by unfold bk; rw [← HLEN.out]
      have hval : (bk bs k).2 = at8 bs (len - 1 - k) := by unfold bk; rw [← HLEN.out]
      rw [hidx, hval] at hy
      have hw : ((len - 1 - k : Nat) : Int) = (len : Int) - 1 - k := by omega
      rw [hw] at hy
      obtain ⟨b, off, rfl, hbb, hcc⟩ := (hnx.bs HS.out hb).at (j := len - 1 - k) (by have := HLEN.out; omega)
      have hcx := hcc (len - 1 - k) (by have := HLEN.out; omega)
      have hcB' : wr.cell? ⟨Bx, 0, none⟩ = some (.slice (some ⟨b, off, none⟩) len c) := cell_of_block1 (hnx.2.trans hBx)
      have i1 : (0 : Int) ≤ (len : Int) - 1 - k := by omega
      have i2 : (len : Int) - 1 - k < len := by omega
      clear hcc hidx hval hw
      have HK := Lib.hid hnx
      clear hnx
      gi_wp2
      refine hR.mono ?_
      rintro e W3 (⟨rfl, hJ3, hk3⟩ | ⟨rfl, hJx3⟩)
      · have HK3 := Lib.hid (HK.out.trans hk3)
        have HJ3 := Lib.hid hJ3
        clear hk3 hJ3 HK hcx hcB' hy hR hJs
        gi_wp2
        go_roundw
        case rel => exact ⟨k + 1, by omega, by go_num, by rw [upto_succ]; exact HJ3.out, HK3.out⟩
        case measure => simp [intOf]; omega
      · gi_wp2
        refine bodyPost_ret (results_none rfl _ _ _) rfl ?_
        exact ⟨⟨_, rfl⟩, .inr ⟨_, ⟨k + 1, by omega, (upto_succ _ _).symm⟩, hJx3⟩⟩
    · obtain rfl : k = len := by omega
      gi_wp2
      go_end0
      exact ⟨⟨_, rfl⟩, .inl ⟨_, rfl, hJs⟩⟩

theorem back_any (F : Fence) (n : Nat) (h5 : F.fn 61) (hro : F.round = none) (a : Option Addr) (len cap : Nat) (w : World) :
    CallsIn F n Try.prog 61 #[.slice a len cap] w fun e w' => e = .returned (.func (.func 74) #[] #[.pointer (some ⟨w.heap.size, 0, none⟩)]) ∧ w' = w.alloc (.cells #[.slice a len cap] 62) := by
  refine callsIn_of_wp Try.func61 rfl h5 ?_ hro
  simp only [Try.ntmps61, List.size_toArray, List.length_cons, List.length_nil, Nat.reduceAdd, Nat.reduceSub, Array.replicate_succ, Array.replicate_zero, List.push_toArray, List.append_toArray, List.nil_append, List.cons_append]
  gi_wp2
  go_ret
  exact ⟨rfl, rfl⟩

theorem back_stops (F : Fence) (n : Nat) (h7 : F.fn 74) (hro : F.round = none) (hn : 1 ≤ n) (Bx n₀ : Nat) (ad : Option Addr) (len c : Nat) (bs : List UInt8) (hreach : len ≤ 140737488351232) (w : World) (hBx : Bx < w.heap.size) (hn₀ : n₀ ≤ w.heap.size)
    (hc : w.heap[Bx]? = some (.cells #[.slice ad len c] 62 (0, 0))) (hs : Bs w ad len c bs) (hb : ∀ x, ad = some x → 0 < len → x.block < n₀) :
    SeqStopsK F n Try.prog 74 #[.pointer (some ⟨Bx, 0, none⟩)] (fun x : Nat × UInt8 => #[Value.int .i64 (x.1 : Int), Value.int .u8 (x.2.toNat : Int)]) (KpBox n₀ Bx) (fun ys => ys = upto (bk bs) len)
      (fun pre => ∃ k, k ≤ len ∧ pre = upto (bk bs) k) len w := fun l J Jx W hW _ _ hY h0 => by
  have hc' : W.heap[Bx]? = some (.cells #[.slice ad len c] 62 (0, 0)) := (hW.block Bx hBx).trans hc
  exact back1_in F n h7 hro hn l Bx n₀ ad len c bs hreach hb J Jx hY W hc' (hs.below hW) h0


/-- the head of the slice: at most eight bytes -/
theorem Bs.head8 {w : World} {ad : Option Addr} {n c : Nat} {l : List UInt8} (h : Bs w ad n c l) : Bs w (subAd ad c 0 1) (min n 8 - 0) (c - 0) (l.take 8) := by
  have := Sl.sub h (l := 0) (h := min n 8) (Nat.zero_le _) (Nat.min_le_left _ _)
  have e : ((BV l).drop (0 * 1)).take ((min n 8 - 0) * 1) = BV (l.take 8) := by
    have hn := h.len
    simp only [List.drop_zero, Nat.sub_zero, Nat.mul_one]
    unfold BV
    rw [List.map_take]
    by_cases h8 : n ≤ 8
    · rw [Nat.min_eq_left h8, List.take_of_length_le (by simp; omega), List.take_of_length_le (by simp; omega)]
    · rw [Nat.min_eq_right (by omega)]
  rw [e] at this
  exact this

def RetN (v : Value) (w : World) (e : Ending) (w' : World) : Prop := e = .returned v ∧ Below w.heap.size w w'

set_option maxRecDepth 100000 in
theorem get_big (ad : Option Addr) (n c : Nat) (l : List UInt8) (w : World) (hs : Bs w ad n c l) :
    Calls Try.prog 49 #[.slice ad n c, .bool true] w (RetN (.int .u64 (getN l true)) w) := by
  obtain ⟨m, hm⟩ : ∃ m, m = min n 8 := ⟨_, rfl⟩
  have hc := hs.le
  have hb8 := hs.head8
  rw [← hm] at hb8
  have hlen := hb8.len
  simp only [Nat.sub_zero] at hlen hb8
  have hmin : (if (8 : Int) < (n : Int) then (8 : Int) else (n : Int)) = (m : Int) := by split <;> omega
  have HL := Lib.hid hlen
  have HB8 := Lib.hid hb8
  have hm8 : m ≤ 8 := by omega
  have hmc : m ≤ c := by omega
  have HG : Hid (getN l true = numBE (l.take 8)) := Lib.hid rfl
  clear hm hlen hb8 hs
  go_enter Try.func49, Try.ntmps49
  go_wp2_with ((with_reducible show wpList _ _ _ (⟨some 14, _, _, _, _, _⟩ :: _) _ _); go_must (refine wpL_slice elB rfl (.tmp 10) none (some (.tmp 13)) rfl rfl 0 m (.inl ⟨rfl, rfl⟩) (.inr ⟨.i64, rfl⟩) (Nat.zero_le _) hmc ?_))
  intro ad1 had1
  rw [← had1.out] at HB8
  clear had1
  go_wp2_with fail
  go_loopw [18, 7] (fun i _ wr => ∃ k : Nat, k ≤ m ∧ i = .int .i64 k ∧ wr.heap[w.heap.size]? = some (.cells #[.int .u64 (numBE ((l.take 8).take k) : Nat)] 24 (0, 0)) ∧ Below w.heap.size w wr) (fun i _ _ => m - (intOf i).toNat)
  case atStart => exact ⟨0, Nat.zero_le _, rfl, heap_alloc_new _ _, (Below.refl _ _).alloc (Nat.le_refl _) _⟩
  case round =>
    obtain ⟨k, hk, rfl, hbox, hb⟩ := hrel
    by_cases hlt : k < m
    · obtain ⟨b, off, rfl, hbl, hcc⟩ := (HB8.out.below hb).at (j := k) (by have := HL.out; omega)
      have hcx := hcc k (by have := HL.out; omega)
      have hsz : w.heap.size < wr.heap.size := (Array.getElem?_eq_some_iff.1 hbox).1
      have hcb := cell_of_one hbox
      have hfb := free_of_one hbox
      have hor := or_byte (numBE ((l.take 8).take k)) (at8 (l.take 8) k) (numBE_lt7 _ (by simp; omega))
      have hu := u64_wrap_nat (at8 (l.take 8) k).toNat (by have := (at8 (l.take 8) k).toNat_lt; omega)
      have hstep := numBE_take_succ (l.take 8) k (by have := HL.out; omega)
      have HBOX := Lib.hid (one_setCell hbox (u := .int .u64 ((stepN (numBE ((l.take 8).take k)) (at8 (l.take 8) k) : Nat) : Int)))
      have HB2 := Lib.hid (hb.setCell (p := ⟨w.heap.size, 0, none⟩) (Nat.le_refl _) (.int .u64 ((stepN (numBE ((l.take 8).take k)) (at8 (l.take 8) k) : Nat) : Int)))
      have HST := Lib.hid hstep
      clear hcc hbox hb hstep
      go_wp2_with fail
      go_roundw
      case rel => exact ⟨k + 1, by omega, by go_num, by rw [HST.out]; exact HBOX.out, HB2.out⟩
      case measure => simp [intOf]; omega
    · obtain rfl : k = m := by omega
      have hcb := cell_of_one hbox
      rw [List.take_of_length_le (by have := HL.out; omega), ← HG.out] at hcb
      have HB2 := Lib.hid hb
      clear hbox hb
      go_wp2_with fail
      go_ret
      exact ⟨rfl, HB2.out⟩

/-- the number's box in a range over the iterator -/
theorem box_ownFrom (B : Nat) (t : TypeId) (f : List (Nat × UInt8) → Value) (C : Nat) : OwnFrom C (fun pre W => W.heap[B]? = some (.cells #[f pre] t (0, 0))) :=
  fun s W W' row hs hg hr => (hg.block B (Array.getElem?_eq_some_iff.1 hs).1 (fun e => by
    obtain ⟨_, o, ho, hc⟩ := hr B e.symm
    rw [hs] at ho
    cases ho
    simp [Obj.isCells] at hc)).trans hs

theorem bk_snd (l : List UInt8) : (upto (bk l) l.length).map (·.2) = l.reverse := by
  apply ext_getD (by simp [upto])
  intro j hj
  have hj' : j < l.length := by simpa [upto] using hj
  have e1 : ((upto (bk l) l.length).map (·.2)).getD j 0 = at8 l (l.length - 1 - j) := by simp [upto, List.getD, hj', bk]
  have e2 : l.reverse.getD j 0 = l.getD (l.length - 1 - j) 0 := by simp [List.getD, List.getElem?_reverse hj']
  rw [e1, e2]
  rfl

set_option maxRecDepth 100000 in
set_option maxHeartbeats 1000000 in
theorem get_small (ad : Option Addr) (n c : Nat) (l : List UInt8) (w : World) (hs : Bs w ad n c l) :
    Calls Try.prog 49 #[.slice ad n c, .bool false] w (RetN (.int .u64 (getN l false)) w) := by
  obtain ⟨m, hm⟩ : ∃ m, m = min n 8 := ⟨_, rfl⟩
  have hc := hs.le
  have hb8 := hs.head8
  rw [← hm] at hb8
  have hlen := hb8.len
  simp only [Nat.sub_zero] at hlen hb8
  have hmin : (if (8 : Int) < (n : Int) then (8 : Int) else (n : Int)) = (m : Int) := by split <;> omega
  have HL := Lib.hid hlen
  have HB8 := Lib.hid hb8
  have hm8 : m ≤ 8 := by omega
  have hmc : m ≤ c := by omega
  have HG : Hid (getN l false = numBE (l.take 8).reverse) := Lib.hid rfl
  clear hm hlen hb8 hs
  refine (callsIn_wide (n := 6)).1 (callsIn_of_wp_marks Try.func49 rfl trivial (wpIn_wide.2 ?_) rfl)
  simp only [Try.ntmps49, List.size_toArray, List.length_cons, List.length_nil, Nat.reduceAdd, Nat.reduceSub, Array.replicate_succ, Array.replicate_zero, List.push_toArray, List.append_toArray, List.nil_append, List.cons_append]
  go_wp2_with ((with_reducible show wpList _ _ _ (⟨some 14, _, _, _, _, _⟩ :: _) _ _); go_must (refine wpL_slice elB rfl (.tmp 10) none (some (.tmp 13)) rfl rfl 0 m (.inl ⟨rfl, rfl⟩) (.inr ⟨.i64, rfl⟩) (Nat.zero_le _) hmc ?_))
  intro ad1 had1
  rw [← had1.out] at HB8
  clear had1
  go_wp2_with (go_at_call 61; refine ((callsIn_wide (n := 6)).1 (back_any _ _ trivial rfl _ _ _ _)).mono ?_; rintro e w' ⟨rfl, rfl⟩)
  refine (wpIn_wide (n := 6)).1 ?_
  have hB1 : Below w.heap.size w (w.alloc (.cells #[.int .u64 0] 24)) := (Below.refl _ _).alloc (Nat.le_refl _) _
  have hB2 := hB1.alloc (by simp) (.cells #[.slice ad1 m c] 62)
  refine wpIn_rangeFunc_ownF rfl (by omega) (gf := 74) (lb := #[.pointer (some ⟨w.heap.size + 1, 0, none⟩)]) rfl trivial (enters_of Try.func74 (by kernel_rfl) rfl)
    (back_stops _ _ trivial rfl (by omega) (w.heap.size + 1) w.heap.size ad1 m c (l.take 8) (by omega) ((w.alloc (.cells #[.int .u64 0] 24)).alloc (.cells #[.slice ad1 m c] 62)) (by simp) (by simp; omega) (by have := heap_alloc_new (w.alloc (.cells #[.int .u64 0] 24)) (.cells #[.slice ad1 m c] 62); rwa [World.size_alloc] at this) (HB8.out.below hB2)
      (fun x hx h0 => by obtain ⟨b, off, h2, h3, _⟩ := HB8.out.at (j := 0) (by have := HL.out; omega); rw [h2] at hx; cases hx; exact h3))
    KpBox.trans (KpBox.put (by simp; omega) (by simp)) (Below.refl _ _) (fun _ => rfl)
    (fun pre W => W.heap[w.heap.size]? = some (.cells #[.int .u64 (numBE (pre.map (·.2)) : Nat)] 24 (0, 0)) ∧ Below w.heap.size w W)
    (fun _ _ _ => False)
    (OwnFrom.and (box_ownFrom _ _ (fun pre => .int .u64 (numBE (pre.map (·.2)) : Nat)) _) (ownFrom_below (Nat.le_refl _) (by simp; omega)))
    (fun _ _ _ _ _ hs _ _ => hs)
    ⟨(Below.heap_alloc _ _ _ (by simp)).trans (heap_alloc_new _ _), hB2⟩
    ?a1 ?assign ?body ?done ?stop
  case assign =>
    intro l x W K hK
    gi_wp2
    exact hK
  case body =>
    rintro l pre x W ⟨hbox, hb⟩ hlen
    have hsz : w.heap.size < W.heap.size := (Array.getElem?_eq_some_iff.1 hbox).1
    have hcb := cell_of_one hbox
    have hfb := free_of_one hbox
    have hor := or_byte (numBE (pre.map (·.2))) x.2 (numBE_lt7 _ (by simp; omega))
    have hu := u64_wrap_nat x.2.toNat (by have := x.2.toNat_lt; omega)
    have HBOX := Lib.hid (one_setCell hbox (u := .int .u64 ((stepN (numBE (pre.map (·.2))) x.2 : Nat) : Int)))
    have HB2 := Lib.hid (hb.setCell (p := ⟨w.heap.size, 0, none⟩) (Nat.le_refl _) (.int .u64 ((stepN (numBE (pre.map (·.2))) x.2 : Nat) : Int)))
    clear hbox hb
    gi_wp2
    refine ⟨KeepsOthers.setCell _ _ _, ⟨(Below.refl w.heap.size W).setCell (p := ⟨w.heap.size, 0, none⟩) (Nat.le_refl _) _, Below.heap_setCell _ _ _ _ (by simp)⟩, ?_, ?_⟩
    · rw [numBE_map_snoc]; exact HBOX.out
    · exact HB2.out
  case done =>
    rintro D ys W hD rfl ⟨hbox, hb⟩ hK
    have hlm := HL.out
    have e : numBE ((upto (bk (l.take 8)) m).map (·.2)) = getN l false := by
      rw [HG.out, ← bk_snd, ← hlm]
    rw [e] at hbox
    have hcb := cell_of_one hbox
    have HB2 := Lib.hid hb
    have HD : Hid _ := Lib.hid hD
    clear hlm e hbox hb hD
    go_wp2
    refine ⟨by simp, .inl ⟨_, _, rfl, run_takeDeferred hK, ?_⟩⟩
    exact ⟨_, results_tmp rfl _ _ _, rfl, HB2.out.trans (belowK_b (w := w) (Nat.le_refl _) W D _ _ (by have := HD.out; simp at this; omega) hK rfl rfl)⟩
  case stop =>
    rintro D c pre W _ _ h _
    exact h.elim
end Go.Proofs.Ytaadpldijnegkaa
/-
  The contracts of the other functions on numbers as bytes, and of the document's.
-/
namespace Go.Proofs.Ytaadpldijnegkaa
open Go.RowKit Go.Sort
set_option linter.unusedVariables false
set_option linter.unusedSimpArgs false

set_option maxRecDepth 100000 in
theorem get_any (ad : Option Addr) (n c : Nat) (l : List UInt8) (big : Bool) (w : World) (hs : Bs w ad n c l) :
    Calls Try.prog 49 #[.slice ad n c, .bool big] w (RetN (.int .u64 (getN l big)) w) := by
  cases big
  · exact get_small ad n c l w hs
  · exact get_big ad n c l w hs





end Go.Proofs.Ytaadpldijnegkaa
/-
  The contracts of the document's functions on bytes: Get, Turn, Padded, Same.
-/
namespace Go.Proofs.Ytaadpldijnegkaa
open Go.RowKit Go.Sort
set_option linter.unusedVariables false
set_option linter.unusedSimpArgs false

theorem stepN_int (a : Nat) (b : UInt8) : 256 * (a : Int) + ((b.toNat : Nat) : Int) = ((stepN a b : Nat) : Int) := by unfold stepN; omega
theorem at8_take (l : List UInt8) (k j : Nat) (h : j < k) : at8 (l.take k) j = at8 l j := by
  simp [at8, List.getD, h]

set_option maxRecDepth 100000 in
set_option maxHeartbeats 1000000 in
theorem refGet_any (ad : Option Addr) (n c : Nat) (l : List UInt8) (big : Bool) (w : World) (hs : Bs w ad n c l) :
    Calls Try.prog 42 #[.slice ad n c, .bool big] w fun e w' => e = .returned (.int .u64 (getN l big)) ∧ w = w' := by
  obtain ⟨m, hm⟩ : ∃ m, m = min n 8 := ⟨_, rfl⟩
  have hn := hs.len
  have hc := hs.le
  have hlen : m = (l.take 8).length := by rw [List.length_take]; omega
  have HS := Lib.hid hs
  have HM := Lib.hid hm
  have HL := Lib.hid hlen
  have HN := Lib.hid hn
  have hcase : (8 < (n : Int) ∧ m = 8) ∨ ((n : Int) ≤ 8 ∧ m = n) := by omega
  have hmn : m ≤ n := by omega
  have hm8 : m ≤ 8 := by omega
  have HG : Hid (getN l big = if big then numBE (l.take 8) else numFrom (l.take 8) m) := Lib.hid (by rw [hlen, numFrom_all]; rfl)
  clear hs hm hlen hn
  rcases hcase with ⟨h1, rfl⟩ | ⟨h1, rfl⟩
  all_goals
    cases big
    · go_enter Try.func42, Try.ntmps42
      go_wp2
      go_loop [6, 7] (fun v i => ∃ k : Nat, k ≤ (l.take 8).length ∧ i = .int .i64 k ∧ v = .int .u64 ((numFrom (l.take 8) k : Nat) : Int)) (fun _ i => 8 - (intOf i).toNat)
      case atStart => exact ⟨0, Nat.zero_le _, rfl, rfl⟩
      case round =>
        obtain ⟨k, hk, rfl, rfl⟩ := hrel
        rw [← HL.out] at hk
        by_cases hlt : k < (l.take 8).length
        · rw [← HL.out] at hlt
          have hst := numFrom_succ (l.take 8) k (by rw [← HL.out]; exact hlt)
          have hb := numFrom_lt7 (l.take 8) k (by omega)
          obtain ⟨j, hj⟩ : ∃ j, j = (l.take 8).length - 1 - k := ⟨_, rfl⟩
          rw [← HL.out] at hj
          have hj8 : j < 8 := by omega
          rw [← HL.out, ← hj, at8_take _ _ _ hj8] at hst
          obtain ⟨b, off, rfl, _, hcc⟩ := HS.out.at (j := 0) (by have := HN.out; omega)
          have hcx := hcc j (by have := HN.out; omega)
          obtain ⟨by8, hby⟩ : ∃ by8, by8 = at8 l j := ⟨_, rfl⟩
          rw [← hby] at hcx hst
          have HST := Lib.hid hst
          clear hst hby
          rw [hj] at hcx
          try simp only [Nat.reduceSub] at hcx
          clear hj hj8
          generalize numFrom (l.take 8) k = a at *
          have hb8 := by8.toNat_lt
          clear hcc
          go_wp2_with fail
          go_round
          case rel => exact ⟨k + 1, by have := HL.out; omega, by go_num, by rw [HST.out, ← stepN_int] <;> go_num⟩
          case measure => simp [intOf]; omega
        · have e := HG.out
          rw [if_neg (by simp)] at e
          obtain hk2 : k = (l.take 8).length := by have := HL.out; omega
          rw [hk2, ← HL.out, ← e]
          clear e hk2
          go_wp2_with fail
          go_ret
          exact ⟨rfl, rfl⟩
    · go_enter Try.func42, Try.ntmps42
      go_wp2
      go_loop [6, 7] (fun v i => ∃ k : Nat, k ≤ (l.take 8).length ∧ i = .int .i64 k ∧ v = .int .u64 ((numBE ((l.take 8).take k) : Nat) : Int)) (fun _ i => 8 - (intOf i).toNat)
      case atStart => exact ⟨0, Nat.zero_le _, rfl, rfl⟩
      case round =>
        obtain ⟨k, hk, rfl, rfl⟩ := hrel
        rw [← HL.out] at hk
        by_cases hlt : k < (l.take 8).length
        · have hst := numBE_take_succ (l.take 8) k hlt
          rw [← HL.out] at hlt
          have hb := numBE_lt7 ((l.take 8).take k) (by rw [List.length_take]; omega)
          have hk8 : k < 8 := by omega
          rw [at8_take _ _ _ hk8] at hst
          obtain ⟨b, off, rfl, _, hcc⟩ := HS.out.at (j := 0) (by have := HN.out; omega)
          have hcx := hcc k (by have := HN.out; omega)
          obtain ⟨by8, hby⟩ : ∃ by8, by8 = at8 l k := ⟨_, rfl⟩
          rw [← hby] at hcx hst
          have HST := Lib.hid hst
          clear hst hby
          generalize numBE ((l.take 8).take k) = a at *
          have hb8 := by8.toNat_lt
          clear hcc
          go_wp2_with fail
          go_round
          case rel => exact ⟨k + 1, by have := HL.out; omega, by go_num, by rw [HST.out, ← stepN_int] <;> go_num⟩
          case measure => simp [intOf]; omega
        · have e := HG.out
          simp only [if_true] at e
          rw [List.take_of_length_le (show (l.take 8).length ≤ k by omega), ← e]
          clear e
          obtain hk2 : k = (l.take 8).length := by have := HL.out; omega
          rw [← HL.out] at hk2
          go_wp2_with fail
          go_ret
          exact ⟨rfl, rfl⟩
end Go.Proofs.Ytaadpldijnegkaa
/-
  The contracts of the document's functions on bytes, continued: Turn, Padded, Same; what the anchor asks.
-/
namespace Go.Proofs.Ytaadpldijnegkaa
open Go.RowKit Go.Sort
set_option linter.unusedVariables false
set_option linter.unusedSimpArgs false

/-- how long a slice is -/
def lenV : Value → Nat
  | .slice _ n _ => n
  | _ => 0

theorem take_snocR (l : List UInt8) (k : Nat) (h : k < l.length) : l.reverse.take (k + 1) = l.reverse.take k ++ [at8 l (l.length - 1 - k)] := by
  rw [List.take_add_one, List.getElem?_eq_getElem (by simpa using h), at8_get l _ (by omega), List.getElem_reverse]; rfl



end Go.Proofs.Ytaadpldijnegkaa
/-
  What is known is carried from call to call.
-/
namespace Go.Proofs.Ytaadpldijnegkaa
open Go.RowKit Go.Sort
set_option linter.unusedVariables false
set_option linter.unusedSimpArgs false

theorem Below.next {A : Nat} {v w a w' : World} (h : Below A v w) (hA : A ≤ w.heap.size) (hu : Below w.heap.size w a) (hb : Below a.heap.size a w') : Below A v w' :=
  h.trans ((hu.trans (hb.mono hu.size)).mono hA)
theorem cB {w a w' : World} {ad : Option Addr} {n c : Nat} {l : List UInt8} (h : Hid (Bs w ad n c l)) (hu : Below w.heap.size w a) (hb : Below a.heap.size a w') : Hid (Bs w' ad n c l) :=
  Lib.hid ((h.out.below hu).below hb)
theorem cK {v w a w' : World} (h : Hid (Below v.heap.size v w)) (hu : Below w.heap.size w a) (hb : Below a.heap.size a w') : Hid (Below v.heap.size v w') :=
  Lib.hid (Below.next h.out h.out.size hu hb)
theorem cO {w a w' : World} {base : Nat} {e : TypeId} {size : Nat} {ad : Option Addr} {n c : Nat} {xs : List Value} (h : Hid (w.ownsRow base e size (.slice ad n c) n xs)) (hu : Below w.heap.size w a) (hb : Below a.heap.size a w') : Hid (w'.ownsRow base e size (.slice ad n c) n xs) :=
  Lib.hid (own_keep (own_keep h.out hu) hb)

/-- the compact forms: one step for all -/
theorem cU {v w a w' : World} (h : Hid (Below v.heap.size v w)) (hu : Below w.heap.size w a) (hb : Below a.heap.size a w') : Below w.heap.size w w' := hu.trans (hb.mono hu.size)
theorem cB1 {w w' : World} {ad : Option Addr} {n c : Nat} {l : List UInt8} (h : Hid (Bs w ad n c l)) (hE : Below w.heap.size w w') : Hid (Bs w' ad n c l) := Lib.hid (h.out.below hE)
theorem cK1 {v w w' : World} (h : Hid (Below v.heap.size v w)) (hE : Below w.heap.size w w') : Hid (Below v.heap.size v w') := Lib.hid (h.out.trans (hE.mono h.out.size))
theorem cO1 {w w' : World} {base : Nat} {e : TypeId} {size : Nat} {ad : Option Addr} {n c : Nat} {xs : List Value} (h : Hid (w.ownsRow base e size (.slice ad n c) n xs)) (hE : Below w.heap.size w w') : Hid (w'.ownsRow base e size (.slice ad n c) n xs) := Lib.hid (own_keep h.out hE)

end Go.Proofs.Ytaadpldijnegkaa
/-
  Laws of single operations as steps of a region that draws its order.
-/
namespace Go.Proofs.Ytaadpldijnegkaa
open Go.RowKit Go.Sort
set_option linter.unusedVariables false
set_option linter.unusedSimpArgs false

theorem step_run {P : Program} {w w' : World} {ops : Array Oper} {o : Oper} {a : Act} {K : Act → World → Prop} {Q : Exit → Act → World → Prop} {E : Prop} (hgd : Region.wanted o (yielded ops a.tmps) = true) {v : Value}
    (hrun : (execOp a.eval o).run P w = .ok (.value v) w') (h : K (a.put o.dst v) w') : if Region.wanted o (yielded ops a.tmps) = true then Oper.wp P o a w K Q else E := by
  rw [if_pos hgd]
  unfold Oper.wp
  rw [hrun]
  exact h

/-- 'append(s, x...)', s the call's own (or nil), x whatever: a step. -/
theorem step_append {P : Program} {w : World} {ops : Array Oper} {o : Oper} {a : Act} {K : Act → World → Prop} {Q : Exit → Act → World → Prop} {E : Prop} {t e : TypeId} {size bytes : Nat} {z : Value} (el : Elem P t e size bytes z)
    (hgd : Region.wanted o (yielded ops a.tmps) = true) (s x : Operand) (ho : o.op = .call { callee := .builtin .append, args := #[s, x], argTypes := #[t, t] })
    (base : Nat) {ad : Option Addr} {n c : Nat} {xs : List Value} (hs : a.eval s = .slice ad n c) (hown : w.ownsRow base e size (.slice ad n c) n xs)
    {ad2 : Option Addr} {m c2 : Nat} {news : List Value} (hx : a.eval x = .slice ad2 m c2) (hsl : Sl w ad2 m c2 size news) (h1 : ∀ u ∈ news, u.oneCell' = true)
    (h63 : n + m ≤ maxLen) (hbytes : (n + m) * bytes ≤ 140737488355328) (hbase : base ≤ w.heap.size)
    (h : ∀ ad' c' w', w'.ownsRow base e size (.slice ad' (n + m) c') (n + m) (xs ++ news) → w.grownBy w' (Value.ownBlock (.slice ad n c)) →
      (ad' = ad ∨ ad' = some ⟨w.heap.size, 0, none⟩) → (ad' = none ↔ ad = none ∧ m = 0) → K (a.put o.dst (.slice ad' (n + m) c')) w') :
    if Region.wanted o (yielded ops a.tmps) = true then Oper.wp P o a w K Q else E := by
  obtain ⟨ad', c', w', hr, h2, h3, h4, h5⟩ := run_append (P := P) (ty := o.type) el base hown hsl h1 h63 hbytes hbase
  refine step_run hgd (v := .slice ad' (n + m) c') (w' := w') ?_ (h ad' c' w' h2 h3 h4 h5)
  unfold execOp
  simp only [ho, resolve, invoke, builtin, Sem.run_bind, Sem.run_pure, Result.andThen_ok, List.map_toArray, List.map_cons, List.map_nil, hs, hx, hr]

theorem grown_alloc (w : World) (o : Obj) (row : Option Nat) : w.grownBy (w.alloc o) row := ⟨rfl, rfl, rfl, by simp, fun k hk _ => Below.heap_alloc w o k hk⟩
/-- 'append(s, v)', s the call's own, v laid as a literal of one element: what owned goes on owning, below B nothing has changed. -/
theorem wpL_push {P : Program} {w : World} {ops : Array Oper} {rest : List Oper} {o : Oper} {a : Act} {Q : Exit → Act → World → Prop} {t e : TypeId} {size bytes : Nat} {z : Value} (el : Elem P t e size bytes z)
    (hgd : Region.wanted o (yielded ops a.tmps) = true) (s x : Operand) (ho : o.op = .call { callee := .builtin .append, args := #[s, x], argTypes := #[t, t] })
    (base : Nat) {ad : Option Addr} {n c : Nat} {xs : List Value} (hs : a.eval s = .slice ad n c) (hown : w.ownsRow base e size (.slice ad n c) n xs)
    (cs : Array Value) {b e' : Nat} (m : Nat) (hx : a.eval x = .slice (some ⟨b, 0, none⟩) m m) (hb : b = w.heap.size) (hcs : cs.size = m * size) (h1 : ∀ u ∈ cs.toList, u.oneCell' = true) (hm : m ≤ 1000000)
    (h63 : n ≤ 140737488000000) (hbytes : (n + m) * bytes ≤ 140737488355328) (hbase : base ≤ w.heap.size) {B : Nat} {W : World} (hB : Below B W w) (hBb : B ≤ base)
    (h : ∀ ad' c' w', w'.ownsRow base e size (.slice ad' (n + m) c') (n + m) (xs ++ cs.toList) → Below B W w' → w.grownBy w' (Value.ownBlock (.slice ad n c)) → wpList P ops Q rest (a.put o.dst (.slice ad' (n + m) c')) w') :
    wpList P ops Q (o :: rest) a (w.alloc (.cells cs e')) := by
  subst hb
  refine wpL_append el hgd s x ho base hs (hown.alloc _) hx (Sl.lit w cs e' m size hcs (by unfold maxLen; omega)) h1 (by unfold maxLen; omega) hbytes (by simp; omega) ?_
  intro ad' c' w' h2 h3 h4 h5
  have hz : w.heap.size ≤ (w.alloc (.cells cs e')).heap.size := by simp
  refine h ad' c' w' h2 ((hB.alloc (by omega) _).grown h3 (by simp; omega) (fun k hk => Nat.le_trans hBb (ownBlock_ge hown k hk))) ?_
  exact World.grownBy.trans (grown_alloc w _ _) h3

theorem range_below {w w' : World} {b o : Nat} {cs : List Value} {B : Nat} (h : w.rangeAt b o cs) (hb : b < B) (hw : Below B w w') : w'.rangeAt b o cs :=
  fun j v hv => (hw.cell (p := ⟨b, o + j, none⟩) hb).trans (h j v hv)
theorem own_lit {v : World} {base b : Nat} {e : TypeId} (cs : Array Value) (size n : Nat) (hb : b = v.heap.size) (hbase : base ≤ v.heap.size) (hs : cs.size = n * size) (hn : n ≤ 1000000) : (v.alloc (.cells cs e)).ownsRow base e size (.slice (some ⟨b, 0, none⟩) n n) n cs.toList := by
  subst hb
  exact World.ownsRow_lit v cs n hbase (by unfold maxLen; omega) hs

/-- 'x := T{..}' of a variable that lies in memory: a new block, and the cells stored into it. -/
theorem wpL_new {P : Program} {w : World} {ops : Array Oper} {rest : List Oper} {o1 o2 : Oper} {a : Act} {Q : Exit → Act → World → Prop} (hg1 : o1.guard = none) (hg2 : o2.guard = none) (T : TypeId) (ho1 : o1.op = .alloc T) (x y : Operand) (ho2 : o2.op = .store T x y)
    (cs zs : Array Value) (hi : (P.info? T).map (fun i => (i.zero, i.size)) = some (some (.agg zs), cs.size)) (hz : zs.size = cs.size) (h1 : cs.all (·.oneCell') = true)
    (hx : ∀ p, (a.put o1.dst p).eval x = p) (hy : ∀ p, (a.put o1.dst p).eval y = .agg cs)
    (h : wpList P ops Q rest ((a.put o1.dst (.pointer (some ⟨w.heap.size, 0, none⟩))).put o2.dst undef) (w.alloc (.cells cs T))) :
    wpList P ops Q (o1 :: o2 :: rest) a w := by
  obtain ⟨hz0, hsz⟩ := zero_of_info hi
  refine wpL_run (v := .pointer (some ⟨w.heap.size, 0, none⟩)) (w' := w.alloc (.cells zs T)) (by simp [Region.wanted, hg1]) ?_ ?_
  · simp [execOp, ho1, Instr.alloc, hz0, newVar, newRow, Value.cells]
  · refine wpList_store_row hg2 T x y ho2 w.heap.size cs (hx _) (hy _) T zs (heap_alloc_last w _) hsz hz h1 ?_
    rw [World.setRow_alloc_new]
    exact h

/-- an operation of a drawn region taken first, its conditions in one -/
theorem tk {P : Program} {ops : Array Oper} {Q : Exit → Act → World → Prop} {md : Region.Mode} {S : World → Prop} (i : Nat) {oi : Oper} {v : Value} {fuel : Nat} {listed : Array Bool} {a : Act} {w : World} (hi : ops[i]? = some oi)
    (hk : (Region.noSelect ops && (Region.free md ops listed i && (Region.ready md ops listed).contains i)) = true) (hy : YieldsIf P ops S oi v a) (hS : S w)
    (h : wpAnyH P md ops Q S fuel (listed.setIfInBounds i true) (a.put oi.dst v) w) (hQ : ∀ c a w, Q (.panic c) (a.put oi.dst v) w → Q (.panic c) a w := by exact fun _ _ _ h => h) : wpAnyH P md ops Q S (fuel + 1) listed a w := by
  simp only [Bool.and_eq_true] at hk
  exact wpAnyH_take hi hk.1 hk.2.1 hk.2.2 hQ hy hS h
end Go.Proofs.Ytaadpldijnegkaa
/-
  A range over an iterator that has variables of its own in memory, and may write them between two rounds; the loop's body always goes on. Over any program.
-/
namespace Go.Proofs.Ytaadpldijnegkaa
open Go.RowKit Go.Sort Go.Shelf
set_option linter.unusedVariables false
set_option linter.unusedSimpArgs false

/-- What the iterator owes, to a loop whose body always goes on. St n A B: a step that the iterator may take between two rounds, having begun where the heap had n blocks. Kp: what a round keeps. S: what has come in all, and what lies in the end. -/
def SeqAll {α : Type} (F : Fence) (n : Nat) (P : Program) (g : Nat) (lb : Array Value) (encs : α → Array Value) (Kp : World → World → Prop) (St : Nat → World → World → Prop) (S : List α → World → Prop) (Pa : α → World → Prop) (N : Nat) (w : World) : Prop :=
  ∀ (l : Nat) (J : List α → World → Prop) (W : World), Below w.heap.size w W → (∀ s A B, J s A → St W.heap.size A B → J s B) →
    (∀ pre x W1, J pre W1 → Pa x W1 → pre.length < N → YieldAt F (n - 1) P l (encs x) W1 fun e W' => e = .returned (.bool true) ∧ J (pre ++ [x]) W' ∧ Kp W1 W') →
    J [] W →
    CallsIn F n P g (#[.func (.yield l) #[] #[]] ++ lb) W fun e W' => (∃ v, e = .returned v) ∧ ∃ xs, S xs W' ∧ J xs W'

/-- how a round ends -/
def goesOn {α : Type} (B : Nat) (Kp : World → World → Prop) (I : List α → World → Prop) (xs : List α) (W : World) : Exit → Act → World → Prop
  | .normal, _, W' => KeepsFrom B W W' ∧ Kp W W' ∧ I xs W'
  | _, _, _ => False

variable {F : Fence} {n : Nat} {P : Program}
theorem wpIn_rangeFunc_all {α : Type} {g : Operand} {ps : Array Tmp} {assign body : Code} {Q : Exit → Act → World → Prop} {a : Act} {w : World}
    (hro : F.round = none) (h1 : 1 ≤ n) {gf : Nat} {lb : Array Value} (hg : a.eval g = .func (.func gf) #[] lb) (hFg : F.fn gf) (eg : ∀ args w, (callFunc gf args).run P w = .ok (.enter gf args) w)
    {encs : α → Array Value} {Kp : World → World → Prop} {St : Nat → World → World → Prop} {S : List α → World → Prop} {Pa : α → World → Prop} {N : Nat} {w0 : World} (hseq : SeqAll F (n - 1) P gf lb encs Kp St S Pa N w0)
    (hKt : ∀ {A B C : World}, Kp A B → Kp B C → Kp A C) (hKb : ∀ (W : World) (l : Nat) (o o' : Obj), w.heap.size ≤ l → W.heap[l]? = some o → o.isCells = false → o.isWalk = false → Kp W (W.putObj l o')) (hb0 : Below w0.heap.size w0 w) (hps : ∀ x, (encs x).size = ps.size)
    (hSt : ∀ m A B k ob, St m A B → w.heap.size ≤ k → k < m → ob.isCells = false → A.heap[k]? = some ob → B.heap[k]? = some ob)
    (I : List α → World → Prop) (hI : OwnFrom w.heap.size I) (hIS : ∀ s A B m, w.heap.size ≤ m → I s A → St m A B → I s B) (hS : OwnFrom w.heap.size S) (h0 : I [] w)
    (Ax : α → Act → World → Prop) (hAx : ∀ x a', OwnFrom w.heap.size (fun (_ : Unit) W => Ax x a' W))
    (hassign : ∀ (l : Nat) (pre : List α) (x : α) (W : World) (K : Act → World → Prop), I pre W → Pa x W → (∀ a' W', KeepsFrom w.heap.size W W' → Kp W W' → I pre W' → Ax x a' W' → K a' W') →
      assign.wpIn (F.inRound l) (n - 1 - 1) P (Exit.then K (fun _ _ _ => False)) { tmps := (ps.zip (encs x)).foldl (fun t (p, v) => t.setIfInBounds p v) a.tmps, defers := [] } W)
    (hbody : ∀ (l : Nat) (pre : List α) (x : α) (a' : Act) (W : World), w.heap.size ≤ l → I pre W → Ax x a' W → pre.length < N → body.wpIn (F.inRound l) (n - 1 - 1) P (goesOn w.heap.size Kp I (pre ++ [x]) W) a' W)
    (hdone : ∀ (D : Nat) (xs : List α) (W : World), w.heap.size ≤ D → S xs W → I xs W → W.heap[D]? = some (.deferred (some [])) → Q .normal { a with defers := { target := .collected D, args := #[] } :: a.defers } W) :
    (Code.rangeFunc g ps assign body).wpIn F n P Q a w := by
  refine wpIn_rangeFunc fun fn hfn => ?_
  rw [hro]
  -- the loop's record, by its state
  obtain ⟨rc, hrc⟩ : ∃ rc : LoopState → Loop, rc = fun st => { state := st, pending := none, fn, tmps := a.tmps, params := ps, assign, body, defers := w.heap.size } := ⟨_, rfl⟩
  obtain ⟨V, hV⟩ : ∃ V, V = (w.alloc (.deferred (some []))).alloc (.loop (rc .ready)) := ⟨_, rfl⟩
  have hVs : V.heap.size = w.heap.size + 1 + 1 := by rw [hV]; simp
  have hl0 : V.heap[w.heap.size + 1]? = some (.loop (rc .ready)) := by
    have h := World.alloc_heap_new (w.alloc (.deferred (some []))) (.loop (rc .ready))
    rw [World.size_alloc] at h
    rw [hV]
    exact h
  have hd0 : V.heap[w.heap.size]? = some (.deferred (some [])) := by
    rw [hV]
    exact (Below.heap_alloc _ _ _ (by simp)).trans (World.alloc_heap_new w _)
  refine ⟨w.heap.size + 1, [{ target := .collected w.heap.size, args := #[] }], V, { target := .fn (.func gf) lb, args := #[.func (.yield (w.heap.size + 1)) #[] #[]] }, V, gf,
    #[.func (.yield (w.heap.size + 1)) #[] #[]] ++ lb, V, ?_, ?_, ?_, ?_, fun _ => h1, ?_⟩
  · rw [hV, hrc]
    exact run_enterLoop_outer _ _ _ _ _
  · simp only [resolve, hg]
    simp [go_sem]
  · intro f' hf'
    simp [Target.leads] at hf'
    subst hf'
    exact hFg
  · simp [invoke, go_sem, eg]
  have hbV : Below w0.heap.size w0 V := by
    rw [hV]
    exact hb0.trans ((((Below.refl _ w).alloc (Nat.le_refl _) _).alloc (by simp) _).mono hb0.size)
  have hIV : I [] V := by rw [hV]; exact hI.alloc _ (hI.alloc _ h0)
  refine (hseq (w.heap.size + 1) (fun pre W => I pre W ∧ W.heap[w.heap.size + 1]? = some (.loop (rc .ready)) ∧ W.heap[w.heap.size]? = some (.deferred (some []))) V hbV
    (fun s A B h st => ⟨hIS s A B _ (by omega) h.1 st, hSt _ A B _ _ st (by omega) (by omega) rfl h.2.1, hSt _ A B _ _ st (Nat.le_refl _) (by omega) rfl h.2.2⟩) ?_ ⟨hIV, hl0, hd0⟩).mono ?_
  · -- a round
    rintro pre x W ⟨hi, hl, hd⟩ hpa hlen
    have hy := run_yield (P := P) (args := encs x) hl (by rw [hrc]; exact hps x)
    rw [hrc] at hy
    refine ⟨fn, _, assign, body, hy, roundIn_of_wpIn hfn (hassign _ pre x W _ hi hpa fun a' Wa hkf hkp hia hax => ?_)⟩
    have hla := hkf.same _ _ (by omega) hl rfl
    have hda := hkf.same _ _ (Nat.le_refl _) hd rfl
    refine ⟨_, run_beginRound hla (by rw [hrc]), ?_⟩
    obtain ⟨Wb, hWb⟩ : ∃ Wb, Wb = Wa.putObj (w.heap.size + 1) (.loop { rc .ready with state := .busy }) := ⟨_, rfl⟩
    have hlb : Wb.heap[w.heap.size + 1]? = some (.loop { rc .ready with state := .busy }) := by rw [hWb]; exact World.putObj_heap_same (lt_of_block hla)
    have hdb : Wb.heap[w.heap.size]? = some (.deferred (some [])) := by rw [hWb]; exact (World.putObj_heap_other (by omega)).trans hda
    have hkb : Kp Wa Wb := by rw [hWb]; exact hKb _ _ _ _ (by omega) hla rfl rfl
    have hib : I pre Wb := by rw [hWb]; exact hI.putObj _ hia (by omega) hla rfl
    have hab : Ax x a' Wb := by rw [hWb]; exact (hAx x a').putObj (s := ()) _ hax (by omega) hla rfl
    rw [← hWb]
    refine wpIn_mono (hbody _ pre x a' Wb (by omega) hib hab hlen) ?_
    rintro e a3 W3 hp
    cases e with
    | normal =>
      obtain ⟨hk3, hkp3, hi3⟩ := hp
      have hl3 := hk3.same _ _ (by omega) hlb rfl
      have hd3 := hk3.same _ _ (Nat.le_refl _) hdb rfl
      have hr := run_endRound (P := P) none hl3
      rw [hrc] at hr hl3
      have hr' : (Instr.endRound (w.heap.size + 1) none).run P W3 = .ok (.bool (none : Option Code).isNone) (W3.putObj (w.heap.size + 1) (.loop (rc .ready))) := by rw [hrc]; exact hr
      refine ⟨_, _, hr', rfl, ⟨hI.putObj _ hi3 (by omega) hl3 rfl, World.putObj_heap_same (lt_of_block hl3), (World.putObj_heap_other (by omega)).trans hd3⟩, ?_⟩
      exact hKt hkp (hKt (hKt hkb hkp3) (hKb _ _ _ _ (by omega) hl3 rfl rfl))
    | ret => exact hp.elim
    | exit id => exact hp.elim
    | goto t => exact hp.elim
    | panic ch => exact hp.elim
    | outgrown => exact hp.elim
  · -- behind it
    rintro e W2 ⟨⟨v, rfl⟩, xs, hs, hi, hl, hd⟩
    refine ⟨none, _, by have := run_endLoop (P := P) hl (by rw [hrc]; simp); rw [hrc] at this; exact this, ?_⟩
    rw [hrc] at hl
    exact hdone _ xs _ (Nat.le_refl _) (hS.putObj _ hs (by omega) hl rfl) (hI.putObj _ hi (by omega) hl rfl) ((World.putObj_heap_other (by omega)).trans hd)
end Go.Proofs.Ytaadpldijnegkaa
/-
  Bytes out of a string, and what is appended to them. Over any program.
-/
namespace Go.Proofs.Ytaadpldijnegkaa
open Go.RowKit Go.Sort
set_option linter.unusedVariables false
set_option linter.unusedSimpArgs false

/-- block g (B or later) holds the bytes l at its head; c cells of it may be written -/
def Fresh (w : World) (B g n c : Nat) (l : List UInt8) : Prop :=
  ∃ cur e fz, w.heap[g]? = some (.cells cur e fz) ∧ B ≤ g ∧ n = l.length ∧ n ≤ c ∧ c ≤ maxLen ∧ c ≤ cur.size ∧ c ≤ fz.1 ∧ cur.toList.take n = BV l

theorem Fresh.lt {w : World} {B g n c : Nat} {l : List UInt8} (h : Fresh w B g n c l) : g < w.heap.size := by
  obtain ⟨cur, e, fz, hg, _⟩ := h
  exact lt_of_block hg
theorem Fresh.below {w w' : World} {B g n c : Nat} {l : List UInt8} (h : Fresh w B g n c l) (hb : Below w.heap.size w w') : Fresh w' B g n c l := by
  obtain ⟨cur, e, fz, hg, r⟩ := h
  exact ⟨cur, e, fz, (hb.block g (lt_of_block hg)).trans hg, r⟩
theorem Fresh.bs {w : World} {B g n c : Nat} {l : List UInt8} (h : Fresh w B g n c l) : Bs w (some ⟨g, 0, none⟩) n c l := by
  obtain ⟨cur, e, fz, hg, hB, hn, hnc, hcm, hcs, hf, ht⟩ := h
  refine ⟨by rw [BV_length]; omega, hnc, hcm, by simp, fun j u hj => ⟨_, rfl, ?_⟩⟩
  rw [addr_add, Nat.zero_add]
  have hjn : j < n := by have := (List.getElem?_eq_some_iff.1 hj).1; rw [BV_length] at this; omega
  rw [← ht, List.getElem?_take, if_pos hjn] at hj
  simpa [World.cell?, hg] using hj

theorem below_setCells {B b : Nat} (hB : B ≤ b) : ∀ (vs : List Value) (o : Nat) (w : World), Below B w (w.setCells b o vs)
  | [], _, w => Below.refl B w
  | v :: vs, o, w => by
    unfold World.setCells
    exact ((Below.refl B w).setCell (p := ⟨b, o, none⟩) hB v).trans (below_setCells hB vs (o + 1) _)
theorem run_conv {P : Program} {w : World} {src dst e : TypeId} (s : ByteArray) (hs : P.underlying src = some .string) (hd : P.underlying dst = some (.slice e)) (he : P.underlying e = some (.int .u8)) (hsz : s.size ≤ 140737488351232) :
    ∃ c w', (convert src dst (.string s)).run P w = .ok (.slice (some ⟨w.heap.size, 0, none⟩) s.size c) w' ∧ Fresh w' w.heap.size w.heap.size s.size c s.data.toList ∧ Below w.heap.size w w' := by
  refine ⟨grownCap w s.size 0 e, _, run_bytes_of_string w src dst e s hs hd he, ⟨_, _, _, heap_alloc_new w.drew _, Nat.le_refl _, Array.length_toList.symm, ?_, ?_, ?_, ?_, ?_⟩, ?_⟩
  · exact grownCap_ge w s.size 0 e
  · exact grownCap_le_maxLen w s.size 0 e (by unfold maxLen; omega)
  · simp [bytesRow]; omega
  · simp [bytesRow]; omega
  · unfold bytesRow BV
    rw [Array.toList_append, Array.toList_map]
    exact List.take_left' (by rw [List.length_map]; exact Array.length_toList)
  · exact ((Below.refl w.heap.size w).drew).alloc (Nat.le_refl _) _

/-- one byte is appended -/
theorem run_append_fresh {P : Program} {w : World} {t ty e : TypeId} {bytes : Nat} {z : Value} (el : Elem P t e 1 bytes z) {B g n c : Nat} {l : List UInt8} (h : Fresh w B g n c l)
    {ad2 : Option Addr} {m c2 : Nat} {news : List UInt8} (hsl : Bs w ad2 m c2 news) (hm : 0 < m) (h63 : n + m ≤ 140737488351232) (hby : bytes ≤ 1) (hBw : B ≤ w.heap.size) :
    ∃ ad' c' w', (Builtin.append_ #[t, t] ty #[.slice (some ⟨g, 0, none⟩) n c, .slice ad2 m c2]).run P w = .ok (.slice ad' (n + m) c') w' ∧ Bs w' ad' (n + m) c' (l ++ news) ∧ Below B w w' := by
  obtain ⟨i, hi, hz, hsize, hbb⟩ := info_parts el.info
  obtain ⟨cur, e', fz, hg, hB, hn, hnc, hcm, hcs, hf, ht⟩ := h
  have hml := hsl.len
  obtain ⟨b2, o2, rfl, _, hcc⟩ := hsl.at (j := 0) (by omega)
  have hl2 : (BV news).length = m * i.size := by rw [BV_length, hsize]; omega
  have hnews : ∀ j u, (BV news)[j]? = some u → w.cell? ((⟨b2, o2, none⟩ : Addr).add j) = some u := fun j u hj => by
    obtain ⟨y, hy, hc⟩ := hsl.2.2.2.2 j u hj
    cases hy
    exact hc
  by_cases hr : n + m ≤ c
  · have hrun := run_append_room_cells (P := P) w t ty e i el.ht hi g 0 n c ⟨b2, o2, none⟩ m c2 (BV news) hl2 hnews (BV_one _) hr
      (fun j hj => by
        have hjm : j < m := by rw [BV_length] at hj; omega
        rw [hsize]
        have : n + j < cur.size := by omega
        simp [World.cell?, hg, this])
      (fun j hj => by
        have hjm : j < m := by rw [BV_length] at hj; omega
        rw [hsize]
        simp [World.frozen?, hg]
        omega)
    refine ⟨some ⟨g, 0, none⟩, c, _, hrun, ?_, ?_⟩
    · refine ⟨by rw [BV_length, List.length_append]; omega, hr, hcm, by simp, fun j u hj => ⟨_, rfl, ?_⟩⟩
      rw [addr_add, Nat.zero_add, hsize]
      simp only [Nat.zero_add, Nat.mul_one]
      have hjl : j < n + m := by have := (List.getElem?_eq_some_iff.1 hj).1; rw [BV_length, List.length_append] at this; omega
      by_cases hjn : j < n
      · rw [World.cell?_setCells_out g _ n w ⟨g, j, none⟩ (fun _ _ => .inl hjn)]
        rw [BV_append, List.getElem?_append_left (by rw [BV_length]; omega), ← ht, List.getElem?_take, if_pos hjn] at hj
        simpa [World.cell?, hg] using hj
      · have hin := World.cell?_setCells_in g (BV news) n w (fun k hk => by
          have hkm : k < m := by rw [BV_length] at hk; omega
          have : n + k < cur.size := by omega
          simp [World.cell?, hg, this]) (j - n) (by rw [BV_length]; omega)
        rw [show n + (j - n) = j by omega] at hin
        rw [hin, ← hj, BV_append, List.getElem?_append_right (by rw [BV_length]; omega), show j - (BV l).length = j - n by rw [BV_length]; omega, List.getElem?_eq_getElem]
    · exact below_setCells hB _ _ w
  · obtain ⟨v', w', hrun, r1, r2⟩ := run_append_arg_grows (P := P) w t ty e i z 1 bytes el.ht hi hz hsize hbb el.hzs el.hsz ⟨g, 0, none⟩ n c (BV l) (by rw [BV_length]; omega)
      (fun j u hj => by
        have hjn : j < n := by have := (List.getElem?_eq_some_iff.1 hj).1; rw [BV_length] at this; omega
        rw [← ht, List.getElem?_take, if_pos hjn] at hj
        rw [addr_add, Nat.zero_add]
        simpa [World.cell?, hg] using hj) ⟨b2, o2, none⟩ m c2 (BV news) (by rw [BV_length]; omega) hnews (by omega) (by unfold maxLen; omega) (by
          have := Nat.mul_le_mul_left (n + m) hby
          omega)
    obtain ⟨ad', c', rfl, _⟩ := own_forms r1
    refine ⟨ad', c', w', hrun, ?_, ?_⟩
    · have := Sl.of_own r1
      rw [← BV_append] at this
      exact this
    · exact ((Below.refl B w).grown r2 hBw (fun k hk => by cases hk))

/-! ### as steps -/
theorem wpL_conv {P : Program} {w : World} {ops : Array Oper} {rest : List Oper} {o : Oper} {a : Act} {Q : Exit → Act → World → Prop} {src dst e : TypeId} (s : ByteArray) (hs : P.underlying src = some .string) (hd : P.underlying dst = some (.slice e)) (he : P.underlying e = some (.int .u8)) (hsz : s.size ≤ 140737488351232)
    (hg : Region.wanted o (yielded ops a.tmps) = true) (x : Operand) (hop : o.op = Op.convert src dst x) (hx : a.eval x = .string s)
    (h : ∀ c w', Fresh w' w.heap.size w.heap.size s.size c s.data.toList → Below w.heap.size w w' → wpList P ops Q rest (a.put o.dst (.slice (some ⟨w.heap.size, 0, none⟩) s.size c)) w') : wpList P ops Q (o :: rest) a w := by
  obtain ⟨c, w', hr, h1, h2⟩ := run_conv (P := P) (w := w) s hs hd he hsz
  refine wpL_run hg ?_ (h c w' h1 h2)
  simp only [execOp, hop, hx, Sem.run_bind, hr, Result.andThen_ok, Sem.run_pure]
theorem step_conv {P : Program} {w : World} {ops : Array Oper} {o : Oper} {a : Act} {K : Act → World → Prop} {Q : Exit → Act → World → Prop} {E : Prop} {src dst e : TypeId} (s : ByteArray) (hs : P.underlying src = some .string) (hd : P.underlying dst = some (.slice e)) (he : P.underlying e = some (.int .u8)) (hsz : s.size ≤ 140737488351232)
    (hg : Region.wanted o (yielded ops a.tmps) = true) (x : Operand) (hop : o.op = Op.convert src dst x) (hx : a.eval x = .string s)
    (h : ∀ c w', Fresh w' w.heap.size w.heap.size s.size c s.data.toList → Below w.heap.size w w' → K (a.put o.dst (.slice (some ⟨w.heap.size, 0, none⟩) s.size c)) w') : if Region.wanted o (yielded ops a.tmps) = true then Oper.wp P o a w K Q else E := by
  obtain ⟨c, w', hr, h1, h2⟩ := run_conv (P := P) (w := w) s hs hd he hsz
  refine step_run hg ?_ (h c w' h1 h2)
  simp only [execOp, hop, hx, Sem.run_bind, hr, Result.andThen_ok, Sem.run_pure]
theorem step_append_fresh {P : Program} {w : World} {ops : Array Oper} {o : Oper} {a : Act} {K : Act → World → Prop} {Q : Exit → Act → World → Prop} {E : Prop} {t e : TypeId} {bytes : Nat} {z : Value} (el : Elem P t e 1 bytes z)
    (hgd : Region.wanted o (yielded ops a.tmps) = true) (s x : Operand) (ho : o.op = .call { callee := .builtin .append, args := #[s, x], argTypes := #[t, t] })
    {B g n c : Nat} {l : List UInt8} (hs : a.eval s = .slice (some ⟨g, 0, none⟩) n c) (hf : Fresh w B g n c l) {ad2 : Option Addr} {m c2 : Nat} {news : List UInt8} (hx : a.eval x = .slice ad2 m c2) (hsl : Bs w ad2 m c2 news) (hm : 0 < m) (h63 : n + m ≤ 140737488351232) (hby : bytes ≤ 1) (hBw : B ≤ w.heap.size)
    (h : ∀ ad' c' w', Bs w' ad' (n + m) c' (l ++ news) → Below B w w' → K (a.put o.dst (.slice ad' (n + m) c')) w') :
    if Region.wanted o (yielded ops a.tmps) = true then Oper.wp P o a w K Q else E := by
  obtain ⟨ad', c', w', hr, h2, h3⟩ := run_append_fresh (P := P) (ty := o.type) el hf hsl hm h63 hby hBw
  refine step_run hgd (v := .slice ad' (n + m) c') (w' := w') ?_ (h ad' c' w' h2 h3)
  unfold execOp
  simp only [ho, resolve, invoke, builtin, Sem.run_bind, Sem.run_pure, Result.andThen_ok, List.map_toArray, List.map_cons, List.map_nil, hs, hx, hr]
end Go.Proofs.Ytaadpldijnegkaa
/-
  More laws of single operations: loads of rows, new variables, parts of slices. Over any program.
-/
namespace Go.Proofs.Ytaadpldijnegkaa
open Go.RowKit Go.Sort
set_option linter.unusedVariables false
set_option linter.unusedSimpArgs false

theorem cells_get {w : World} {g : Nat} {cs : List Value} {ty : TypeId} {fz : Nat × Nat} (h : w.heap[g]? = some (.cells cs.toArray ty fz)) (j : Nat) : w.cell? ⟨g, j, none⟩ = cs[j]? := by
  simp [World.cell?, h]
theorem range_block {w : World} {b : Nat} {cs : List Value} {ty : TypeId} {fz : Nat × Nat} (h : w.heap[b]? = some (.cells cs.toArray ty fz)) : w.rangeAt b 0 cs :=
  fun j v hv => by rw [Nat.zero_add, cells_get h, hv]

theorem wpL_newAt {P : Program} {w : World} {ops : Array Oper} {rest : List Oper} {o1 o2 : Oper} {a : Act} {Q : Exit → Act → World → Prop} (b : Nat) (hg1 : o1.guard = none) (hg2 : o2.guard = none) (T : TypeId) (ho1 : o1.op = .alloc T) (x y : Operand) (ho2 : o2.op = .store T x y)
    (cs zs : Array Value) (hi : (P.info? T).map (fun i => (i.zero, i.size)) = some (some (.agg zs), cs.size)) (hz : zs.size = cs.size) (h1 : cs.all (·.oneCell') = true)
    (hx : ∀ p, (a.put o1.dst p).eval x = p) (hy : ∀ p, (a.put o1.dst p).eval y = .agg cs) (hb : b = w.heap.size)
    (h : wpList P ops Q rest ((a.put o1.dst (.pointer (some ⟨b, 0, none⟩))).put o2.dst undef) (w.alloc (.cells cs T))) :
    wpList P ops Q (o1 :: o2 :: rest) a w := by
  subst hb
  exact wpL_new hg1 hg2 T ho1 x y ho2 cs zs hi hz h1 hx hy h
theorem range_last {v : World} {b : Nat} {cs : List Value} {T : TypeId} (hb : b = v.heap.size) : (v.alloc (.cells cs.toArray T)).rangeAt b 0 cs := by
  subst hb
  exact range_block (heap_alloc_last v _)
theorem yields_slice {P : Program} {ops : Array Oper} {o : Oper} {a : Act} {S : World → Prop} {t e : TypeId} {size bytes : Nat} {z : Value} (el : Elem P t e size bytes z)
    (hg : Region.wanted o (yielded ops a.tmps) = true) (x : Operand) (lo hi : Option Operand) (hop : o.op = Op.slice t x lo hi none) {ad : Option Addr} {n c : Nat} (hx : a.eval x = .slice ad n c) (l h : Nat)
    (hlo : (lo.map a.eval = none ∧ l = 0) ∨ ∃ k, lo.map a.eval = some (.int k (l : Int))) (hhi : (hi.map a.eval = none ∧ h = n) ∨ ∃ k, hi.map a.eval = some (.int k (h : Int))) (hl : l ≤ h) (hh : h ≤ c) :
    YieldsIf P ops S o (.slice (subAd ad c l size) (h - l) (c - l)) a := by
  refine Or.inl ⟨hg, fun w _ => ?_⟩
  simp only [execOp, hop, hx, Option.map_none, Sem.run_bind, run_slice (P := P) (w := w) el ad n c (lo.map a.eval) (hi.map a.eval) l h hlo hhi hl hh, Result.andThen_ok, Sem.run_pure]

theorem wpL_load {P : Program} {ops : Array Oper} {rest : List Oper} {o : Oper} {a : Act} {w : World} {Q : Exit → Act → World → Prop} (hgd : Region.wanted o (yielded ops a.tmps) = true) (ty : TypeId) (x : Operand) (ho : o.op = .load ty x)
    (b off : Nat) (hx : a.eval x = .pointer (some ⟨b, off, none⟩)) (cs : List Value) (d : TypeDesc) (hc : w.rangeAt b off cs)
    (hu : P.underlying ty = some d) (hd : d.isRow = true) (hi : (P.info? ty).map (·.size) = some cs.length)
    (h : wpList P ops Q rest (a.put o.dst (.agg cs.toArray)) w) : wpList P ops Q (o :: rest) a w := by
  refine wpL_run hgd ?_ h
  unfold execOp
  simp only [ho, hx, Instr.loadAt, Instr.sureAddr, Sem.run_bind, Sem.run_pure, Result.andThen_ok, run_loadVar_mid w b off ty cs d hc hu hd hi]

end Go.Proofs.Ytaadpldijnegkaa
/-
  More laws of single operations: boxes, new variables, results that lie in a cell. Over any program.
-/
namespace Go.Proofs.Ytaadpldijnegkaa
open Go.RowKit Go.Sort
set_option linter.unusedVariables false
set_option linter.unusedSimpArgs false

theorem wpL_box {P : Program} {w : World} {ops : Array Oper} {rest : List Oper} {o : Oper} {a : Act} {Q : Exit → Act → World → Prop} (hgd : Region.wanted o (yielded ops a.tmps) = true) (T : TypeId) (x : Operand) (ho : o.op = .box T x) (cs : Array Value) (hx : a.eval x = .agg cs)
    (h : ∀ w1, w1.heap[w.heap.size]? = some (.cells cs T (0, 0)) → Below w.heap.size w w1 → wpList P ops Q rest (a.put o.dst (.pointer (some ⟨w.heap.size, 0, none⟩))) w1) : wpList P ops Q (o :: rest) a w := by
  refine wpL_run hgd (v := .pointer (some ⟨w.heap.size, 0, none⟩)) (w' := w.alloc (.cells cs T)) ?_ (h _ (heap_alloc_last w _) ((Below.refl _ _).alloc (Nat.le_refl _) _))
  simp [execOp, ho, Instr.box, newVar, newRow, Value.cells, hx]
theorem wpL_alloc0 {P : Program} {w : World} {ops : Array Oper} {rest : List Oper} {o : Oper} {a : Act} {Q : Exit → Act → World → Prop} (hgd : Region.wanted o (yielded ops a.tmps) = true) (T : TypeId) (ho : o.op = .alloc T) (zs : Array Value) (n : Nat) (hi : (P.info? T).map (fun i => (i.zero, i.size)) = some (some (.agg zs), n))
    (h : ∀ w1, w1.heap[w.heap.size]? = some (.cells zs T (0, 0)) → Below w.heap.size w w1 → wpList P ops Q rest (a.put o.dst (.pointer (some ⟨w.heap.size, 0, none⟩))) w1) : wpList P ops Q (o :: rest) a w := by
  obtain ⟨hz0, hsz⟩ := zero_of_info hi
  refine wpL_run hgd (v := .pointer (some ⟨w.heap.size, 0, none⟩)) (w' := w.alloc (.cells zs T)) ?_ (h _ (heap_alloc_last w _) ((Below.refl _ _).alloc (Nat.le_refl _) _))
  simp [execOp, ho, Instr.alloc, hz0, newVar, newRow, Value.cells]
theorem wpL_newR {P : Program} {w : World} {ops : Array Oper} {rest : List Oper} {o1 o2 : Oper} {a : Act} {Q : Exit → Act → World → Prop} (hg1 : o1.guard = none) (hg2 : o2.guard = none) (T : TypeId) (ho1 : o1.op = .alloc T) (x y : Operand) (ho2 : o2.op = .store T x y)
    (cs zs : Array Value) (hi : (P.info? T).map (fun i => (i.zero, i.size)) = some (some (.agg zs), cs.size)) (hz : zs.size = cs.size) (h1 : cs.all (·.oneCell') = true)
    (hx : ∀ p, (a.put o1.dst p).eval x = p) (hy : ∀ p, (a.put o1.dst p).eval y = .agg cs)
    (h : ∀ w1, w1.heap[w.heap.size]? = some (.cells cs T (0, 0)) → Below w.heap.size w w1 → wpList P ops Q rest ((a.put o1.dst (.pointer (some ⟨w.heap.size, 0, none⟩))).put o2.dst undef) w1) :
    wpList P ops Q (o1 :: o2 :: rest) a w :=
  wpL_new hg1 hg2 T ho1 x y ho2 cs zs hi hz h1 hx hy (h _ (heap_alloc_last w _) ((Below.refl _ _).alloc (Nat.le_refl _) _))
theorem bodyPost_cell1 {P : Program} {fn : Func} {R : Ending → World → Prop} {a : Act} {w : World} {t4 : Tmp} {T : TypeId} {g : Nat} {cs : List Value} {d : TypeDesc}
    (h : fn.results = #[.cell t4 T]) (hp : a.tmps.getD t4 undef = .pointer (some ⟨g, 0, none⟩)) (hc : w.rangeAt g 0 cs) (hu : P.underlying T = some d) (hd : d.isRow = true) (hi : (P.info? T).map (·.size) = some cs.length)
    (hdf : a.defers = []) (hR : R (.returned (.agg cs.toArray)) w) : bodyPost P fn R .ret a w := by
  refine bodyPost_ret ?_ hdf hR
  have hp' : a.tmps[t4]?.getD undef = .pointer (some ⟨g, 0, none⟩) := by simpa using hp
  simp [results, h, hp', asAddr, run_loadVar_mid w g 0 T cs d hc hu hd hi]
theorem bodyPost_cell1x {P : Program} {fn : Func} {R : Ending → World → Prop} {a : Act} {w : World} {t1 t2 t4 : Tmp} {T : TypeId} {g : Nat} {cs : List Value} {d : TypeDesc}
    (h : fn.results = #[.cell t4 T, .tmp t1, .tmp t2]) (hp : a.tmps.getD t4 undef = .pointer (some ⟨g, 0, none⟩)) (hc : w.rangeAt g 0 cs) (hu : P.underlying T = some d) (hd : d.isRow = true) (hi : (P.info? T).map (·.size) = some cs.length)
    (hdf : a.defers = []) (hR : R (.returned (.tuple #[.agg cs.toArray, a.tmps.getD t1 undef, a.tmps.getD t2 undef])) w) : bodyPost P fn R .ret a w := by
  refine bodyPost_ret ?_ hdf hR
  have hp' : a.tmps[t4]?.getD undef = .pointer (some ⟨g, 0, none⟩) := by simpa using hp
  simp [results, h, hp', asAddr, run_loadVar_mid w g 0 T cs d hc hu hd hi]
theorem frz {w : World} {g : Nat} {cs : Array Value} {T : TypeId} (h : w.heap[g]? = some (.cells cs T (0, 0))) (j : Nat) : w.frozen? ⟨g, j, none⟩ = false := by
  simp [World.frozen?, h]
theorem cells11 {w : World} {g : Nat} {c0 c1 c2 c3 c4 c5 c6 c7 c8 c9 c10 : Value} {T : TypeId} {fz : Nat × Nat} (h : w.heap[g]? = some (.cells #[c0, c1, c2, c3, c4, c5, c6, c7, c8, c9, c10] T fz)) :
    w.cell? ⟨g, 0, none⟩ = some c0 ∧ w.cell? ⟨g, 1, none⟩ = some c1 ∧ w.cell? ⟨g, 2, none⟩ = some c2 ∧ w.cell? ⟨g, 3, none⟩ = some c3 ∧ w.cell? ⟨g, 4, none⟩ = some c4 ∧ w.cell? ⟨g, 5, none⟩ = some c5 ∧ w.cell? ⟨g, 6, none⟩ = some c6 ∧ w.cell? ⟨g, 7, none⟩ = some c7 ∧ w.cell? ⟨g, 8, none⟩ = some c8 ∧ w.cell? ⟨g, 9, none⟩ = some c9 ∧ w.cell? ⟨g, 10, none⟩ = some c10 := by
  refine ⟨?_, ?_, ?_, ?_, ?_, ?_, ?_, ?_, ?_, ?_, ?_⟩ <;> (rw [cells_get h]; rfl)
theorem set_same {w : World} {a : Addr} {u v : Value} (h : w.cell? a = some u) : (w.setCell a v).cell? a = some v := by
  have := World.cell?_setCell_same w a v (u := u) h
  exact this
theorem set_other {w : World} {g j k : Nat} {v : Value} (h : k ≠ j) : (w.setCell ⟨g, k, none⟩ v).cell? ⟨g, j, none⟩ = w.cell? ⟨g, j, none⟩ := World.cell?_setCell_other w _ _ v (by intro e; cases e; exact h rfl)
theorem block_set {w : World} {g j : Nat} {v : Value} {cs : Array Value} {T : TypeId} {fz : Nat × Nat} (h : w.heap[g]? = some (.cells cs T fz)) : (w.setCell ⟨g, j, none⟩ v).heap[g]? = some (.cells (cs.setIfInBounds j v) T fz) := by
  simp only [World.setCell, Array.getElem?_modify, h]
  simp
theorem block_other {w : World} {g j k : Nat} {v : Value} {ob : Obj} (hne : k ≠ g) (h : w.heap[k]? = some ob) : (w.setCell ⟨g, j, none⟩ v).heap[k]? = some ob := by
  rw [Below.heap_setCell _ _ _ _ hne]
  exact h
theorem range_arr {w : World} {b : Nat} {cs : List Value} {arr : Array Value} {ty : TypeId} {fz : Nat × Nat} (h : w.heap[b]? = some (.cells arr ty fz)) (e : arr = cs.toArray) : w.rangeAt b 0 cs := by
  subst e
  exact range_block h
theorem range11 {w : World} {g : Nat} {c0 c1 c2 c3 c4 c5 c6 c7 c8 c9 c10 : Value} (h0 : w.cell? ⟨g, 0, none⟩ = some c0) (h1 : w.cell? ⟨g, 1, none⟩ = some c1) (h2 : w.cell? ⟨g, 2, none⟩ = some c2) (h3 : w.cell? ⟨g, 3, none⟩ = some c3) (h4 : w.cell? ⟨g, 4, none⟩ = some c4) (h5 : w.cell? ⟨g, 5, none⟩ = some c5)
    (h6 : w.cell? ⟨g, 6, none⟩ = some c6) (h7 : w.cell? ⟨g, 7, none⟩ = some c7) (h8 : w.cell? ⟨g, 8, none⟩ = some c8) (h9 : w.cell? ⟨g, 9, none⟩ = some c9) (h10 : w.cell? ⟨g, 10, none⟩ = some c10) : w.rangeAt g 0 [c0, c1, c2, c3, c4, c5, c6, c7, c8, c9, c10] := by
  intro j v hj
  rw [Nat.zero_add]
  match j with
  | 0 => cases hj; exact h0
  | 1 => cases hj; exact h1
  | 2 => cases hj; exact h2
  | 3 => cases hj; exact h3
  | 4 => cases hj; exact h4
  | 5 => cases hj; exact h5
  | 6 => cases hj; exact h6
  | 7 => cases hj; exact h7
  | 8 => cases hj; exact h8
  | 9 => cases hj; exact h9
  | 10 => cases hj; exact h10
  | j + 11 => simp at hj
/-- a row stored whole into a variable's block -/
theorem wpL_storeRow {P : Program} {ops : Array Oper} {rest : List Oper} {o : Oper} {a : Act} {w : World} {Q : Exit → Act → World → Prop} (hgd : o.guard = none) (ty : TypeId) (x y : Operand) (ho : o.op = .store ty x y)
    (g : Nat) (cs : Array Value) (hx : a.eval x = .pointer (some ⟨g, 0, none⟩)) (hy : a.eval y = .agg cs) {T : TypeId} {old : Array Value} (hg : w.heap[g]? = some (.cells old T (0, 0))) (hi : (P.info? ty).map (·.size) = some cs.size) (hl : old.size = cs.size) (h1 : cs.all (·.oneCell') = true)
    (h : ∀ w1, w1.heap[g]? = some (.cells cs T (0, 0)) → w.grownBy w1 (some g) → wpList P ops Q rest (a.put o.dst undef) w1) : wpList P ops Q (o :: rest) a w :=
  wpList_store_row hgd ty x y ho g cs hx hy T _ hg hi hl h1 (h _ (setRow_heap w g _ _ T _ hg) ⟨rfl, rfl, rfl, by simp [World.setRow], fun k _ hk => setRow_other w g k _ (fun e => hk (by rw [e]))⟩)
end Go.Proofs.Ytaadpldijnegkaa
/-
  Laws of single operations by named blocks, without the chapters of blocks (written by program out of Fld .. Fld4, Opt5, PcKit).
-/
namespace Go.Proofs.Ytaadpldijnegkaa
open Go.RowKit Go.Sort
set_option linter.unusedVariables false
set_option linter.unusedSimpArgs false

instance {w w' : World} {k : Nat} {ob : Obj} : Ck (w.heap[k]? = some ob) w' w (w'.heap[k]? = some ob) := ⟨fun h hE => (hE.block k (lt_of_block h)).trans h⟩
/-! ### carrying facts over a store into block g -/
theorem cGg {w wd w1 : World} {k g : Nat} {ob : Obj} (h : Hid (w.heap[k]? = some ob)) (hE : Below w.heap.size w wd) (hg : wd.grownBy w1 (some g)) (hne : k ≠ g) : Hid (w1.heap[k]? = some ob) :=
  Lib.hid ((hg.block k (Nat.lt_of_lt_of_le (lt_of_block h.out) hE.size) (fun e => hne (by cases e; rfl))).trans ((hE.block k (lt_of_block h.out)).trans h.out))
theorem cKg {v w wd w1 : World} {g : Nat} (h : Hid (Below v.heap.size v w)) (hE : Below w.heap.size w wd) (hg : wd.grownBy w1 (some g)) (hb : v.heap.size ≤ g) : Hid (Below v.heap.size v w1) :=
  Lib.hid ((h.out.trans (hE.mono h.out.size)).grown hg (Nat.le_trans h.out.size hE.size) (fun k e => by cases e; exact hb))
theorem cOg {w wd w1 : World} {base g : Nat} {e : TypeId} {size : Nat} {ad : Option Addr} {n c : Nat} {xs : List Value} (h : Hid (w.ownsRow base e size (.slice ad n c) n xs)) (hE : Below w.heap.size w wd) (hg : wd.grownBy w1 (some g)) (hb : g < base) : Hid (w1.ownsRow base e size (.slice ad n c) n xs) := by
  have h' := own_keep h.out hE
  refine Lib.hid (h'.kept hg ?_)
  rcases own_form h' with ⟨h0, _⟩ | ⟨g', h1, h2, _⟩
  · rw [h0]; exact .inl rfl
  · rw [h1]
    refine .inr fun e => ?_
    simp [Value.ownBlock] at e
    omega
instance {w w1 : World} {k g : Nat} {ob : Obj} : Cg (w.heap[k]? = some ob) w1 g w (k ≠ g) (w1.heap[k]? = some ob) := ⟨fun wd h hE hg hs => (cGg (Lib.hid h) hE hg hs).out⟩
instance {v w w1 : World} {g : Nat} : Cg (Below v.heap.size v w) w1 g w (v.heap.size ≤ g) (Below v.heap.size v w1) := ⟨fun wd h hE hg hs => (cKg (Lib.hid h) hE hg hs).out⟩
instance {w w1 : World} {base g : Nat} {e : TypeId} {size : Nat} {ad : Option Addr} {n c : Nat} {xs : List Value} : Cg (w.ownsRow base e size (.slice ad n c) n xs) w1 g w (g < base) (w1.ownsRow base e size (.slice ad n c) n xs) := ⟨fun wd h hE hg hs => (cOg (Lib.hid h) hE hg hs).out⟩
/-! ### a variable, boxed -/
theorem wpL_boxG {P : Program} {w : World} {ops : Array Oper} {rest : List Oper} {o : Oper} {a : Act} {Q : Exit → Act → World → Prop} (hgd : Region.wanted o (yielded ops a.tmps) = true) (T : TypeId) (x : Operand) (ho : o.op = .box T x) (cs : Array Value) (hx : (a.eval x).cells = cs)
    (h : ∀ w1 g, Hid (g = w.heap.size) → w.heap.size ≤ g → g < w1.heap.size → w1.heap[g]? = some (.cells cs T (0, 0)) → Below w.heap.size w w1 → wpList P ops Q rest (a.put o.dst (.pointer (some ⟨g, 0, none⟩))) w1) : wpList P ops Q (o :: rest) a w := by
  refine wpL_run hgd (v := .pointer (some ⟨w.heap.size, 0, none⟩)) (w' := w.alloc (.cells cs T)) ?_ (h _ _ (Lib.hid rfl) (Nat.le_refl _) (by simp) (heap_alloc_last w _) ((Below.refl _ _).alloc (Nat.le_refl _) _))
  simp [execOp, ho, Instr.box, newVar, newRow, hx]
theorem wpL_allocG {P : Program} {w : World} {ops : Array Oper} {rest : List Oper} {o : Oper} {a : Act} {Q : Exit → Act → World → Prop} (hgd : Region.wanted o (yielded ops a.tmps) = true) (T : TypeId) (ho : o.op = .alloc T) (z : Value) (zs : Array Value) (n : Nat) (hi : (P.info? T).map (fun i => (i.zero, i.size)) = some (some z, n)) (hz : z.cells = zs)
    (h : ∀ w1 g, Hid (g = w.heap.size) → w.heap.size ≤ g → g < w1.heap.size → w1.heap[g]? = some (.cells zs T (0, 0)) → Below w.heap.size w w1 → wpList P ops Q rest (a.put o.dst (.pointer (some ⟨g, 0, none⟩))) w1) : wpList P ops Q (o :: rest) a w := by
  obtain ⟨hz0, hsz⟩ := zero_of_info hi
  refine wpL_run hgd (v := .pointer (some ⟨w.heap.size, 0, none⟩)) (w' := w.alloc (.cells zs T)) ?_ (h _ _ (Lib.hid rfl) (Nat.le_refl _) (by simp) (heap_alloc_last w _) ((Below.refl _ _).alloc (Nat.le_refl _) _))
  simp [execOp, ho, Instr.alloc, hz0, newVar, newRow, hz]

/-! ### a field, loaded -/
theorem run_loadF {P : Program} {w : World} {g k : Nat} {v : Value} {ty T : TypeId} {fz : Nat × Nat} {d : TypeDesc} {cs : Array Value} (hg : w.heap[g]? = some (.cells cs T fz)) (hk : cs[k]? = some v) (hu : P.underlying ty = some d) (hd : d.isRow = false) :
    (loadVar ty ⟨g, k, none⟩).run P w = .ok v w := by
  have hcell : w.cell? ⟨g, k, none⟩ = some v := by rw [cells_get hg]; simpa using hk
  have hagg : (isAgg ty).run P w = .ok false w := by
    unfold isAgg
    rw [Sem.run_bind, run_underlying hu w]
    cases d <;> simp_all
  simp [loadVar, Sem.run_bind, hagg, load, Sem.run, hcell]
theorem wpL_loadF {P : Program} {ops : Array Oper} {rest : List Oper} {o : Oper} {a : Act} {w : World} {Q : Exit → Act → World → Prop} (hgd : Region.wanted o (yielded ops a.tmps) = true) (ty : TypeId) (x : Operand) (ho : o.op = .load ty x)
    (g k : Nat) (hx : a.eval x = .pointer (some ⟨g, k, none⟩)) (v : Value) {cs : Array Value} {T : TypeId} {fz : Nat × Nat} (hg : w.heap[g]? = some (.cells cs T fz)) (hk : cs[k]? = some v) {d : TypeDesc} (hu : P.underlying ty = some d) (hd : d.isRow = false)
    (h : wpList P ops Q rest (a.put o.dst v) w) : wpList P ops Q (o :: rest) a w := by
  refine wpL_run hgd ?_ h
  unfold execOp
  simp only [ho, hx, Instr.loadAt, Instr.sureAddr, Sem.run_bind, Sem.run_pure, Result.andThen_ok, run_loadF (P := P) hg hk hu hd]
theorem yields_loadF {P : Program} {ops : Array Oper} {S : World → Prop} {o : Oper} {a : Act} (hw : Region.wanted o (yielded ops a.tmps) = true) (ty : TypeId) (x : Operand) (ho : o.op = .load ty x)
    (g k : Nat) (hx : a.eval x = .pointer (some ⟨g, k, none⟩)) (v : Value) {cs : Array Value} {T : TypeId} {fz : Nat × Nat} (hS : ∀ w, S w → w.heap[g]? = some (.cells cs T fz)) (hk : cs[k]? = some v) {d : TypeDesc} (hu : P.underlying ty = some d) (hd : d.isRow = false) : YieldsIf P ops S o v a :=
  .inl ⟨hw, fun w hw' => by
    unfold execOp
    simp only [ho, hx, Instr.loadAt, Instr.sureAddr, Sem.run_bind, Sem.run_pure, Result.andThen_ok, run_loadF (P := P) (hS w hw') hk hu hd]⟩

theorem wpL_index {P : Program} {ops : Array Oper} {rest : List Oper} {o : Oper} {a : Act} {w : World} {Q : Exit → Act → World → Prop} (hgd : Region.wanted o (yielded ops a.tmps) = true) {T : TypeId} (x y : Operand) (ho : o.op = .index T x y)
    (vx vy : Value) (hx : a.eval x = vx) (hy : a.eval y = vy) (v : Value) (hrun : ∀ w, (Instr.index T vx vy).run P w = .ok v w) (h : wpList P ops Q rest (a.put o.dst v) w) : wpList P ops Q (o :: rest) a w := by
  refine wpL_run hgd ?_ h
  unfold execOp
  simp only [ho, hx, hy, Sem.run_bind, hrun, Result.andThen_ok, Sem.run_pure]

theorem all1 (l : List Value) (h : l.all (·.oneCell') = true) : l.toArray.all (·.oneCell') = true := by simpa using h
/-- x[lo:hi], its length and capacity named -/
theorem wpL_sliceG {P : Program} {w : World} {ops : Array Oper} {rest : List Oper} {o : Oper} {a : Act} {Q : Exit → Act → World → Prop} {t e : TypeId} {size bytes : Nat} {z : Value} (el : Elem P t e size bytes z)
    (hg : Region.wanted o (yielded ops a.tmps) = true) (x : Operand) (lo hi : Option Operand) (hop : o.op = Op.slice t x lo hi none) {ad : Option Addr} {n c : Nat} (hx : a.eval x = .slice ad n c) (l h : Nat)
    (hlo : (lo.map a.eval = none ∧ l = 0) ∨ ∃ k, lo.map a.eval = some (.int k (l : Int))) (hhi : (hi.map a.eval = none ∧ h = n) ∨ ∃ k, hi.map a.eval = some (.int k (h : Int))) (hl : l ≤ h) (hh : h ≤ c)
    (m cc : Nat) (hm : h - l = m) (hcc : c - l = cc)
    (hK : ∀ ad', Hid (ad' = subAd ad c l size) → wpList P ops Q rest (a.put o.dst (.slice ad' m cc)) w) : wpList P ops Q (o :: rest) a w := by
  subst hm
  subst hcc
  exact wpL_slice el hg x lo hi hop hx l h hlo hhi hl hh hK
/-- the part of a slice, its length and capacity named -/
theorem set_grown (w : World) (g k : Nat) (v : Value) : w.grownBy (w.setCell ⟨g, k, none⟩ v) (some g) :=
  ⟨rfl, rfl, rfl, by simp [World.setCell], fun j _ hj => Below.heap_setCell _ _ _ _ (fun e => hj (by rw [e]))⟩
theorem run_storeF {P : Program} {w : World} {g k : Nat} {v : Value} {ty T : TypeId} {cs : Array Value} (hg : w.heap[g]? = some (.cells cs T (0, 0))) (hk : k < cs.size) (h1 : v.oneCell' = true) (hi : (P.info? ty).map (·.size) = some 1) :
    (Instr.storeAt ty (.pointer (some ⟨g, k, none⟩)) v).run P w = .ok () (w.setCell ⟨g, k, none⟩ v) := by
  have hc : v.cells = #[v] := by cases v <;> first | rfl | cases h1
  have hcell : w.cell? ⟨g, k, none⟩ = some cs[k] := by rw [cells_get hg]; simp [hk]
  have hz := frz hg k
  have := run_storeCells_cells (P := P) g k [v] 0 w (fun j hj => by
      have : j = 0 := by simpa using hj
      subst this
      simp [hcell]) (fun j hj => by
      have : j = 0 := by simpa using hj
      subst this
      simpa using hz) (fun u hu => by simp at hu; subst hu; exact h1)
  cases hq : P.info? ty with
  | none => simp [hq] at hi
  | some i =>
    have hs : i.size = 1 := by simpa [hq] using hi
    simp only [Nat.add_zero] at this
    simp [Instr.storeAt, Instr.sureAddr, storeVar, sizeOf, typeInfo, hq, hc, hs, this, World.setCells]
theorem wpL_storeF {P : Program} {ops : Array Oper} {rest : List Oper} {o : Oper} {a : Act} {w : World} {Q : Exit → Act → World → Prop} (hgd : o.guard = none) (ty : TypeId) (x y : Operand) (ho : o.op = .store ty x y)
    (g k : Nat) (v : Value) (hx : a.eval x = .pointer (some ⟨g, k, none⟩)) (hy : a.eval y = v) (h1 : v.oneCell' = true) {cs : Array Value} {T : TypeId} (hg : w.heap[g]? = some (.cells cs T (0, 0))) (hk : k < cs.size) (hi : (P.info? ty).map (·.size) = some 1)
    (cs' : Array Value) (he : cs.setIfInBounds k v = cs')
    (h : ∀ w1, w1.heap[g]? = some (.cells cs' T (0, 0)) → w.grownBy w1 (some g) → wpList P ops Q rest (a.put o.dst undef) w1) : wpList P ops Q (o :: rest) a w :=
  wpList_plain hgd fun _ hK => by
    unfold Oper.wp execOp
    simp only [ho, hx, hy, Sem.run_bind, Sem.run_pure, Result.andThen_ok, run_storeF (P := P) hg hk h1 hi]
    exact hK _ _ (h _ (by rw [block_set hg, he]) (set_grown w g k v))
theorem step_storeF {P : Program} {ops : Array Oper} {o : Oper} {a : Act} {w : World} {K : Act → World → Prop} {Q : Exit → Act → World → Prop} {E : Prop} (hgd : o.guard = none) (ty : TypeId) (x y : Operand) (ho : o.op = .store ty x y)
    (g k : Nat) (v : Value) (hx : a.eval x = .pointer (some ⟨g, k, none⟩)) (hy : a.eval y = v) (h1 : v.oneCell' = true) {cs : Array Value} {T : TypeId} (hg : w.heap[g]? = some (.cells cs T (0, 0))) (hk : k < cs.size) (hi : (P.info? ty).map (·.size) = some 1)
    (cs' : Array Value) (he : cs.setIfInBounds k v = cs')
    (h : ∀ w1, w1.heap[g]? = some (.cells cs' T (0, 0)) → w.grownBy w1 (some g) → K (a.put o.dst undef) w1) : if Region.wanted o (yielded ops a.tmps) = true then Oper.wp P o a w K Q else E := by
  rw [if_pos (by simp [Region.wanted, hgd])]
  unfold Oper.wp execOp
  simp only [ho, hx, hy, Sem.run_bind, Sem.run_pure, Result.andThen_ok, run_storeF (P := P) hg hk h1 hi]
  exact h _ (by rw [block_set hg, he]) (set_grown w g k v)
/-- a whole row, stored, in a drawn region -/
theorem step_storeR {P : Program} {ops : Array Oper} {o : Oper} {a : Act} {w : World} {K : Act → World → Prop} {Q : Exit → Act → World → Prop} {E : Prop} (hgd : o.guard = none) (ty : TypeId) (x y : Operand) (ho : o.op = .store ty x y)
    (g : Nat) (cs : Array Value) (hx : a.eval x = .pointer (some ⟨g, 0, none⟩)) (hy : a.eval y = .agg cs) {T : TypeId} {old : Array Value} (hg : w.heap[g]? = some (.cells old T (0, 0))) (hi : (P.info? ty).map (·.size) = some cs.size) (hl : old.size = cs.size) (h1 : cs.all (·.oneCell') = true)
    (h : ∀ w1, w1.heap[g]? = some (.cells cs T (0, 0)) → w.grownBy w1 (some g) → K (a.put o.dst undef) w1) : if Region.wanted o (yielded ops a.tmps) = true then Oper.wp P o a w K Q else E := by
  rw [if_pos (by simp [Region.wanted, hgd])]
  exact wp_store_row ty x y ho g cs hx hy T _ hg hi hl h1 (h _ (setRow_heap w g _ _ T _ hg) ⟨rfl, rfl, rfl, by simp [World.setRow], fun k _ hk => setRow_other w g k _ (fun e => hk (by rw [e]))⟩)
theorem bsz {w a : World} (h : Below w.heap.size w a) : w.heap.size ≤ a.heap.size := h.size
theorem step_loadR {P : Program} {ops : Array Oper} {o : Oper} {a : Act} {w : World} {K : Act → World → Prop} {Q : Exit → Act → World → Prop} {E : Prop} (hgd : o.guard = none) (ty : TypeId) (x : Operand) (ho : o.op = .load ty x)
    (b off : Nat) (hx : a.eval x = .pointer (some ⟨b, off, none⟩)) (cs : List Value) (d : TypeDesc) (hc : w.rangeAt b off cs) (hu : P.underlying ty = some d) (hd : d.isRow = true) (hi : (P.info? ty).map (·.size) = some cs.length)
    (h : K (a.put o.dst (.agg cs.toArray)) w) : if Region.wanted o (yielded ops a.tmps) = true then Oper.wp P o a w K Q else E := by
  rw [if_pos (by simp [Region.wanted, hgd])]
  exact wp_load_mid ty x ho b off hx cs d hc hu hd hi h
/-- all that lay at v is as it was, over an append to a row of the call's own -/
theorem cEa {v w a w' : World} {row : Option Nat} (hE : Hid (Below v.heap.size v w)) (hu : Below w.heap.size w a) (hgr : a.grownBy w' row) (hge : ∀ k, row = some k → v.heap.size ≤ k) : Hid (Below v.heap.size v w') :=
  Lib.hid ((hE.out.trans (hu.mono hE.out.size)).grown hgr (Nat.le_trans hE.out.size hu.size) hge)
theorem cE0 {v w a w' : World} (hE : Hid (Below v.heap.size v w)) (hu : Below w.heap.size w a) (hb : Below a.heap.size a w') : Hid (Below v.heap.size v w') :=
  Lib.hid ((hE.out.trans (hu.mono hE.out.size)).trans (hb.mono (Nat.le_trans hE.out.size hu.size)))
theorem cOa {w a w' : World} {base : Nat} {e : TypeId} {size : Nat} {ad : Option Addr} {n c : Nat} {xs : List Value} (h : Hid (w.ownsRow base e size (.slice ad n c) n xs)) (hu : Below w.heap.size w a) (hb : Below a.heap.size a w') : Hid (w'.ownsRow base e size (.slice ad n c) n xs) := Lib.hid (own_keep (own_keep h.out hu) hb)
theorem cEb {v w a w' : World} (hE : Hid (Below v.heap.size v w)) (hu : Below w.heap.size w a) (hb : Below v.heap.size a w') : Hid (Below v.heap.size v w') :=
  Lib.hid ((hE.out.trans (hu.mono hE.out.size)).trans hb)

theorem step_run2 {P : Program} {ops : Array Oper} {o : Oper} {a : Act} {w w' : World} {K : Act → World → Prop} {Q : Exit → Act → World → Prop} {E : Prop} (hgd : Region.wanted o (yielded ops a.tmps) = true) {v : Value}
    (hrun : (execOp a.eval o).run P w = .ok (.value v) w') (h : K (a.put o.dst v) w') : if Region.wanted o (yielded ops a.tmps) = true then Oper.wp P o a w K Q else E := by
  rw [if_pos hgd]
  unfold Oper.wp
  rw [hrun]
  exact h

theorem bodyPost_cell2 {P : Program} {fn : Func} {R : Ending → World → Prop} {a : Act} {w : World} {t1 t4 : Tmp} {T : TypeId} {g : Nat} {cs : List Value} {d : TypeDesc}
    (h : fn.results = #[.tmp t1, .cell t4 T]) (hp : a.tmps.getD t4 undef = .pointer (some ⟨g, 0, none⟩)) (hc : w.rangeAt g 0 cs) (hu : P.underlying T = some d) (hd : d.isRow = true) (hi : (P.info? T).map (·.size) = some cs.length)
    (hdf : a.defers = []) (hR : R (.returned (.tuple #[a.tmps.getD t1 undef, .agg cs.toArray])) w) : bodyPost P fn R .ret a w := by
  refine bodyPost_ret ?_ hdf hR
  have hp' : a.tmps[t4]?.getD undef = .pointer (some ⟨g, 0, none⟩) := by simpa using hp
  simp [results, h, hp', asAddr, run_loadVar_mid w g 0 T cs d hc hu hd hi]

/-- a spot, in memory -/
def spotC (p : Nat × Int) : List Value := [.int .i64 (p.1 : Int), .int .i64 p.2]
/-- a spot is stored in block g -/
theorem bodyPost_cell3 {P : Program} {fn : Func} {R : Ending → World → Prop} {a : Act} {w : World} {t1 t2 t4 : Tmp} {T : TypeId} {g : Nat} {cs : List Value} {d : TypeDesc}
    (h : fn.results = #[.tmp t1, .tmp t2, .cell t4 T]) (hp : a.tmps.getD t4 undef = .pointer (some ⟨g, 0, none⟩)) (hc : w.rangeAt g 0 cs) (hu : P.underlying T = some d) (hd : d.isRow = true) (hi : (P.info? T).map (·.size) = some cs.length)
    (hdf : a.defers = []) (hR : R (.returned (.tuple #[a.tmps.getD t1 undef, a.tmps.getD t2 undef, .agg cs.toArray])) w) : bodyPost P fn R .ret a w := by
  refine bodyPost_ret ?_ hdf hR
  have hp' : a.tmps[t4]?.getD undef = .pointer (some ⟨g, 0, none⟩) := by simpa using hp
  simp [results, h, hp', asAddr, run_loadVar_mid w g 0 T cs d hc hu hd hi]
theorem bodyPost_cell4 {P : Program} {fn : Func} {R : Ending → World → Prop} {a : Act} {w : World} {t1 t2 t3 t4 : Tmp} {T : TypeId} {g : Nat} {cs : List Value} {d : TypeDesc}
    (h : fn.results = #[.tmp t1, .tmp t2, .tmp t3, .cell t4 T]) (hp : a.tmps.getD t4 undef = .pointer (some ⟨g, 0, none⟩)) (hc : w.rangeAt g 0 cs) (hu : P.underlying T = some d) (hd : d.isRow = true) (hi : (P.info? T).map (·.size) = some cs.length)
    (hdf : a.defers = []) (hR : R (.returned (.tuple #[a.tmps.getD t1 undef, a.tmps.getD t2 undef, a.tmps.getD t3 undef, .agg cs.toArray])) w) : bodyPost P fn R .ret a w := by
  refine bodyPost_ret ?_ hdf hR
  have hp' : a.tmps[t4]?.getD undef = .pointer (some ⟨g, 0, none⟩) := by simpa using hp
  simp [results, h, hp', asAddr, run_loadVar_mid w g 0 T cs d hc hu hd hi]
theorem bodyPost_cellx1 {P : Program} {fn : Func} {R : Ending → World → Prop} {a : Act} {w : World} {t1 t4 : Tmp} {T : TypeId} {g : Nat} {cs : List Value} {d : TypeDesc}
    (h : fn.results = #[.cell t4 T, .tmp t1]) (hp : a.tmps.getD t4 undef = .pointer (some ⟨g, 0, none⟩)) (hc : w.rangeAt g 0 cs) (hu : P.underlying T = some d) (hd : d.isRow = true) (hi : (P.info? T).map (·.size) = some cs.length)
    (hdf : a.defers = []) (hR : R (.returned (.tuple #[.agg cs.toArray, a.tmps.getD t1 undef])) w) : bodyPost P fn R .ret a w := by
  refine bodyPost_ret ?_ hdf hR
  have hp' : a.tmps[t4]?.getD undef = .pointer (some ⟨g, 0, none⟩) := by simpa using hp
  simp [results, h, hp', asAddr, run_loadVar_mid w g 0 T cs d hc hu hd hi]
theorem step_allocG {P : Program} {w : World} {ops : Array Oper} {o : Oper} {a : Act} {Q : Exit → Act → World → Prop} {K : Act → World → Prop} {E : Prop} (hgd : Region.wanted o (yielded ops a.tmps) = true) (T : TypeId) (ho : o.op = .alloc T) (z : Value) (zs : Array Value) (n : Nat) (hi : (P.info? T).map (fun i => (i.zero, i.size)) = some (some z, n)) (hz : z.cells = zs)
    (h : ∀ w1 g, w.heap.size ≤ g → g < w1.heap.size → w1.heap[g]? = some (.cells zs T (0, 0)) → Below w.heap.size w w1 → K (a.put o.dst (.pointer (some ⟨g, 0, none⟩))) w1) :
    if Region.wanted o (yielded ops a.tmps) = true then Oper.wp P o a w K Q else E := by
  obtain ⟨hz0, hsz⟩ := zero_of_info hi
  refine step_run2 hgd (v := .pointer (some ⟨w.heap.size, 0, none⟩)) (w' := w.alloc (.cells zs T)) ?_ (h _ _ (Nat.le_refl _) (by simp) (heap_alloc_last w _) ((Below.refl _ _).alloc (Nat.le_refl _) _))
  simp [execOp, ho, Instr.alloc, hz0, newVar, newRow, hz]
theorem step_boxG {P : Program} {w : World} {ops : Array Oper} {o : Oper} {a : Act} {Q : Exit → Act → World → Prop} {K : Act → World → Prop} {E : Prop} (hgd : Region.wanted o (yielded ops a.tmps) = true) (T : TypeId) (x : Operand) (ho : o.op = .box T x) (cs : Array Value) (hx : (a.eval x).cells = cs)
    (h : ∀ w1 g, w.heap.size ≤ g → g < w1.heap.size → w1.heap[g]? = some (.cells cs T (0, 0)) → Below w.heap.size w w1 → K (a.put o.dst (.pointer (some ⟨g, 0, none⟩))) w1) :
    if Region.wanted o (yielded ops a.tmps) = true then Oper.wp P o a w K Q else E := by
  refine step_run2 hgd (v := .pointer (some ⟨w.heap.size, 0, none⟩)) (w' := w.alloc (.cells cs T)) ?_ (h _ _ (Nat.le_refl _) (by simp) (heap_alloc_last w _) ((Below.refl _ _).alloc (Nat.le_refl _) _))
  simp [execOp, ho, Instr.box, newVar, newRow, hx]
theorem step_makeG {P : Program} {w : World} {ops : Array Oper} {o : Oper} {a : Act} {Q : Exit → Act → World → Prop} {K : Act → World → Prop} {E : Prop} {t e : TypeId} {size bytes : Nat} {z : Value} (el : Elem P t e size bytes z) (hgd : Region.wanted o (yielded ops a.tmps) = true) (l c : Operand) (ho : o.op = .makeSlice t l c) (n : Nat) (hl : a.eval l = .int .i64 (n : Int)) (hc : a.eval c = .int .i64 (n : Int))
    (b2 : bytes * n ≤ 281474976710656) (b3 : n ≤ 9223372036854775807)
    (h : ∀ w1 g, w.heap.size ≤ g → g < w1.heap.size → w1.heap[g]? = some (.cells (madeCells z.cells (n * size)) e (0, 0)) → Below w.heap.size w w1 → K (a.put o.dst (.slice (some ⟨g, 0, none⟩) n n)) w1) :
    if Region.wanted o (yielded ops a.tmps) = true then Oper.wp P o a w K Q else E := by
  obtain ⟨i, hi, hz, hsize, hby⟩ := info_parts el.info
  have hr := run_make (P := P) w t e i z el.ht hi hz .i64 .i64 n n (by omega) (Int.le_refl _) (by rw [hby, ← Int.natCast_mul]; omega) (by omega)
  simp only [Int.toNat_natCast] at hr
  rw [hsize] at hr
  refine step_run2 hgd (v := .slice (some ⟨w.heap.size, 0, none⟩) n n) (w' := w.alloc (.cells (madeCells z.cells (n * size)) e)) ?_ (h _ _ (Nat.le_refl _) (by simp) (heap_alloc_last w _) ((Below.refl _ _).alloc (Nat.le_refl _) _))
  simp [execOp, ho, hl, hc, hr, Result.andThen]
end Go.Proofs.Ytaadpldijnegkaa
/-
  Laws of single operations within a fence (an iterator, a loop's round). Over any program. (As RngIn, over Fk.)
-/
namespace Go.Proofs.Ytaadpldijnegkaa
open Go.RowKit Go.Sort Go.Shelf
set_option linter.unusedVariables false
set_option linter.unusedSimpArgs false

section
variable {F : Fence} {n : Nat} {P : Program} {ops : Array Oper} {Q : Exit → Act → World → Prop} {a : Act} {w w' : World} {rest : List Oper} {o : Oper}
theorem slI {op : Op} {ty : TypeId} {pos : String} {af : Array Edge} {gd : Option (Nat × Bool)} (k : Nat) (h : wpListIn F n P ops Q (⟨some k, op, ty, pos, af, gd⟩ :: rest) a w) : wpListIn F n P ops Q (⟨some k, op, ty, pos, af, gd⟩ :: rest) a w := h
theorem slS {op : Op} {ty : TypeId} {x y : Operand} {pos : String} {af : Array Edge} {gd : Option (Nat × Bool)} (k : Nat) {t2 : TypeId} (h : wpListIn F n P ops Q (⟨none, .store t2 (.tmp k) y, ty, pos, af, gd⟩ :: rest) a w) : wpListIn F n P ops Q (⟨none, .store t2 (.tmp k) y, ty, pos, af, gd⟩ :: rest) a w := h
theorem wpLI_run (hF : ∀ f, F.fn f) (hgd : Region.wanted o (yielded ops a.tmps) = true) {v : Value} (hnd : ∀ c, o.op ≠ .defer c) (hrun : (execOp a.eval o).run P w = .ok (.value v) w') (h : wpListIn F n P ops Q rest (a.put o.dst v) w') : wpListIn F n P ops Q (o :: rest) a w := by
  refine wpListIn_step fun K hK => ?_
  rw [if_pos hgd]
  refine ⟨fun f _ => hF f, ?_⟩
  rw [Oper.semAt_eq _ _ _ hnd, hrun]
  exact hK _ _ h
theorem wpLI_skip (hF : ∀ f, F.fn f) (hgd : Region.wanted o (yielded ops a.tmps) = true) (hnd : ∀ c, o.op ≠ .defer c) (hrun : (execOp a.eval o).run P w = .ok .skip w') (h : wpListIn F n P ops Q rest (a.put o.dst undef) w') : wpListIn F n P ops Q (o :: rest) a w := by
  refine wpListIn_step fun K hK => ?_
  rw [if_pos hgd]
  refine ⟨fun f _ => hF f, ?_⟩
  rw [Oper.semAt_eq _ _ _ hnd, hrun]
  exact hK _ _ h
theorem wpLI_load (hF : ∀ f, F.fn f) (hgd : Region.wanted o (yielded ops a.tmps) = true) (ty : TypeId) (x : Operand) (ho : o.op = .load ty x)
    (b off : Nat) (hx : a.eval x = .pointer (some ⟨b, off, none⟩)) (cs : List Value) (d : TypeDesc) (hc : w.rangeAt b off cs)
    (hu : P.underlying ty = some d) (hd : d.isRow = true) (hi : (P.info? ty).map (·.size) = some cs.length)
    (h : wpListIn F n P ops Q rest (a.put o.dst (.agg cs.toArray)) w) : wpListIn F n P ops Q (o :: rest) a w := by
  refine wpLI_run hF hgd (by rw [ho]; intro c e; cases e) ?_ h
  unfold execOp
  simp only [ho, hx, Instr.loadAt, Instr.sureAddr, Sem.run_bind, Sem.run_pure, Result.andThen_ok, run_loadVar_mid w b off ty cs d hc hu hd hi]
theorem wpLI_loadF (hF : ∀ f, F.fn f) (hgd : Region.wanted o (yielded ops a.tmps) = true) (ty : TypeId) (x : Operand) (ho : o.op = .load ty x)
    (g k : Nat) (hx : a.eval x = .pointer (some ⟨g, k, none⟩)) (v : Value) {cs : Array Value} {T : TypeId} {fz : Nat × Nat} (hg : w.heap[g]? = some (.cells cs T fz)) (hk : cs[k]? = some v) {d : TypeDesc} (hu : P.underlying ty = some d) (hd : d.isRow = false)
    (h : wpListIn F n P ops Q rest (a.put o.dst v) w) : wpListIn F n P ops Q (o :: rest) a w := by
  refine wpLI_run hF hgd (by rw [ho]; intro c e; cases e) ?_ h
  unfold execOp
  simp only [ho, hx, Instr.loadAt, Instr.sureAddr, Sem.run_bind, Sem.run_pure, Result.andThen_ok, run_loadF (P := P) hg hk hu hd]
theorem run_storeR {ty : TypeId} {x y : Operand} (ho : o.op = .store ty x y) (g : Nat) (cs : Array Value) (hx : a.eval x = .pointer (some ⟨g, 0, none⟩)) (hy : a.eval y = .agg cs) {T : TypeId} {old : Array Value} (hg : w.heap[g]? = some (.cells old T (0, 0))) (hi : (P.info? ty).map (·.size) = some cs.size) (hl : old.size = cs.size) (h1 : cs.all (·.oneCell') = true) :
    (execOp a.eval o).run P w = .ok .skip (w.setRow g cs) := by
  unfold execOp
  simp only [ho, hx, hy, Instr.storeAt, Instr.sureAddr, Sem.run_bind, Sem.run_pure, Result.andThen_ok, run_storeVar_row w g T ty old cs hg hi hl h1]
theorem wpLI_storeRow (hF : ∀ f, F.fn f) (hgd : o.guard = none) (ty : TypeId) (x y : Operand) (ho : o.op = .store ty x y)
    (g : Nat) (cs : Array Value) (hx : a.eval x = .pointer (some ⟨g, 0, none⟩)) (hy : a.eval y = .agg cs) {T : TypeId} {old : Array Value} (hg : w.heap[g]? = some (.cells old T (0, 0))) (hi : (P.info? ty).map (·.size) = some cs.size) (hl : old.size = cs.size) (h1 : cs.all (·.oneCell') = true)
    (h : ∀ w1, w1.heap[g]? = some (.cells cs T (0, 0)) → w.grownBy w1 (some g) → wpListIn F n P ops Q rest (a.put o.dst undef) w1) : wpListIn F n P ops Q (o :: rest) a w :=
  wpLI_skip hF (by simp [Region.wanted, hgd]) (by rw [ho]; intro c e; cases e) (run_storeR ho g cs hx hy hg hi hl h1)
    (h _ (setRow_heap w g _ _ T _ hg) ⟨rfl, rfl, rfl, by simp [World.setRow], fun k _ hk => setRow_other w g k _ (fun e => hk (by rw [e]))⟩)
theorem wpLI_storeF (hF : ∀ f, F.fn f) (hgd : o.guard = none) (ty : TypeId) (x y : Operand) (ho : o.op = .store ty x y)
    (g k : Nat) (v : Value) (hx : a.eval x = .pointer (some ⟨g, k, none⟩)) (hy : a.eval y = v) (h1 : v.oneCell' = true) {cs : Array Value} {T : TypeId} (hg : w.heap[g]? = some (.cells cs T (0, 0))) (hk : k < cs.size) (hi : (P.info? ty).map (·.size) = some 1)
    (cs' : Array Value) (he : cs.setIfInBounds k v = cs')
    (h : ∀ w1, w1.heap[g]? = some (.cells cs' T (0, 0)) → w.grownBy w1 (some g) → wpListIn F n P ops Q rest (a.put o.dst undef) w1) : wpListIn F n P ops Q (o :: rest) a w :=
  wpLI_skip hF (by simp [Region.wanted, hgd]) (by rw [ho]; intro c e; cases e) (by
    unfold execOp
    simp only [ho, hx, hy, Sem.run_bind, Sem.run_pure, Result.andThen_ok, run_storeF (P := P) hg hk h1 hi])
    (h _ (by rw [block_set hg, he]) (set_grown w g k v))
theorem wpLI_newN {o1 o2 : Oper} (hF : ∀ f, F.fn f) (hg1 : o1.guard = none) (hg2 : o2.guard = none) (T : TypeId) (ho1 : o1.op = .alloc T) (x y : Operand) (ho2 : o2.op = .store T x y)
    (cs zs : Array Value) (hi : (P.info? T).map (fun i => (i.zero, i.size)) = some (some (.agg zs), cs.size)) (hz : zs.size = cs.size) (h1 : cs.all (·.oneCell') = true)
    (hx : ∀ p, (a.put o1.dst p).eval x = p) (hy : ∀ p, (a.put o1.dst p).eval y = .agg cs)
    (h : ∀ w1 g, w.heap.size ≤ g → g < w1.heap.size → w1.heap[g]? = some (.cells cs T (0, 0)) → Below w.heap.size w w1 → wpListIn F n P ops Q rest ((a.put o1.dst (.pointer (some ⟨g, 0, none⟩))).put o2.dst undef) w1) :
    wpListIn F n P ops Q (o1 :: o2 :: rest) a w := by
  obtain ⟨hz0, hsz⟩ := zero_of_info hi
  refine wpLI_run hF (v := .pointer (some ⟨w.heap.size, 0, none⟩)) (w' := w.alloc (.cells zs T)) (by simp [Region.wanted, hg1]) (by rw [ho1]; intro c e; cases e) ?_ ?_
  · simp [execOp, ho1, Instr.alloc, hz0, newVar, newRow, Value.cells]
  · refine wpLI_skip hF (by simp [Region.wanted, hg2]) (by rw [ho2]; intro c e; cases e) (run_storeR ho2 w.heap.size cs (hx _) (hy _) (heap_alloc_last w _) hsz hz h1) ?_
    rw [World.setRow_alloc_new]
    exact h _ _ (Nat.le_refl _) (by simp) (heap_alloc_last w _) ((Below.refl _ _).alloc (Nat.le_refl _) _)
end
end Go.Proofs.Ytaadpldijnegkaa
