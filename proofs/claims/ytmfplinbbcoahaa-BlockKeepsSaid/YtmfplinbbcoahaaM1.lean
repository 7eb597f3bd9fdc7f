/-
  Joined by program (merge.py): Base, Bytes, Octet.
-/
import Derived.WalkKit
import Derived.Handy
import Derived.Lib.Hide
import Derived.Lib.QuietBelow
import Derived.Maps.AppendAt
import Derived.KernelRfl
import Derived.ProofKit
import Derived.OpenShut
import Derived.ShutString
import Derived.ChangeOld
import Derived.Below
import Derived.WalkSpells
import Derived.Test.YtmfplinbbcoahaaProg
import Derived.RegionTactic
import Derived.BigRegion
/-
  A layer of laws over any program: slices that are read ('Sl'), slices that a call owns, and the operations on them, in one form each.
-/
namespace Go.Proofs.Ytmfplinbbcoahaa
open Go.RowKit Go.Sort
set_option linter.unusedVariables false
set_option linter.unusedSimpArgs false

/-- A slice type t of elements e: the row of the table of types that the laws ask. -/
structure Elem (P : Program) (t e : TypeId) (size bytes : Nat) (z : Value) : Prop where
  ht : P.underlying t = some (.slice e)
  info : (P.info? e).map (fun i => (i.zero, i.size, i.bytes)) = some (some z, size, bytes)
  hzs : z.cells.size = size
  hsz : 0 < size

/-- The value '.slice ad n c' reads as the cells vs (n elements of 'size' cells). -/
def Sl (w : World) (ad : Option Addr) (n c size : Nat) (vs : List Value) : Prop :=
  vs.length = n * size ∧ n ≤ c ∧ c ≤ maxLen ∧ (ad = none → n = 0 ∧ c = 0) ∧ ∀ j u, vs[j]? = some u → ∃ x, ad = some x ∧ w.cell? (x.add j) = some u

theorem cell_addr {w : World} {x : Addr} {u : Value} (h : w.cell? x = some u) : ∃ b off, x = ⟨b, off, none⟩ ∧ b < w.heap.size := by
  obtain ⟨b, off, sp⟩ := x
  have hb := World.block_lt_of_cell? w _ h
  cases sp with
  | none => exact ⟨b, off, rfl, hb⟩
  | some s =>
    exfalso
    simp only [World.cell?] at h
    split at h <;> simp at h

theorem addr_add (b off j : Nat) : (⟨b, off, none⟩ : Addr).add j = ⟨b, off + j, none⟩ := by
  unfold Addr.add
  split
  · subst_vars; rfl
  · rfl

theorem add_addr {x : Addr} {j b o : Nat} (h : x.add j = ⟨b, o, none⟩) : x.block = b ∧ (j = 0 → x = ⟨b, o, none⟩) ∧ x.off + j = o := by
  unfold Addr.add at h
  split at h
  · subst_vars; simp
  · obtain ⟨xb, xo, xs⟩ := x
    simp at h
    refine ⟨h.1, by omega, h.2⟩

theorem add_zero (x : Addr) : x.add 0 = x := by unfold Addr.add; simp

/-- An element that is there: the address written out, and its cell. -/
theorem Sl.at {w : World} {ad : Option Addr} {n c size : Nat} {vs : List Value} (h : Sl w ad n c size vs) {j : Nat} (hj : j < vs.length) :
    ∃ b off, ad = some ⟨b, off, none⟩ ∧ b < w.heap.size ∧ ∀ i (hi : i < vs.length), w.cell? ⟨b, off + i, none⟩ = some vs[i] := by
  have h0 : 0 < vs.length := by omega
  obtain ⟨x, hx, hc⟩ := h.2.2.2.2 0 vs[0] (by simp [h0])
  rw [add_zero] at hc
  obtain ⟨b, off, rfl, hb⟩ := cell_addr hc
  refine ⟨b, off, hx, hb, fun i hi => ?_⟩
  obtain ⟨y, hy, hcy⟩ := h.2.2.2.2 i vs[i] (by simp [hi])
  rw [hx] at hy
  cases hy
  rwa [addr_add] at hcy

theorem Sl.len {w : World} {ad : Option Addr} {n c size : Nat} {vs : List Value} (h : Sl w ad n c size vs) : vs.length = n * size := h.1
theorem Sl.le {w : World} {ad : Option Addr} {n c size : Nat} {vs : List Value} (h : Sl w ad n c size vs) : n ≤ c := h.2.1

theorem Sl.of_same {w w' : World} {ad : Option Addr} {n c size : Nat} {vs : List Value} (h : Sl w ad n c size vs)
    (hs : ∀ x j u, ad = some x → w.cell? (x.add j) = some u → w'.cell? (x.add j) = some u) : Sl w' ad n c size vs :=
  ⟨h.1, h.2.1, h.2.2.1, h.2.2.2.1, fun j u hj => let ⟨x, hx, hc⟩ := h.2.2.2.2 j u hj; ⟨x, hx, hs x j u hx hc⟩⟩

/-- What lay below a heap's size reads as it did. -/
theorem Sl.below {w w' : World} {ad : Option Addr} {n c size : Nat} {vs : List Value} (h : Sl w ad n c size vs) (hb : Below w.heap.size w w') : Sl w' ad n c size vs :=
  h.of_same fun x j u _ hc => by
    have hlt := World.block_lt_of_cell? w _ hc
    rw [hb.cell hlt]; exact hc

/-- .. and behind writes to one row, if that is another block. -/
theorem Sl.grown {w w' : World} {row : Option Nat} {ad : Option Addr} {n c size : Nat} {vs : List Value} (h : Sl w ad n c size vs) (hg : w.grownBy w' row) (hne : ∀ x, ad = some x → row ≠ some x.block) : Sl w' ad n c size vs :=
  h.of_same fun x j u hx hc => by
    have hb : (x.add j).block = x.block := by unfold Addr.add; split <;> rfl
    exact hg.cell hc (by rw [hb]; exact fun e => hne x hx e.symm)

theorem Sl.nil (w : World) (size : Nat) : Sl w none 0 0 size [] := ⟨by simp, Nat.le_refl _, by simp [maxLen], fun _ => ⟨rfl, rfl⟩, fun j u h => by simp at h⟩

/-- What a call owns reads so. -/
theorem Sl.of_own {w : World} {base : Nat} {e : TypeId} {size : Nat} {ad : Option Addr} {n c : Nat} {xs : List Value} (h : w.ownsRow base e size (.slice ad n c) n xs) : Sl w ad n c size xs := by
  obtain ⟨hl, h2 | ⟨g, cap, cur, hv, hb, hg, hnc, hcm, hcs, ht⟩⟩ := h
  · obtain ⟨hv, rfl⟩ := h2
    simp at hv
    obtain ⟨rfl, rfl⟩ := hv
    have : xs = [] := by cases xs with | nil => rfl | cons => simp at hl
    subst this
    exact Sl.nil w size
  · simp at hv
    obtain ⟨rfl, rfl⟩ := hv
    refine ⟨hl, hnc, hcm, by simp, fun j u hj => ⟨_, rfl, ?_⟩⟩
    exact World.ownsRow.cells (w := w) ⟨hl, .inr ⟨g, c, cur, rfl, hb, hg, hnc, hcm, hcs, ht⟩⟩ rfl j u hj

/-- A slice of numbers, of bytes .. that came in, as the proof's frame hands it. -/
theorem Sl.of_row {k : IntKind} {w : World} {a : Option Addr} {len cap : Nat} {zs : List Int}
    (h : (a = none ∧ len = 0 ∧ cap = 0 ∧ zs = []) ∨ ∃ x, a = some x ∧ len ≤ cap ∧ cap ≤ maxLen ∧ zs.length = cap ∧ (∀ i, i < zs.length → w.cell? (x.add i) = some (.int k (zs.getD i 0))) ∧ ∀ n ∈ zs, (Lit.int k n).wf = true) :
    Sl w a len cap 1 ((zs.take len).map (Value.int k)) := by
  rcases h with ⟨rfl, rfl, rfl, rfl⟩ | ⟨x, rfl, hlc, hcm, hl, hc, _⟩
  · exact Sl.nil w 1
  · refine ⟨by simp; omega, hlc, hcm, by simp, fun j u hj => ⟨x, rfl, ?_⟩⟩
    simp only [List.getElem?_map, List.getElem?_take] at hj
    by_cases hlt : j < len
    · rw [if_pos hlt, List.getElem?_eq_getElem (by omega)] at hj
      simp at hj
      subst hj
      rw [hc j (by omega)]
      simp [List.getD, List.getElem?_eq_getElem (show j < zs.length by omega)]
    · rw [if_neg hlt] at hj
      simp at hj

/-- a literal's new block -/
theorem Sl.lit (w : World) (cs : Array Value) (e : TypeId) (n size : Nat) (hn : cs.size = n * size) (hm : n ≤ maxLen) : Sl (w.alloc (.cells cs e)) (some ⟨w.heap.size, 0, none⟩) n n size cs.toList :=
  ⟨by simpa using hn, Nat.le_refl _, hm, by simp, fun j u hj => ⟨_, rfl, by
    rw [addr_add, Nat.zero_add, World.cell?_alloc_at _ _ _ _ rfl]
    simpa using hj⟩⟩

theorem ints_one (k : IntKind) (zs : List Int) : ∀ u ∈ zs.map (Value.int k), u.oneCell' = true := by
  intro u hu
  obtain ⟨x, _, rfl⟩ := List.mem_map.1 hu
  rfl

/-- An operation whose run is known. -/
theorem wpL_run {P : Program} {w w' : World} {ops : Array Oper} {rest : List Oper} {o : Oper} {a : Act} {Q : Exit → Act → World → Prop} (hgd : Region.wanted o (yielded ops a.tmps) = true) {v : Value}
    (hrun : (execOp a.eval o).run P w = .ok (.value v) w') (h : wpList P ops Q rest (a.put o.dst v) w') : wpList P ops Q (o :: rest) a w := by
  refine wpList_step fun K hK => ?_
  rw [if_pos hgd]
  unfold Oper.wp
  rw [hrun]
  exact hK _ _ h

theorem own_forms {w : World} {base : Nat} {e : TypeId} {size : Nat} {v : Value} {n : Nat} {xs : List Value} (h : w.ownsRow base e size v n xs) : ∃ ad c, v = .slice ad n c ∧ (ad = none ∧ n = 0 ∧ c = 0 ∨ ∃ g, ad = some ⟨g, 0, none⟩) := by
  rcases h.2 with ⟨rfl, rfl⟩ | ⟨g, cap, cur, rfl, _⟩
  · exact ⟨none, 0, rfl, .inl ⟨rfl, rfl, rfl⟩⟩
  · exact ⟨_, _, rfl, .inr ⟨g, rfl⟩⟩

theorem run_append {P : Program} {w : World} {t ty e : TypeId} {size bytes : Nat} {z : Value} (el : Elem P t e size bytes z)
    (base : Nat) {ad : Option Addr} {n c : Nat} {xs : List Value} (hown : w.ownsRow base e size (.slice ad n c) n xs)
    {ad2 : Option Addr} {m c2 : Nat} {news : List Value} (hsl : Sl w ad2 m c2 size news) (h1 : ∀ u ∈ news, u.oneCell' = true)
    (h63 : n + m ≤ maxLen) (hbytes : (n + m) * bytes ≤ 140737488355328) (hbase : base ≤ w.heap.size) :
    ∃ ad' c' w', (Builtin.append_ #[t, t] ty #[.slice ad n c, .slice ad2 m c2]).run P w = .ok (.slice ad' (n + m) c') w' ∧ w'.ownsRow base e size (.slice ad' (n + m) c') (n + m) (xs ++ news) ∧ w.grownBy w' (Value.ownBlock (.slice ad n c)) ∧
      (ad' = ad ∨ ad' = some ⟨w.heap.size, 0, none⟩) ∧ (ad' = none ↔ ad = none ∧ m = 0) := by
  obtain ⟨i, hi, hz, hsize, hby⟩ := info_parts el.info
  cases ad2 with
  | none =>
    obtain ⟨hl, hmc, hcm, hnil, hcells⟩ := hsl
    obtain ⟨rfl, rfl⟩ := hnil rfl
    have : news = [] := by cases news with | nil => rfl | cons => simp at hl
    subst this
    exact ⟨ad, c, w, run_append_owned_none (P := P) (w := w) base t ty e i size el.ht hi _ n xs hown, by simpa using hown, World.grownBy.refl _ _, .inl rfl, by simp⟩
  | some ad2 =>
    obtain ⟨hl, hmc, hcm, hnil, hcells⟩ := hsl
    obtain ⟨v', w', hr, hown', hgrow, hnil', hat⟩ := run_append_own_at (P := P) w base t ty e i z size bytes el.ht hi hz hsize hby el.hzs el.hsz _ n xs hown ad2 m c2 news hl (fun j u hj => by
      obtain ⟨y, hy, hc⟩ := hcells j u hj
      cases hy
      exact hc) h1 h63 hbytes hbase
    obtain ⟨ad', c', rfl, hf⟩ := own_forms hown'
    obtain ⟨ad0, c0, hv0, hadf⟩ := own_forms hown
    simp only [Value.slice.injEq, true_and] at hv0
    obtain ⟨rfl, rfl⟩ := hv0
    refine ⟨ad', c', w', hr, hown', hgrow, ?_, ?_⟩
    · rcases hf with ⟨rfl, _⟩ | ⟨g, rfl⟩ <;> rcases hadf with ⟨rfl, _⟩ | ⟨g', rfl⟩ <;> simp [Value.ownBlock] at hat ⊢ <;> omega
    · constructor
      · rintro rfl
        rcases hf with ⟨_, h0, rfl⟩ | ⟨g, hg⟩
        · rw [h0] at hnil'
          have h2 := hnil'.1 rfl
          have h3 := h2.1
          simp at h3
          exact ⟨h3.1, h2.2⟩
        · cases hg
      · rintro ⟨rfl, rfl⟩
        rcases hadf with ⟨_, rfl, rfl⟩ | ⟨g, hg⟩
        · have h2 := hnil'.2 ⟨rfl, rfl⟩
          simp at h2
          exact h2.1
        · cases hg

/-- 'append(s, x...)', s the call's own (or nil), x whatever. -/
theorem wpL_append {P : Program} {w : World} {ops : Array Oper} {rest : List Oper} {o : Oper} {a : Act} {Q : Exit → Act → World → Prop} {t e : TypeId} {size bytes : Nat} {z : Value} (el : Elem P t e size bytes z)
    (hgd : Region.wanted o (yielded ops a.tmps) = true) (s x : Operand) (ho : o.op = .call { callee := .builtin .append, args := #[s, x], argTypes := #[t, t] })
    (base : Nat) {ad : Option Addr} {n c : Nat} {xs : List Value} (hs : a.eval s = .slice ad n c) (hown : w.ownsRow base e size (.slice ad n c) n xs)
    {ad2 : Option Addr} {m c2 : Nat} {news : List Value} (hx : a.eval x = .slice ad2 m c2) (hsl : Sl w ad2 m c2 size news) (h1 : ∀ u ∈ news, u.oneCell' = true)
    (h63 : n + m ≤ maxLen) (hbytes : (n + m) * bytes ≤ 140737488355328) (hbase : base ≤ w.heap.size)
    (h : ∀ ad' c' w', w'.ownsRow base e size (.slice ad' (n + m) c') (n + m) (xs ++ news) → w.grownBy w' (Value.ownBlock (.slice ad n c)) →
      (ad' = ad ∨ ad' = some ⟨w.heap.size, 0, none⟩) → (ad' = none ↔ ad = none ∧ m = 0) → wpList P ops Q rest (a.put o.dst (.slice ad' (n + m) c')) w') :
    wpList P ops Q (o :: rest) a w := by
  obtain ⟨ad', c', w', hr, h2, h3, h4, h5⟩ := run_append (P := P) (ty := o.type) el base hown hsl h1 h63 hbytes hbase
  refine wpL_run hgd (v := .slice ad' (n + m) c') (w' := w') ?_ (h ad' c' w' h2 h3 h4 h5)
  unfold execOp
  simp only [ho, resolve, invoke, builtin, Sem.run_bind, Sem.run_pure, Result.andThen_ok, List.map_toArray, List.map_cons, List.map_nil, hs, hx, hr]

/-- 'make([]T, n)'. -/
theorem wpL_make {P : Program} {w : World} {ops : Array Oper} {rest : List Oper} {o : Oper} {a : Act} {Q : Exit → Act → World → Prop} {t e : TypeId} {size bytes : Nat} {z : Value} (el : Elem P t e size bytes z)
    (hg : Region.wanted o (yielded ops a.tmps) = true) (l c : Operand) (hop : o.op = Op.makeSlice t l c) (base : Nat) {kl kc : IntKind} {L C : Int} (n : Nat) (hl : a.eval l = .int kl L) (hc : a.eval c = .int kc C) (hL : L = (n : Int)) (hC : C = (n : Int))
    (b2 : bytes * n ≤ 281474976710656) (b3 : n ≤ maxLen) (b4 : base ≤ w.heap.size)
    (hK : ∀ w', w'.ownsRow base e size (.slice (some ⟨w.heap.size, 0, none⟩) n n) n (madeCells z.cells (n * size)).toList → w.grownBy w' none → wpList P ops Q rest (a.put o.dst (.slice (some ⟨w.heap.size, 0, none⟩) n n)) w') :
    wpList P ops Q (o :: rest) a w := by
  obtain ⟨i, hi, hz, hsize, hby⟩ := info_parts el.info
  obtain ⟨w', hrun, r1, r2⟩ := run_make_full (P := P) w base t e i z size el.ht hi hz hsize kl kc n (by rw [hby]; exact b2) b3 b4
  subst hL
  subst hC
  refine wpL_run hg ?_ (hK w' r1 r2)
  simp [execOp, hop, hl, hc, hrun, Result.andThen]

/-! ### x[lo:hi] -/
/-- where the part from element l on begins -/
def subAd (ad : Option Addr) (c l size : Nat) : Option Addr := if c = l then ad else ad.map (·.add (l * size))
theorem add_block (x : Addr) (j : Nat) : (x.add j).block = x.block := by unfold Addr.add; split <;> rfl
theorem add_add {w : World} (x : Addr) (i j : Nat) {u : Value} (h : w.cell? (x.add (i + j)) = some u) : ((x.add i).add j) = x.add (i + j) := by
  unfold Addr.add
  by_cases h1 : i = 0
  · subst h1; simp
  · by_cases h2 : j = 0
    · subst h2; simp
    · simp [h1, h2, Nat.add_assoc]
theorem subAd_none {ad : Option Addr} {c l size : Nat} : subAd ad c l size = none ↔ ad = none := by unfold subAd; split <;> simp
theorem subAd_block {ad : Option Addr} {c l size : Nat} {y : Addr} (h : subAd ad c l size = some y) : ∃ x, ad = some x ∧ y.block = x.block := by
  unfold subAd at h
  split at h
  · exact ⟨y, h, rfl⟩
  · cases ad with
    | none => simp at h
    | some x =>
      simp only [Option.map_some, Option.some.injEq] at h
      exact ⟨x, rfl, by rw [← h, add_block]⟩

theorem Sl.sub {w : World} {ad : Option Addr} {n c size : Nat} {vs : List Value} (hs : Sl w ad n c size vs) {l h : Nat} (hl : l ≤ h) (hh : h ≤ n) :
    Sl w (subAd ad c l size) (h - l) (c - l) size ((vs.drop (l * size)).take ((h - l) * size)) := by
  obtain ⟨h1, h2, h3, h4, h5⟩ := hs
  have hle : l * size + (h - l) * size ≤ vs.length := by
    rw [h1, ← Nat.add_mul]
    exact Nat.mul_le_mul_right _ (by omega)
  refine ⟨by rw [List.length_take, List.length_drop]; omega, by omega, by omega, fun e => ?_, fun j u hj => ?_⟩
  · have := h4 (subAd_none.1 e); omega
  · rw [List.getElem?_take] at hj
    split at hj
    · rename_i hlt
      rw [List.getElem?_drop] at hj
      obtain ⟨x, hx, hc⟩ := h5 _ u hj
      subst hx
      unfold subAd
      by_cases e : c = l
      · exfalso
        have : h - l = 0 := by omega
        rw [this] at hlt
        omega
      · rw [if_neg e]
        exact ⟨_, rfl, by rw [add_add x _ _ hc]; exact hc⟩
    · cases hj

theorem run_slice {P : Program} {w : World} {t e : TypeId} {size bytes : Nat} {z : Value} (el : Elem P t e size bytes z) (ad : Option Addr) (n c : Nat) (lo hi : Option Value) (l h : Nat)
    (hlo : (lo = none ∧ l = 0) ∨ ∃ k, lo = some (.int k (l : Int))) (hhi : (hi = none ∧ h = n) ∨ ∃ k, hi = some (.int k (h : Int))) (hl : l ≤ h) (hh : h ≤ c) :
    (Instr.sliceAt t (.slice ad n c) lo hi none).run P w = .ok (.slice (subAd ad c l size) (h - l) (c - l)) w := by
  obtain ⟨i, hi', hz, hsize, hby⟩ := info_parts el.info
  subst hsize
  unfold subAd
  rcases hlo with ⟨rfl, rfl⟩ | ⟨k, rfl⟩ <;> rcases hhi with ⟨rfl, rfl⟩ | ⟨k', rfl⟩ <;>
    simp [Instr.sliceAt, Instr.slice, Instr.sliceBounds, Instr.sliceBound, asIntOf, run_underlying el.ht, sizeOf, typeInfo, hi', hl, hh]

theorem wpL_slice {P : Program} {w : World} {ops : Array Oper} {rest : List Oper} {o : Oper} {a : Act} {Q : Exit → Act → World → Prop} {t e : TypeId} {size bytes : Nat} {z : Value} (el : Elem P t e size bytes z)
    (hg : Region.wanted o (yielded ops a.tmps) = true) (x : Operand) (lo hi : Option Operand) (hop : o.op = Op.slice t x lo hi none) {ad : Option Addr} {n c : Nat} (hx : a.eval x = .slice ad n c) (l h : Nat)
    (hlo : (lo.map a.eval = none ∧ l = 0) ∨ ∃ k, lo.map a.eval = some (.int k (l : Int))) (hhi : (hi.map a.eval = none ∧ h = n) ∨ ∃ k, hi.map a.eval = some (.int k (h : Int))) (hl : l ≤ h) (hh : h ≤ c)
    (hK : ∀ ad', Hid (ad' = subAd ad c l size) → wpList P ops Q rest (a.put o.dst (.slice ad' (h - l) (c - l))) w) : wpList P ops Q (o :: rest) a w := by
  have hrun := run_slice (P := P) (w := w) el ad n c (lo.map a.eval) (hi.map a.eval) l h hlo hhi hl hh
  refine wpL_run hg ?_ (hK _ rfl)
  simp only [execOp, hop, hx, Option.map_none, Sem.run_bind, hrun, Result.andThen_ok, Sem.run_pure]

theorem ownBlock_ge {w : World} {base : Nat} {e : TypeId} {size : Nat} {v : Value} {n : Nat} {xs : List Value} (h : w.ownsRow base e size v n xs) : ∀ k, v.ownBlock = some k → base ≤ k := fun k hk => (h.lt k hk).1

/-- What reads below 'base' reads so behind writes to a row of one's own. -/
theorem Sl.past {w w' : World} {base : Nat} {e : TypeId} {size' : Nat} {v : Value} {m : Nat} {xs : List Value} {ad : Option Addr} {n c size : Nat} {vs : List Value} (h : Sl w ad n c size vs)
    (hown : w.ownsRow base e size' v m xs) (hg : w.grownBy w' v.ownBlock) (hlt : ∀ x, ad = some x → x.block < base) : Sl w' ad n c size vs :=
  h.grown hg fun x hx e => by have := ownBlock_ge hown _ e; have := hlt x hx; omega

theorem grown_drew (w : World) (row : Option Nat) : w.grownBy w.drew row := ⟨rfl, rfl, rfl, Nat.le_refl _, fun _ _ _ => rfl⟩

theorem below_drewN (B : Nat) (w : World) (n : Nat) : Below B w (w.drewN n) := ⟨rfl, rfl, rfl, Nat.le_refl _, fun _ _ => rfl⟩

theorem bcell {W w1 : World} (hb : Below W.heap.size W w1) : (∀ b o, b < W.heap.size → w1.cell? ⟨b, o, none⟩ = W.cell? ⟨b, o, none⟩) ∧ (∀ b o, b < W.heap.size → w1.frozen? ⟨b, o, none⟩ = W.frozen? ⟨b, o, none⟩) :=
  ⟨fun b o h => hb.cell (p := ⟨b, o, none⟩) h, fun b o h => hb.frozen (p := ⟨b, o, none⟩) h⟩

theorem below_of_regrown {B : Nat} {w : World} (hB : B ≤ w.heap.size) (d : Nat) (os : Array Obj) : Below B w (grow (redrawn w d) os) := (below_regrown w d os).mono hB

/-! ### What came in: arrays of numbers -/
section
variable {H : Type} {enc : TypeId × Value → H} {P : Program} {w : World} {base : Nat} {spare : Nat → Bool} {held : Bool}

theorem mapM_ints {k : IntKind} {e : TypeId} (he : P.underlying e = some (.int k)) (hce : P.cellsOf e = 1) {fuel : Nat} {cs : List Value} :
    ∀ (n m : Nat) (xs : List (DataW H × List MemPlace)), m + n ≤ cs.length → (List.range' m n).mapM (fun i => DataW.trod enc P w base spare held fuel e ((cs.drop (i * P.cellsOf e)).take (P.cellsOf e))) = some xs →
      ∃ zs : List Int, zs.length = n ∧ (cs.drop m).take n = zs.map (Value.int k) ∧ ∀ x ∈ zs, (Lit.int k x).wf = true
  | 0, m, xs, _, _ => ⟨[], rfl, by simp, by simp⟩
  | n + 1, m, xs, hl, h => by
    rw [List.range'_succ, List.mapM_cons] at h
    obtain ⟨x, hx, h⟩ := Option.bind_eq_some_iff.1 h
    obtain ⟨ys, hys, _⟩ := Option.bind_eq_some_iff.1 h
    obtain ⟨zs, hz1, hz2, hz3⟩ := mapM_ints he hce n (m + 1) ys (by omega) hys
    rw [hce, Nat.mul_one] at hx
    have hcell : (cs.drop m).take 1 = [cs[m]'(by omega)] := by
      rw [List.drop_eq_getElem_cons (by omega)]
      rfl
    rw [hcell] at hx
    obtain ⟨z, hz, hwf⟩ : ∃ z, cs[m]'(by omega) = .int k z ∧ (Lit.int k z).wf = true := by
      cases fuel with
      | zero => simp [DataW.trod] at hx
      | succ f =>
        simp only [DataW.trod, he] at hx
        split at hx <;> simp_all
    refine ⟨z :: zs, by simp [hz1], ?_, by simpa [hwf] using hz3⟩
    rw [List.drop_eq_getElem_cons (by omega), List.take_succ_cons, hz2, hz]
    rfl

theorem open_int_array {k : IntKind} {t e : TypeId} {n : Nat} (ht : P.underlying t = some (.array n e)) (he : P.underlying e = some (.int k)) (hce : P.cellsOf e = 1) (hct : P.cellsOf t = n)
    {r : Reach} {b0 : Nat} {v : Value} {d : DataW H} {ps : List MemPlace} (hv : Value.okWide P w r b0 t v) (h : DataW.Trod enc P w base spare held t v d ps) :
    ∃ zs : List Int, zs.length = n ∧ v = .agg (zs.map (Value.int k)).toArray ∧ ∀ x ∈ zs, (Lit.int k x).wf = true := by
  simp only [Value.okWide, ht] at hv
  obtain ⟨cs, rfl, hsz, _⟩ := hv
  obtain ⟨fuel, hf⟩ := h
  cases fuel with
  | zero => simp [DataW.trod] at hf
  | succ f =>
    simp only [Value.cells, DataW.trod, ht] at hf
    rw [if_pos (by simpa using hsz)] at hf
    obtain ⟨xs, hxs, _⟩ := Option.map_eq_some_iff.1 hf
    rw [List.range_eq_range'] at hxs
    have hl : cs.toList.length = n := by rw [Array.length_toList, hsz, hct]
    obtain ⟨zs, h1, h2, h3⟩ := mapM_ints he hce n 0 xs (by omega) hxs
    refine ⟨zs, h1, ?_, h3⟩
    rw [List.drop_zero, List.take_of_length_le (by omega)] at h2
    rw [← h2]
end

theorem wf_u16' {n : Int} (h : (Lit.int .u16 n).wf = true) : 0 ≤ n ∧ n ≤ 65535 := by
  simp [Lit.wf, IntKind.min, IntKind.max, IntKind.signed, IntKind.bits] at h
  omega
theorem wf_i64' {n : Int} (h : (Lit.int .i64 n).wf = true) : -9223372036854775808 ≤ n ∧ n ≤ 9223372036854775807 := by
  simp [Lit.wf, IntKind.min, IntKind.max, IntKind.signed, IntKind.bits] at h
  omega
theorem wf_u8' {n : Int} (h : (Lit.int .u8 n).wf = true) : 0 ≤ n ∧ n ≤ 255 := by
  simp [Lit.wf, IntKind.min, IntKind.max, IntKind.signed, IntKind.bits] at h
  omega
theorem wf_u32' {n : Int} (h : (Lit.int .u32 n).wf = true) : 0 ≤ n ∧ n ≤ 4294967295 := by
  simp [Lit.wf, IntKind.min, IntKind.max, IntKind.signed, IntKind.bits] at h
  omega
theorem wf_i32' {n : Int} (h : (Lit.int .i32 n).wf = true) : -2147483648 ≤ n ∧ n ≤ 2147483647 := by
  simp [Lit.wf, IntKind.min, IntKind.max, IntKind.signed, IntKind.bits] at h
  omega
theorem wf_u64' {n : Int} (h : (Lit.int .u64 n).wf = true) : 0 ≤ n ∧ n ≤ 18446744073709551615 := by
  simp [Lit.wf, IntKind.min, IntKind.max, IntKind.signed, IntKind.bits] at h
  omega

/-- short forms: a world behind draws and rows laid -/
class Rch (w a : World) : Prop where
  h : Below w.heap.size w a
instance (w : World) : Rch w w := ⟨Below.refl _ _⟩
instance {w a : World} [r : Rch w a] : Rch w a.drew := ⟨r.h.drew⟩
instance {w a : World} {n : Nat} [r : Rch w a] : Rch w (a.drewN n) := ⟨r.h.trans (below_drewN _ _ _)⟩
instance {w a : World} {o : Obj} [r : Rch w a] : Rch w (a.alloc o) := ⟨r.h.alloc r.h.size _⟩
theorem bup {w a : World} [r : Rch w a] : Below w.heap.size w a := r.h
theorem sl {P : Program} {ops : Array Oper} {Q : Exit → Act → World → Prop} {op : Op} {ty : TypeId} {pos : String} {af : Array Edge} {gd : Option (Nat × Bool)} {rest : List Oper} {a : Act} {w : World} (k : Nat) (h : wpList P ops Q (⟨some k, op, ty, pos, af, gd⟩ :: rest) a w) : wpList P ops Q (⟨some k, op, ty, pos, af, gd⟩ :: rest) a w := h
theorem PT : (∀ (a : Act) (d : Tmp) (v : Value), a.put (some d) v = { a with tmps := a.tmps.setIfInBounds d v }) ∧ (∀ (a : Act) (v : Value), a.put none v = a) ∧ (∀ (l : List Value) (i : Nat) (v : Value), l.toArray.setIfInBounds i v = (l.set i v).toArray) ∧ (∀ (x v : Value) (l : List Value), (x :: l).set 0 v = v :: l) ∧ (∀ (x v : Value) (i : Nat) (l : List Value), (x :: l).set (i + 1) v = x :: l.set i v) :=
  ⟨fun _ _ _ => rfl, fun _ _ => rfl, fun _ _ _ => by simp, fun _ _ _ => rfl, fun _ _ _ _ => rfl⟩
/-- what is known is carried: p at w, q the same at w' -/
class Ck (p : Prop) (w' : World) (w : outParam World) (q : outParam Prop) : Prop where
  h : p → Below w.heap.size w w' → q
theorem ck {p q : Prop} {w w' : World} [c : Ck p w' w q] (h : Hid p) (hE : Below w.heap.size w w') : Hid q := Lib.hid (c.h h.out hE)
theorem ckk {p q : Prop} {w a w' : World} [c : Ck p w' w q] (h : Hid p) (hu : Below w.heap.size w a) (hb : Below a.heap.size a w') : Hid q := Lib.hid (c.h h.out (hu.trans (hb.mono hu.size)))
instance {v w w' : World} : Ck (Below v.heap.size v w) w' w (Below v.heap.size v w') := ⟨fun h hE => h.trans (hE.mono h.size)⟩
/-- .. over a store into block g -/
class Cg (p : Prop) (w1 : World) (g : Nat) (w : outParam World) (s q : outParam Prop) : Prop where
  h : ∀ wd, p → Below w.heap.size w wd → wd.grownBy w1 (some g) → s → q
theorem cg {p s q : Prop} {w wd w1 : World} {g : Nat} [c : Cg p w1 g w s q] (h : Hid p) (hE : Below w.heap.size w wd) (hg : wd.grownBy w1 (some g)) (hs : s) : Hid q := Lib.hid (c.h wd h.out hE hg hs)
end Go.Proofs.Ytmfplinbbcoahaa
/-
  Bytes: a row of them as a list, and what is done to such lists: turned round, and so on. Over any program.
-/
namespace Go.Proofs.Ytmfplinbbcoahaa
open Go.RowKit Go.Sort
set_option linter.unusedVariables false
set_option linter.unusedSimpArgs false

/-- the cells of bytes -/
def BV (l : List UInt8) : List Value := l.map fun b => Value.int .u8 (b.toNat : Int)
theorem BV_length (l : List UInt8) : (BV l).length = l.length := by simp [BV]
theorem BV_one (l : List UInt8) : ∀ u ∈ BV l, u.oneCell' = true := by
  intro u hu
  obtain ⟨x, _, rfl⟩ := List.mem_map.1 hu
  rfl
theorem BV_append (l m : List UInt8) : BV (l ++ m) = BV l ++ BV m := by simp [BV]
theorem BV_nil : BV [] = [] := rfl
theorem BV_get (l : List UInt8) (i : Nat) (h : i < (BV l).length) : (BV l)[i] = .int .u8 ((l[i]'(by simpa [BV] using h)).toNat : Int) := by simp [BV]
theorem BV_set (l : List UInt8) (i : Nat) (b : UInt8) : (BV l).set i (.int .u8 (b.toNat : Int)) = BV (l.set i b) := by simp [BV, List.map_set]
theorem BV_inj {l m : List UInt8} (h : BV l = BV m) : l = m := by
  unfold BV at h
  refine List.map_inj_right (fun a b hab => ?_) |>.1 h
  simp at hab
  exact UInt8.toNat_inj.1 (by omega)

/-- byte j (0 behind the end) -/
def at8 (l : List UInt8) (j : Nat) : UInt8 := l.getD j 0
theorem at8_lt (l : List UInt8) (j : Nat) : (0 : Int) ≤ ((at8 l j).toNat : Int) ∧ ((at8 l j).toNat : Int) ≤ 255 := by
  have := (at8 l j).toNat_lt
  omega
theorem at8_get (l : List UInt8) (j : Nat) (h : j < l.length) : at8 l j = l[j] := by simp [at8, List.getD, h]
theorem at8_end (l : List UInt8) (j : Nat) (h : l.length ≤ j) : at8 l j = 0 := by simp [at8, List.getD, h]

/-- bytes that came in, as numbers -/
def ofInts (zs : List Int) : List UInt8 := zs.map fun z => UInt8.ofNat z.toNat
theorem BV_ofInts {zs : List Int} (h : ∀ n ∈ zs, (Lit.int .u8 n).wf = true) : BV (ofInts zs) = zs.map (Value.int .u8) := by
  unfold BV ofInts
  rw [List.map_map]
  refine List.map_congr_left fun z hz => ?_
  have hb := wf_u8' (h z hz)
  simp only [Function.comp]
  rw [UInt8.toNat_ofNat_of_lt' (by show z.toNat < 256; omega)]
  congr 1
  omega

/-- a slice of bytes reads as l -/
def Bs (w : World) (ad : Option Addr) (n c : Nat) (l : List UInt8) : Prop := Sl w ad n c 1 (BV l)
theorem Bs.len {w : World} {ad : Option Addr} {n c : Nat} {l : List UInt8} (h : Bs w ad n c l) : n = l.length := by have := Sl.len h; rw [BV_length] at this; omega
theorem Bs.le {w : World} {ad : Option Addr} {n c : Nat} {l : List UInt8} (h : Bs w ad n c l) : n ≤ c ∧ c ≤ 9223372036854775807 := ⟨h.2.1, by have := h.2.2.1; simp [maxLen] at this; omega⟩
theorem Bs.below {w w' : World} {ad : Option Addr} {n c : Nat} {l : List UInt8} (h : Bs w ad n c l) (hb : Below w.heap.size w w') : Bs w' ad n c l := Sl.below h hb
theorem Bs.at {w : World} {ad : Option Addr} {n c : Nat} {l : List UInt8} (h : Bs w ad n c l) {j : Nat} (hj : j < l.length) :
    ∃ b off, ad = some ⟨b, off, none⟩ ∧ b < w.heap.size ∧ ∀ i, i < l.length → w.cell? ⟨b, off + i, none⟩ = some (.int .u8 ((at8 l i).toNat : Int)) := by
  obtain ⟨b, off, ha, hb, hc⟩ := Sl.at h (j := j) (by rw [BV_length]; exact hj)
  refine ⟨b, off, ha, hb, fun i hi => ?_⟩
  rw [hc i (by rw [BV_length]; exact hi), BV_get]
  simp [at8, List.getD, hi]
theorem Bs.of_own {w : World} {base : Nat} {e : TypeId} {ad : Option Addr} {n c : Nat} {l : List UInt8} (h : w.ownsRow base e 1 (.slice ad n c) n (BV l)) : Bs w ad n c l := Sl.of_own h

/-- What a function answers that hands back bytes in memory of its own. -/
def RetB (e : TypeId) (l : List UInt8) (w : World) (en : Ending) (w' : World) : Prop :=
  ∃ ad c, en = .returned (.slice ad l.length c) ∧ w'.ownsRow w.heap.size e 1 (.slice ad l.length c) l.length (BV l) ∧ Below w.heap.size w w'

theorem own_form {w : World} {base : Nat} {e : TypeId} {size : Nat} {ad : Option Addr} {n c : Nat} {xs : List Value} (h : w.ownsRow base e size (.slice ad n c) n xs) :
    (ad = none ∧ n = 0 ∧ c = 0) ∨ ∃ g, ad = some ⟨g, 0, none⟩ ∧ base ≤ g ∧ g < w.heap.size := by
  have hlt := h.lt
  rcases h.2 with ⟨hv, h0⟩ | ⟨g, cap, cur, hv, _⟩
  · simp at hv; exact .inl ⟨hv.1, h0, hv.2.2⟩
  · simp at hv
    obtain ⟨rfl, rfl⟩ := hv
    exact .inr ⟨g, rfl, (hlt g rfl).1, (hlt g rfl).2⟩

theorem own_base {w : World} {base base' : Nat} {e : TypeId} {size : Nat} {ad : Option Addr} {n c : Nat} {xs : List Value} (h : w.ownsRow base e size (.slice ad n c) n xs) (hb : base' ≤ base) : w.ownsRow base' e size (.slice ad n c) n xs := by
  obtain ⟨h1, h2⟩ := h
  refine ⟨h1, ?_⟩
  rcases h2 with h2 | ⟨g, cap, cur, hv, hg, r⟩
  · exact .inl h2
  · exact .inr ⟨g, cap, cur, hv, Nat.le_trans hb hg, r⟩

theorem own_below {w w' : World} {base B : Nat} {e : TypeId} {size : Nat} {ad : Option Addr} {n c : Nat} {xs : List Value} (h : w.ownsRow base e size (.slice ad n c) n xs) (hb : Below B w w') (hlt : ∀ g, ad = some ⟨g, 0, none⟩ → g < B) : w'.ownsRow base e size (.slice ad n c) n xs := by
  obtain ⟨h1, h2⟩ := h
  refine ⟨h1, ?_⟩
  rcases h2 with h2 | ⟨g, cap, cur, hv, hg, hh, r⟩
  · exact .inl h2
  · have hv' := hv
    simp at hv'
    exact .inr ⟨g, cap, cur, hv, hg, by rw [hb.block g (hlt g hv'.1)]; exact hh, r⟩

/-- .. the same, where nothing that was there has turned -/
theorem own_keep {w w' : World} {base : Nat} {e : TypeId} {size : Nat} {ad : Option Addr} {n c : Nat} {xs : List Value} (h : w.ownsRow base e size (.slice ad n c) n xs) (hb : Below w.heap.size w w') : w'.ownsRow base e size (.slice ad n c) n xs :=
  own_below h hb fun g hg => by
    rcases own_form h with ⟨h0, _⟩ | ⟨g', h1, _, h2⟩
    · rw [h0] at hg; cases hg
    · rw [h1] at hg; cases hg; exact h2

theorem own_cell {w : World} {base : Nat} {e : TypeId} {g n c : Nat} {l : List UInt8} (h : w.ownsRow base e 1 (.slice (some ⟨g, 0, none⟩) n c) n (BV l)) {j : Nat} (hj : j < n) : w.cell? ⟨g, j, none⟩ = some (.int .u8 ((at8 l j).toNat : Int)) := by
  have hl := h.1
  rw [BV_length] at hl
  rw [h.cellAt j (by omega), List.getElem?_eq_getElem (by rw [BV_length]; omega), BV_get]
  simp [at8, List.getD, show j < l.length by omega]

theorem own_store {w : World} {base : Nat} {e : TypeId} {g n c : Nat} {l : List UInt8} (h : w.ownsRow base e 1 (.slice (some ⟨g, 0, none⟩) n c) n (BV l)) (j : Nat) (b : UInt8) :
    (w.setCell ⟨g, j, none⟩ (.int .u8 (b.toNat : Int))).ownsRow base e 1 (.slice (some ⟨g, 0, none⟩) n c) n (BV (l.set j b)) ∧ w.grownBy (w.setCell ⟨g, j, none⟩ (.int .u8 (b.toNat : Int))) (some g) := by
  have := h.stored j (.int .u8 (b.toNat : Int))
  rwa [BV_set] at this

/-! ### turned round, a swap a step -/
/-- the first k and the last k have been swapped -/
def revTo (l : List UInt8) (k : Nat) : List UInt8 := (List.range l.length).map fun j => if j < k ∨ l.length ≤ j + k then l.getD (l.length - 1 - j) 0 else l.getD j 0
theorem revTo_length (l : List UInt8) (k : Nat) : (revTo l k).length = l.length := by simp [revTo]
theorem revTo_get (l : List UInt8) (k j : Nat) (h : j < l.length) : (revTo l k).getD j 0 = if j < k ∨ l.length ≤ j + k then l.getD (l.length - 1 - j) 0 else l.getD j 0 := by
  simp [revTo, List.getD, h]
theorem ext_getD {l m : List UInt8} (hl : l.length = m.length) (h : ∀ j, j < l.length → l.getD j 0 = m.getD j 0) : l = m := by
  apply List.ext_getElem hl
  intro j h1 h2
  have := h j h1
  simpa [List.getD, h1, h2] using this
theorem revTo_zero (l : List UInt8) : revTo l 0 = l := by
  apply ext_getD (by rw [revTo_length])
  intro j hj
  rw [revTo_length] at hj
  rw [revTo_get l 0 j hj, if_neg (by omega)]
theorem revTo_end (l : List UInt8) (k : Nat) (h : l.length ≤ 2 * k + 1) : revTo l k = l.reverse := by
  apply ext_getD (by rw [revTo_length]; simp)
  intro j hj
  rw [revTo_length] at hj
  rw [revTo_get l k j hj]
  have hr : l.reverse.getD j 0 = l.getD (l.length - 1 - j) 0 := by
    simp [List.getD, List.getElem?_reverse hj]
  rw [hr]
  split
  · rfl
  · have : l.length - 1 - j = j := by omega
    rw [this]
theorem set_getD (l : List UInt8) (i j : Nat) (b : UInt8) (hi : i < l.length) : (l.set i b).getD j 0 = if i = j then b else l.getD j 0 := by
  simp only [List.getD, List.getElem?_set]
  split
  · subst_vars; simp
  · rfl
theorem revTo_succ (l : List UInt8) (k : Nat) (h : 2 * k + 1 < l.length) :
    ((revTo l k).set k (at8 (revTo l k) (l.length - 1 - k))).set (l.length - 1 - k) (at8 (revTo l k) k) = revTo l (k + 1) := by
  apply ext_getD (by simp [revTo_length])
  intro j hj
  simp only [List.length_set, revTo_length] at hj
  rw [set_getD _ _ _ _ (by simp [revTo_length]; omega), set_getD _ _ _ _ (by simp [revTo_length]; omega)]
  unfold at8
  have e1 : (revTo l k).getD k 0 = l.getD k 0 := by rw [revTo_get l k k (by omega), if_neg (by omega)]
  have e2 : (revTo l k).getD (l.length - 1 - k) 0 = l.getD (l.length - 1 - k) 0 := by rw [revTo_get l k _ (by omega), if_neg (by omega)]
  rw [e1, e2, revTo_get l (k + 1) j hj, revTo_get l k j hj]
  by_cases h1 : l.length - 1 - k = j
  · rw [if_pos h1, if_pos (by omega)]
    congr 1
    omega
  · rw [if_neg h1]
    by_cases h2 : k = j
    · rw [if_pos h2, if_pos (by omega)]
      congr 1
      omega
    · rw [if_neg h2]
      by_cases h3 : j < k ∨ l.length ≤ j + k
      · rw [if_pos h3, if_pos (by omega)]
      · rw [if_neg h3, if_neg (by omega)]

/-! ### numbers as bytes -/
/-- byte i of a number, the lowest first -/
def byteAt (n i : Nat) : UInt8 := UInt8.ofNat (n / 2 ^ (8 * i))
theorem byteAt_toNat (n i : Nat) : (byteAt n i).toNat = n / 2 ^ (8 * i) % 256 := by unfold byteAt; simp
theorem byteAt_wrap (n i : Nat) : IntKind.u8.wrap (((n / 2 ^ (8 * i) : Nat)) : Int) = ((byteAt n i).toNat : Int) := by
  rw [byteAt_toNat, IntKind.wrap_u8]; omega
theorem byteAt_int (n i : Nat) : (n : Int) / 2 ^ (8 * i) % 256 = ((byteAt n i).toNat : Int) := by
  rw [byteAt_toNat, Int.natCast_emod, Int.natCast_ediv, Int.natCast_pow]; rfl
def putLE (n k : Nat) : List UInt8 := (List.range k).map (byteAt n)
theorem putLE_length (n k : Nat) : (putLE n k).length = k := by simp [putLE]
/-- what the document lays of a number: how many bytes, in which order -/
def sizeOf8 (size : Int) : Nat := min size.toNat 8
def putL (n : Nat) (size : Int) (big : Bool) : List UInt8 := if big then (putLE n (sizeOf8 size)).reverse else putLE n (sizeOf8 size)
theorem putL_length (n : Nat) (size : Int) (big : Bool) : (putL n size big).length = sizeOf8 size := by unfold putL; split <;> simp [putLE_length]
/-- the first k of L bytes are laid -/
def putTo (n L k : Nat) : List UInt8 := (List.range L).map fun i => if i < k then byteAt n i else 0
theorem putTo_length (n L k : Nat) : (putTo n L k).length = L := by simp [putTo]
theorem putTo_zero (n L : Nat) : BV (putTo n L 0) = List.replicate L (.int .u8 0) := by
  apply List.ext_getElem (by simp [BV, putTo])
  intro i h1 h2
  simp [BV, putTo]
theorem putTo_all (n L : Nat) : putTo n L L = putLE n L := by
  unfold putTo putLE
  refine List.map_congr_left fun i hi => ?_
  rw [if_pos (by simpa using hi)]
theorem putTo_succ (n L k : Nat) (h : k < L) : (putTo n L k).set k (byteAt n k) = putTo n L (k + 1) := by
  apply ext_getD (by simp [putTo])
  intro j hj
  simp only [List.length_set, putTo_length] at hj
  rw [set_getD _ _ _ _ (by rw [putTo_length]; exact h)]
  simp only [putTo, List.getD, List.getElem?_map, List.getElem?_range hj, Option.map_some, Option.getD_some]
  by_cases h1 : k = j
  · rw [if_pos h1, if_pos (by omega), h1]
  · rw [if_neg h1]
    by_cases h2 : j < k
    · rw [if_pos h2, if_pos (by omega)]
    · rw [if_neg h2, if_neg (by omega)]

/-! ### bytes as numbers -/
def numBE (l : List UInt8) : Nat := l.foldl (fun n b => n * 256 + b.toNat) 0
theorem numBE_nil : numBE [] = 0 := rfl
theorem numBE_snoc (l : List UInt8) (b : UInt8) : numBE (l ++ [b]) = numBE l * 256 + b.toNat := by simp [numBE]
theorem numBE_lt (l : List UInt8) : numBE l < 256 ^ l.length := by
  have key : ∀ m : List UInt8, numBE m.reverse < 256 ^ m.length := by
    intro m
    induction m with
    | nil => simp [numBE]
    | cons b m ih =>
      rw [List.reverse_cons, numBE_snoc, List.length_cons, Nat.pow_succ]
      have := b.toNat_lt
      omega
  have := key l.reverse
  simpa using this
theorem numBE_lt8 (l : List UInt8) (h : l.length ≤ 8) : numBE l < 18446744073709551616 :=
  Nat.lt_of_lt_of_le (numBE_lt l) (Nat.pow_le_pow_right (by omega) h)
theorem numBE_lt7 (l : List UInt8) (h : l.length ≤ 7) : numBE l < 72057594037927936 :=
  Nat.lt_of_lt_of_le (numBE_lt l) (Nat.pow_le_pow_right (by omega) h)
def getN (l : List UInt8) (big : Bool) : Nat := if big then numBE (l.take 8) else numBE (l.take 8).reverse
theorem getN_lt (l : List UInt8) (big : Bool) : getN l big < 18446744073709551616 := by
  unfold getN
  split
  · exact numBE_lt8 _ (by simp; omega)
  · exact numBE_lt8 _ (by simp; omega)

/-- one byte more -/
def stepN (a : Nat) (b : UInt8) : Nat := a * 256 + b.toNat
theorem u64_wrap_nat (n : Nat) (h : n < 18446744073709551616) : IntKind.u64.wrap (n : Int) = n := by rw [IntKind.wrap_u64]; omega
theorem or_byte (a : Nat) (b : UInt8) (h : a < 72057594037927936) : bits BinOp.or .u64 (IntKind.u64.wrap ((a : Int) * 256)) ((b.toNat : Nat) : Int) = ((stepN a b : Nat) : Int) := by
  unfold stepN
  have hb := b.toNat_lt
  have e : IntKind.u64.wrap ((a : Int) * 256) = ((a * 256 : Nat) : Int) := by rw [IntKind.wrap_u64]; omega
  rw [e]
  show IntKind.u64.wrap ((BitVec.ofInt 64 ((a * 256 : Nat) : Int) ||| BitVec.ofInt 64 ((b.toNat : Nat) : Int)).toNat : Int) = _
  rw [BitVec.toNat_or]
  have e1 : (BitVec.ofInt 64 ((a * 256 : Nat) : Int)).toNat = a * 256 := by rw [BitVec.toNat_ofInt]; show (((a * 256 : Nat) : Int) % 18446744073709551616).toNat = _; omega
  have e2 : (BitVec.ofInt 64 ((b.toNat : Nat) : Int)).toNat = b.toNat := by rw [BitVec.toNat_ofInt]; show (((b.toNat : Nat) : Int) % 18446744073709551616).toNat = _; omega
  rw [e1, e2]
  have : a * 256 ||| b.toNat = a * 256 + b.toNat := by
    have := Nat.two_pow_add_eq_or_of_lt (i := 8) (b := b.toNat) hb a
    rw [Nat.mul_comm a 256]
    exact this.symm
  rw [this, u64_wrap_nat _ (by omega)]
theorem take_snoc8 (l : List UInt8) (k : Nat) (h : k < l.length) : l.take (k + 1) = l.take k ++ [at8 l k] := by
  rw [List.take_add_one, List.getElem?_eq_getElem h, at8_get l k h]; rfl
theorem numBE_take_succ (l : List UInt8) (k : Nat) (h : k < l.length) : numBE (l.take (k + 1)) = stepN (numBE (l.take k)) (at8 l k) := by
  rw [take_snoc8 l k h, numBE_snoc]; rfl
/-- from behind: what has been read in k rounds -/
def numFrom (l : List UInt8) (k : Nat) : Nat := numBE (l.reverse.take k)
theorem numFrom_succ (l : List UInt8) (k : Nat) (h : k < l.length) : numFrom l (k + 1) = stepN (numFrom l k) (at8 l (l.length - 1 - k)) := by
  unfold numFrom
  rw [numBE_take_succ _ _ (by simpa using h)]
  have : at8 l.reverse k = at8 l (l.length - 1 - k) := by rw [at8_get _ _ (by simpa using h), at8_get _ _ (by omega), List.getElem_reverse]
  rw [this]
theorem numFrom_lt7 (l : List UInt8) (k : Nat) (h : k ≤ 7) : numFrom l k < 72057594037927936 := numBE_lt7 _ (by simp; omega)
theorem numFrom_all (l : List UInt8) : numFrom l l.length = numBE l.reverse := by unfold numFrom; rw [List.take_of_length_le (by simp)]
theorem numBE_map_snoc {α : Type} (f : α → UInt8) (pre : List α) (x : α) : numBE ((pre ++ [x]).map f) = stepN (numBE (pre.map f)) (f x) := by
  rw [List.map_append, List.map_cons, List.map_nil, numBE_snoc]; rfl

/-! ### strings out of bytes -/
def strOf (l : List UInt8) : ByteArray := ⟨l.toArray⟩
theorem strOf_data (l : List UInt8) : (strOf l).data.toList = l := rfl
theorem strOf_toList (l : List UInt8) : (strOf l).toList = l := by
  unfold ByteArray.toList
  have key : ∀ (k : Nat) (r : List UInt8), k ≤ l.length → ByteArray.toList.loop (strOf l) (l.length - k) r = r.reverse ++ l.drop (l.length - k) := by
    intro k
    induction k with
    | zero =>
      intro r _
      unfold ByteArray.toList.loop
      rw [if_neg (by show ¬ (l.length - 0 < (strOf l).size); simp [strOf, ByteArray.size])]
      simp
    | succ k ih =>
      intro r hk
      unfold ByteArray.toList.loop
      rw [if_pos (by show l.length - (k + 1) < (strOf l).size; simp [strOf, ByteArray.size]; omega)]
      rw [show l.length - (k + 1) + 1 = l.length - k by omega, ih _ (by omega)]
      have hlt : l.length - (k + 1) < l.length := by omega
      rw [List.drop_eq_getElem_cons hlt, show l.length - (k + 1) + 1 = l.length - k by omega]
      have : (strOf l).get! (l.length - (k + 1)) = l[l.length - (k + 1)] := by
        simp [strOf, ByteArray.get!, hlt]
      rw [this]
      simp
  have := key l.length [] (Nat.le_refl _)
  simpa using this

theorem run_str {P : Program} {w : World} {src dst e : TypeId} {ad : Option Addr} {n c : Nat} {l : List UInt8} (hs : P.underlying src = some (.slice e)) (he : P.underlying e = some (.int .u8)) (hd : P.underlying dst = some .string) (hb : Bs w ad n c l) :
    (convert src dst (.slice ad n c)).run P w = .ok (.string (strOf l)) w := by
  have hn := hb.len
  subst hn
  cases ad with
  | none =>
    obtain ⟨_, _, _, h0, _⟩ := hb
    have : l = [] := List.length_eq_zero_iff.1 (h0 rfl).1
    subst this
    rw [run_convert_bytes_nil (P := P) w src e hs he _ _ dst hd]
    rfl
  | some x =>
    refine run_convert_bytes_back (P := P) w src dst e x c l hs he hd fun j hj => ?_
    obtain ⟨y, hy, hc⟩ := hb.2.2.2.2 j (.int .u8 (l[j].toNat : Int)) (by rw [List.getElem?_eq_getElem (by rw [BV_length]; exact hj), BV_get])
    cases hy
    exact hc

theorem wpL_str {P : Program} {w : World} {ops : Array Oper} {rest : List Oper} {o : Oper} {a : Act} {Q : Exit → Act → World → Prop} {src dst e : TypeId} (hs : P.underlying src = some (.slice e)) (he : P.underlying e = some (.int .u8)) (hd : P.underlying dst = some .string)
    (hg : Region.wanted o (yielded ops a.tmps) = true) (x : Operand) (hop : o.op = Op.convert src dst x) {ad : Option Addr} {n c : Nat} {l : List UInt8} (hx : a.eval x = .slice ad n c) (hb : Bs w ad n c l)
    (h : wpList P ops Q rest (a.put o.dst (.string (strOf l))) w) : wpList P ops Q (o :: rest) a w := by
  refine wpL_run hg ?_ h
  simp only [execOp, hop, hx, Sem.run_bind, run_str hs he hd hb, Result.andThen_ok, Sem.run_pure]

/-- the same bytes? -/
def sameB (l m : List UInt8) : Bool := l == m
theorem sameB_str (l m : List UInt8) : ((strOf l).toList == (strOf m).toList) = sameB l m := by rw [strOf_toList, strOf_toList]; rfl
theorem sameB_self (l : List UInt8) : sameB l l = true := by simp [sameB]

/-- one byte's cell -/
theorem Bs.one (w : World) (e : TypeId) (b : UInt8) : Bs (w.alloc (.cells #[.int .u8 (b.toNat : Int)] e)) (some ⟨w.heap.size, 0, none⟩) 1 1 [b] :=
  Sl.lit w #[.int .u8 (b.toNat : Int)] e 1 1 rfl (by simp [maxLen])

/-! ### padding -/
def padI (n : Int) : Int := if n ≤ 0 then 0 else (4 - n % 4) % 4
theorem padI_range (n : Int) : 0 ≤ padI n ∧ padI n ≤ 3 := by unfold padI; split <;> omega
def padN (n : Nat) : Nat := (4 - n % 4) % 4
theorem padN_le (n : Nat) : padN n ≤ 3 := by unfold padN; omega
theorem padI_nat (n : Nat) : padI (n : Int) = (padN n : Int) := by unfold padI padN; split <;> omega
def padL (l : List UInt8) : List UInt8 := l ++ List.replicate (padN l.length) 0
theorem padL_length (l : List UInt8) : (padL l).length = l.length + padN l.length := by simp [padL]
def padTo (l : List UInt8) (k : Nat) : List UInt8 := l ++ List.replicate k 0
theorem padTo_length (l : List UInt8) (k : Nat) : (padTo l k).length = l.length + k := by simp [padTo]
theorem padTo_succ (l : List UInt8) (k : Nat) : padTo l (k + 1) = padTo l k ++ [0] := by simp [padTo, List.replicate_succ']
theorem padTo_zero (l : List UInt8) : padTo l 0 = l := by simp [padTo]
theorem padTo_pad (l : List UInt8) : padTo l (padN l.length) = padL l := rfl
theorem padN_end (n k : Nat) (h : (n + k) % 4 = 0) (hk : k ≤ padN n) : k = padN n := by unfold padN at *; omega
theorem padN_more (n k : Nat) (h : (n + k) % 4 ≠ 0) (hk : k ≤ padN n) : k < padN n := by unfold padN at *; omega
theorem padN_mod (n : Nat) : (n + padN n) % 4 = 0 := by unfold padN; omega

theorem putLE_succ (n k : Nat) : putLE n (k + 1) = putLE n k ++ [byteAt n k] := by simp [putLE, List.range_succ]
theorem byteAt_quo (n k : Nat) : IntKind.u8.wrap (((n / 256 ^ k % 256 : Nat)) : Int) = ((byteAt n k).toNat : Int) := by
  rw [byteAt_toNat, show (256 : Nat) ^ k = 2 ^ (8 * k) by rw [show (256 : Nat) = 2 ^ 8 from rfl, ← Nat.pow_mul], IntKind.wrap_u8]
  omega
theorem byteAt_mod (n k : Nat) : ((n / 256 ^ k : Nat) : Int) % 256 = ((byteAt n k).toNat : Int) := by
  rw [byteAt_toNat, show (256 : Nat) ^ k = 2 ^ (8 * k) by rw [show (256 : Nat) = 2 ^ 8 from rfl, ← Nat.pow_mul]]
  omega
theorem quo_succ (n k : Nat) : ((n / 256 ^ k : Nat) : Int) / 256 = ((n / 256 ^ (k + 1) : Nat) : Int) := by
  rw [Nat.pow_succ, ← Nat.div_div_eq_div_mul]; omega
theorem putL_to (n : Nat) (size : Int) (big : Bool) (k : Nat) (h : k = sizeOf8 size) : (if big then (putLE n k).reverse else putLE n k) = putL n size big := by subst h; rfl
instance {w w' : World} {ad : Option Addr} {n c : Nat} {l : List UInt8} : Ck (Bs w ad n c l) w' w (Bs w' ad n c l) := ⟨fun h hE => h.below hE⟩
instance {w w' : World} {base : Nat} {e : TypeId} {size : Nat} {ad : Option Addr} {n c : Nat} {xs : List Value} : Ck (w.ownsRow base e size (.slice ad n c) n xs) w' w (w'.ownsRow base e size (.slice ad n c) n xs) := ⟨fun h hE => own_keep h hE⟩
end Go.Proofs.Ytmfplinbbcoahaa
/-
  The contracts of the functions on numbers as bytes.
-/
namespace Go.Proofs.Ytmfplinbbcoahaa
open Go.RowKit Go.Sort
set_option linter.unusedVariables false
set_option linter.unusedSimpArgs false

theorem elB : Elem Try.prog 24 5 1 1 (.int .u8 0) := ⟨Try.underlying24, by kernel_rfl, rfl, by omega⟩

set_option maxRecDepth 100000 in
theorem reverse_any (base : Nat) (ad : Option Addr) (n c : Nat) (l : List UInt8) (w : World) (hown : w.ownsRow base 5 1 (.slice ad n c) n (BV l)) (hn : n = l.length) (hsz : n ≤ 140737488351232) :
    Calls Try.prog 75 #[.slice ad n c] w fun e w' => e = .returned (.tuple #[]) ∧ w'.ownsRow base 5 1 (.slice ad n c) n (BV l.reverse) ∧ w.grownBy w' (Value.ownBlock (.slice ad n c)) := by
  have HN := Lib.hid hn
  clear hn
  have HO := Lib.hid hown
  clear hown
  go_enter Try.func75, Try.ntmps75
  go_wp2
  go_loopw [2, 3] (fun i j wr => ∃ k : Nat, k ≤ n ∧ i = .int .i64 k ∧ j = .int .i64 ((n : Int) - 1 - k) ∧ wr.ownsRow base 5 1 (.slice ad n c) n (BV (revTo l k)) ∧ w.grownBy wr (Value.ownBlock (.slice ad n c))) (fun i _ _ => n - (intOf i).toNat)
  case atStart => exact ⟨0, Nat.zero_le _, rfl, by simp, by rw [revTo_zero]; exact HO.out, World.grownBy.refl _ _⟩
  case round =>
    obtain ⟨k, hk, rfl, rfl, hown, hg⟩ := hrel
    by_cases hlt : 2 * k + 1 < n
    · rcases own_form hown with ⟨_, h0, _⟩ | ⟨g, rfl, hbg, hgs⟩
      · omega
      · have c1 := own_cell hown (j := k) (by omega)
        have c2 := own_cell hown (j := n - 1 - k) (by omega)
        have f1 := hown.frozenAt k
        have f2 := hown.frozenAt (n - 1 - k)
        have HOW := Lib.hid hown
        have HG := Lib.hid hg
        clear hown hg
        have b1 : (0 : Int) ≤ (n : Int) - 1 - k := by omega
        have b2 : (n : Int) - 1 - k < n := by omega
        have b3 : (k : Int) < n := by omega
        go_wp2_with fail
        go_region
        obtain ⟨w1, hw1⟩ : ∃ w1, w1 = ((wr.setCell ⟨g, k, none⟩ (.int .u8 (at8 (revTo l k) (n - 1 - k)).toNat)).setCell ⟨g, n - 1 - k, none⟩ (.int .u8 (at8 (revTo l k) k).toNat)).drew := ⟨_, rfl⟩
        have hR : w1.ownsRow base 5 1 (.slice (some ⟨g, 0, none⟩) n c) n (BV (revTo l (k + 1))) ∧ w.grownBy w1 (some g) := by
          subst hw1
          have hl := HN.out
          obtain ⟨o1, g1⟩ := own_store HOW.out k (at8 (revTo l k) (n - 1 - k))
          obtain ⟨o2, g2⟩ := own_store o1 (n - 1 - k) (at8 (revTo l k) k)
          have := revTo_succ l k (by omega)
          rw [← hl] at this
          rw [this] at o2
          exact ⟨World.ownsRow.drew o2, HG.out.trans (g1.trans (g2.trans (grown_drew _ _)))⟩
        have HR := Lib.hid hR
        rw [← hw1]
        clear hw1 hR c1 c2 f1 f2 HOW HG
        go_wp2_with fail
        go_roundw
        case rel => exact ⟨k + 1, by omega, by go_num, by go_num, HR.out.1, HR.out.2⟩
        case measure => simp [intOf]; omega
    · have HOW := Lib.hid hown
      have HG := Lib.hid hg
      clear hown hg
      go_wp2_with fail
      go_end0
      refine ⟨rfl, ?_, HG.out⟩
      have := HOW.out
      rwa [revTo_end l k (by have := HN.out; omega)] at this

set_option maxRecDepth 100000 in
theorem put_any (n : Nat) (size : Int) (big : Bool) (w : World) (hn : (n : Int) ≤ 18446744073709551615) :
    Calls Try.prog 47 #[.int .u64 n, .int .i64 size, .bool big] w (RetB 5 (putL n size big) w) := by
  obtain ⟨L, hL⟩ : ∃ L, L = sizeOf8 size := ⟨_, rfl⟩
  have hL8 : L ≤ 8 := by rw [hL]; unfold sizeOf8; omega
  have HL := Lib.hid hL
  have HC : Hid (size < 0 ∧ (L : Int) ≤ 0 ∨ (0 ≤ size ∧ size ≤ 8 ∧ size = L) ∨ (8 < size ∧ 8 ≤ L)) := Lib.hid (by rw [hL]; unfold sizeOf8; omega)
  clear hL
  rcases HC.out with ⟨c1, c2⟩ | ⟨c1, c2, rfl⟩ | ⟨c1, c2⟩
  all_goals
    clear HC
    go_enter Try.func47, Try.ntmps47
    go_wp2_with (at_make; go_must (refine wpL_make elB rfl (.tmp 11) (.tmp 11) rfl w.heap.size L rfl rfl (by omega) (by omega) (by omega) (by unfold maxLen; omega) (Nat.le_refl _) ?_))
    intro w1 hown1 hg1
    have HO1 : Hid (w1.ownsRow w.heap.size 5 1 (.slice (some ⟨w.heap.size, 0, none⟩) L L) L (BV (putTo n L 0))) := Lib.hid (by rw [putTo_zero, ← toList_madeCells_one]; exact hown1)
    have HB1 := Lib.hid ((Below.refl w.heap.size w).grown hg1 (Nat.le_refl _) (fun k e => by cases e))
    clear hown1 hg1
    go_wp2_with fail
    go_loopw [15, 8] (fun i _ wr => ∃ k : Nat, k ≤ L ∧ i = .int .i64 k ∧ wr.ownsRow w.heap.size 5 1 (.slice (some ⟨w.heap.size, 0, none⟩) L L) L (BV (putTo n L k)) ∧ Below w.heap.size w wr) (fun i _ _ => L - (intOf i).toNat)
    case atStart => exact ⟨0, Nat.zero_le _, rfl, HO1.out, HB1.out⟩
    case round =>
      obtain ⟨k, hk, rfl, hown, hb⟩ := hrel
      by_cases hlt : k < L
      · have cc := own_cell hown hlt
        have ff := hown.frozenAt k
        obtain ⟨o2, g2⟩ := own_store hown k (byteAt n k)
        rw [putTo_succ n L k hlt] at o2
        have HO2 := Lib.hid o2
        have HB2 := Lib.hid (hb.grown g2 hb.size (fun j e => by cases e; exact Nat.le_refl _))
        have hv := byteAt_int n k
        clear o2 g2 hown hb HO1 HB1
        first
          | (exfalso; omega)
          | (go_wp2_with fail
             go_roundw
             case rel => exact ⟨k + 1, by omega, by go_num, HO2.out, HB2.out⟩
             case measure => simp [intOf]; omega)
      · obtain rfl : k = L := by omega
        rw [putTo_all] at hown
        have HO2 := Lib.hid hown
        have HB2 := Lib.hid hb
        clear hown hb HO1 HB1
        cases big
        · go_wp2_with fail
          go_ret
          refine ⟨some ⟨w.heap.size, 0, none⟩, k, ?_, ?_, HB2.out⟩
          · rw [putL_length, ← HL.out]; rfl
          · rw [putL_length, ← HL.out]
            unfold putL
            rw [← HL.out]
            exact HO2.out
        · go_wp2_with (go_at_call 75; refine (reverse_any w.heap.size _ _ _ _ _ HO2.out (putLE_length _ _).symm (by omega)).mono ?_; rintro e w3 ⟨rfl, ho3, hg3⟩)
          have HO3 := Lib.hid ho3
          have HB3 := Lib.hid (HB2.out.grown hg3 HB2.out.size (fun j e => by cases e; exact Nat.le_refl _))
          clear ho3 hg3
          go_wp2_with fail
          go_ret
          refine ⟨some ⟨w.heap.size, 0, none⟩, k, ?_, ?_, HB3.out⟩
          · rw [putL_length, ← HL.out]; rfl
          · rw [putL_length, ← HL.out]
            unfold putL
            rw [← HL.out]
            exact HO3.out
end Go.Proofs.Ytmfplinbbcoahaa
