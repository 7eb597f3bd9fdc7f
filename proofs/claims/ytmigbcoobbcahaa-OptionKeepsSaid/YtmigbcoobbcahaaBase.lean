/-
  A layer of laws over any program: slices that are read ('Sl'), slices that a call owns, and the operations on them, in one form each.
-/
import Derived.WalkKit
import Derived.Handy
import Derived.Lib.Hide
import Derived.Lib.QuietBelow
import Derived.Maps.AppendAt
import Derived.KernelRfl
import Derived.ProofKit
import Derived.OpenShut
import Derived.ShutString
import Derived.ChangeOld
import Derived.Below
import Derived.WalkSpells
namespace Go.Proofs.Ytmigbcoobbcahaa
open Go.RowKit Go.Sort
set_option linter.unusedVariables false

/-- A slice type t of elements e: the row of the table of types that the laws ask. -/
structure Elem (P : Program) (t e : TypeId) (size bytes : Nat) (z : Value) : Prop where
  ht : P.underlying t = some (.slice e)
  info : (P.info? e).map (fun i => (i.zero, i.size, i.bytes)) = some (some z, size, bytes)
  hzs : z.cells.size = size
  hsz : 0 < size

/-- The value '.slice ad n c' reads as the cells vs (n elements of 'size' cells). -/
def Sl (w : World) (ad : Option Addr) (n c size : Nat) (vs : List Value) : Prop :=
  vs.length = n * size ∧ n ≤ c ∧ c ≤ maxLen ∧ (ad = none → n = 0 ∧ c = 0) ∧ ∀ j u, vs[j]? = some u → ∃ x, ad = some x ∧ w.cell? (x.add j) = some u

theorem cell_addr {w : World} {x : Addr} {u : Value} (h : w.cell? x = some u) : ∃ b off, x = ⟨b, off, none⟩ ∧ b < w.heap.size := by
  obtain ⟨b, off, sp⟩ := x
  have hb := World.block_lt_of_cell? w _ h
  cases sp with
  | none => exact ⟨b, off, rfl, hb⟩
  | some s =>
    exfalso
    simp only [World.cell?] at h
    split at h <;> simp at h

theorem addr_add (b off j : Nat) : (⟨b, off, none⟩ : Addr).add j = ⟨b, off + j, none⟩ := by
  unfold Addr.add
  split
  · subst_vars; rfl
  · rfl

theorem add_addr {x : Addr} {j b o : Nat} (h : x.add j = ⟨b, o, none⟩) : x.block = b ∧ (j = 0 → x = ⟨b, o, none⟩) ∧ x.off + j = o := by
  unfold Addr.add at h
  split at h
  · subst_vars; simp
  · obtain ⟨xb, xo, xs⟩ := x
    simp at h
    refine ⟨h.1, by omega, h.2⟩

theorem add_zero (x : Addr) : x.add 0 = x := by unfold Addr.add; simp

/-- An element that is there: the address written out, and its cell. -/
theorem Sl.at {w : World} {ad : Option Addr} {n c size : Nat} {vs : List Value} (h : Sl w ad n c size vs) {j : Nat} (hj : j < vs.length) :
    ∃ b off, ad = some ⟨b, off, none⟩ ∧ b < w.heap.size ∧ ∀ i (hi : i < vs.length), w.cell? ⟨b, off + i, none⟩ = some vs[i] := by
  have h0 : 0 < vs.length := by omega
  obtain ⟨x, hx, hc⟩ := h.2.2.2.2 0 vs[0] (by simp [h0])
  rw [add_zero] at hc
  obtain ⟨b, off, rfl, hb⟩ := cell_addr hc
  refine ⟨b, off, hx, hb, fun i hi => ?_⟩
  obtain ⟨y, hy, hcy⟩ := h.2.2.2.2 i vs[i] (by simp [hi])
  rw [hx] at hy
  cases hy
  rwa [addr_add] at hcy

theorem Sl.len {w : World} {ad : Option Addr} {n c size : Nat} {vs : List Value} (h : Sl w ad n c size vs) : vs.length = n * size := h.1
theorem Sl.le {w : World} {ad : Option Addr} {n c size : Nat} {vs : List Value} (h : Sl w ad n c size vs) : n ≤ c := h.2.1

theorem Sl.of_same {w w' : World} {ad : Option Addr} {n c size : Nat} {vs : List Value} (h : Sl w ad n c size vs)
    (hs : ∀ x j u, ad = some x → w.cell? (x.add j) = some u → w'.cell? (x.add j) = some u) : Sl w' ad n c size vs :=
  ⟨h.1, h.2.1, h.2.2.1, h.2.2.2.1, fun j u hj => let ⟨x, hx, hc⟩ := h.2.2.2.2 j u hj; ⟨x, hx, hs x j u hx hc⟩⟩

/-- What lay below a heap's size reads as it did. -/
theorem Sl.below {w w' : World} {ad : Option Addr} {n c size : Nat} {vs : List Value} (h : Sl w ad n c size vs) (hb : Below w.heap.size w w') : Sl w' ad n c size vs :=
  h.of_same fun x j u _ hc => by
    have hlt := World.block_lt_of_cell? w _ hc
    rw [hb.cell hlt]; exact hc

/-- .. and behind writes to one row, if that is another block. -/
theorem Sl.grown {w w' : World} {row : Option Nat} {ad : Option Addr} {n c size : Nat} {vs : List Value} (h : Sl w ad n c size vs) (hg : w.grownBy w' row) (hne : ∀ x, ad = some x → row ≠ some x.block) : Sl w' ad n c size vs :=
  h.of_same fun x j u hx hc => by
    have hb : (x.add j).block = x.block := by unfold Addr.add; split <;> rfl
    exact hg.cell hc (by rw [hb]; exact fun e => hne x hx e.symm)

theorem Sl.nil (w : World) (size : Nat) : Sl w none 0 0 size [] := ⟨by simp, Nat.le_refl _, by simp [maxLen], fun _ => ⟨rfl, rfl⟩, fun j u h => by simp at h⟩

/-- What a call owns reads so. -/
theorem Sl.of_own {w : World} {base : Nat} {e : TypeId} {size : Nat} {ad : Option Addr} {n c : Nat} {xs : List Value} (h : w.ownsRow base e size (.slice ad n c) n xs) : Sl w ad n c size xs := by
  obtain ⟨hl, h2 | ⟨g, cap, cur, hv, hb, hg, hnc, hcm, hcs, ht⟩⟩ := h
  · obtain ⟨hv, rfl⟩ := h2
    simp at hv
    obtain ⟨rfl, rfl⟩ := hv
    have : xs = [] := by cases xs with | nil => rfl | cons => simp at hl
    subst this
    exact Sl.nil w size
  · simp at hv
    obtain ⟨rfl, rfl⟩ := hv
    refine ⟨hl, hnc, hcm, by simp, fun j u hj => ⟨_, rfl, ?_⟩⟩
    exact World.ownsRow.cells (w := w) ⟨hl, .inr ⟨g, c, cur, rfl, hb, hg, hnc, hcm, hcs, ht⟩⟩ rfl j u hj

/-- A slice of numbers, of bytes .. that came in, as the proof's frame hands it. -/
theorem Sl.of_row {k : IntKind} {w : World} {a : Option Addr} {len cap : Nat} {zs : List Int}
    (h : (a = none ∧ len = 0 ∧ cap = 0 ∧ zs = []) ∨ ∃ x, a = some x ∧ len ≤ cap ∧ cap ≤ maxLen ∧ zs.length = cap ∧ (∀ i, i < zs.length → w.cell? (x.add i) = some (.int k (zs.getD i 0))) ∧ ∀ n ∈ zs, (Lit.int k n).wf = true) :
    Sl w a len cap 1 ((zs.take len).map (Value.int k)) := by
  rcases h with ⟨rfl, rfl, rfl, rfl⟩ | ⟨x, rfl, hlc, hcm, hl, hc, _⟩
  · exact Sl.nil w 1
  · refine ⟨by simp; omega, hlc, hcm, by simp, fun j u hj => ⟨x, rfl, ?_⟩⟩
    simp only [List.getElem?_map, List.getElem?_take] at hj
    by_cases hlt : j < len
    · rw [if_pos hlt, List.getElem?_eq_getElem (by omega)] at hj
      simp at hj
      subst hj
      rw [hc j (by omega)]
      simp [List.getD, List.getElem?_eq_getElem (show j < zs.length by omega)]
    · rw [if_neg hlt] at hj
      simp at hj

/-- a literal's new block -/
theorem Sl.lit (w : World) (cs : Array Value) (e : TypeId) (n size : Nat) (hn : cs.size = n * size) (hm : n ≤ maxLen) : Sl (w.alloc (.cells cs e)) (some ⟨w.heap.size, 0, none⟩) n n size cs.toList :=
  ⟨by simpa using hn, Nat.le_refl _, hm, by simp, fun j u hj => ⟨_, rfl, by
    rw [addr_add, Nat.zero_add, World.cell?_alloc_at _ _ _ _ rfl]
    simpa using hj⟩⟩

theorem ints_one (k : IntKind) (zs : List Int) : ∀ u ∈ zs.map (Value.int k), u.oneCell' = true := by
  intro u hu
  obtain ⟨x, _, rfl⟩ := List.mem_map.1 hu
  rfl

/-- An operation whose run is known. -/
theorem wpL_run {P : Program} {w w' : World} {ops : Array Oper} {rest : List Oper} {o : Oper} {a : Act} {Q : Exit → Act → World → Prop} (hgd : Region.wanted o (yielded ops a.tmps) = true) {v : Value}
    (hrun : (execOp a.eval o).run P w = .ok (.value v) w') (h : wpList P ops Q rest (a.put o.dst v) w') : wpList P ops Q (o :: rest) a w := by
  refine wpList_step fun K hK => ?_
  rw [if_pos hgd]
  unfold Oper.wp
  rw [hrun]
  exact hK _ _ h

theorem own_forms {w : World} {base : Nat} {e : TypeId} {size : Nat} {v : Value} {n : Nat} {xs : List Value} (h : w.ownsRow base e size v n xs) : ∃ ad c, v = .slice ad n c ∧ (ad = none ∧ n = 0 ∧ c = 0 ∨ ∃ g, ad = some ⟨g, 0, none⟩) := by
  rcases h.2 with ⟨rfl, rfl⟩ | ⟨g, cap, cur, rfl, _⟩
  · exact ⟨none, 0, rfl, .inl ⟨rfl, rfl, rfl⟩⟩
  · exact ⟨_, _, rfl, .inr ⟨g, rfl⟩⟩

theorem run_append {P : Program} {w : World} {t ty e : TypeId} {size bytes : Nat} {z : Value} (el : Elem P t e size bytes z)
    (base : Nat) {ad : Option Addr} {n c : Nat} {xs : List Value} (hown : w.ownsRow base e size (.slice ad n c) n xs)
    {ad2 : Option Addr} {m c2 : Nat} {news : List Value} (hsl : Sl w ad2 m c2 size news) (h1 : ∀ u ∈ news, u.oneCell' = true)
    (h63 : n + m ≤ maxLen) (hbytes : (n + m) * bytes ≤ 140737488355328) (hbase : base ≤ w.heap.size) :
    ∃ ad' c' w', (Builtin.append_ #[t, t] ty #[.slice ad n c, .slice ad2 m c2]).run P w = .ok (.slice ad' (n + m) c') w' ∧ w'.ownsRow base e size (.slice ad' (n + m) c') (n + m) (xs ++ news) ∧ w.grownBy w' (Value.ownBlock (.slice ad n c)) ∧
      (ad' = ad ∨ ad' = some ⟨w.heap.size, 0, none⟩) ∧ (ad' = none ↔ ad = none ∧ m = 0) := by
  obtain ⟨i, hi, hz, hsize, hby⟩ := info_parts el.info
  cases ad2 with
  | none =>
    obtain ⟨hl, hmc, hcm, hnil, hcells⟩ := hsl
    obtain ⟨rfl, rfl⟩ := hnil rfl
    have : news = [] := by cases news with | nil => rfl | cons => simp at hl
    subst this
    exact ⟨ad, c, w, run_append_owned_none (P := P) (w := w) base t ty e i size el.ht hi _ n xs hown, by simpa using hown, World.grownBy.refl _ _, .inl rfl, by simp⟩
  | some ad2 =>
    obtain ⟨hl, hmc, hcm, hnil, hcells⟩ := hsl
    obtain ⟨v', w', hr, hown', hgrow, hnil', hat⟩ := run_append_own_at (P := P) w base t ty e i z size bytes el.ht hi hz hsize hby el.hzs el.hsz _ n xs hown ad2 m c2 news hl (fun j u hj => by
      obtain ⟨y, hy, hc⟩ := hcells j u hj
      cases hy
      exact hc) h1 h63 hbytes hbase
    obtain ⟨ad', c', rfl, hf⟩ := own_forms hown'
    obtain ⟨ad0, c0, hv0, hadf⟩ := own_forms hown
    simp only [Value.slice.injEq, true_and] at hv0
    obtain ⟨rfl, rfl⟩ := hv0
    refine ⟨ad', c', w', hr, hown', hgrow, ?_, ?_⟩
    · rcases hf with ⟨rfl, _⟩ | ⟨g, rfl⟩ <;> rcases hadf with ⟨rfl, _⟩ | ⟨g', rfl⟩ <;> simp [Value.ownBlock] at hat ⊢ <;> omega
    · constructor
      · rintro rfl
        rcases hf with ⟨_, h0, rfl⟩ | ⟨g, hg⟩
        · rw [h0] at hnil'
          have h2 := hnil'.1 rfl
          have h3 := h2.1
          simp at h3
          exact ⟨h3.1, h2.2⟩
        · cases hg
      · rintro ⟨rfl, rfl⟩
        rcases hadf with ⟨_, rfl, rfl⟩ | ⟨g, hg⟩
        · have h2 := hnil'.2 ⟨rfl, rfl⟩
          simp at h2
          exact h2.1
        · cases hg

/-- 'append(s, x...)', s the call's own (or nil), x whatever. -/
theorem wpL_append {P : Program} {w : World} {ops : Array Oper} {rest : List Oper} {o : Oper} {a : Act} {Q : Exit → Act → World → Prop} {t e : TypeId} {size bytes : Nat} {z : Value} (el : Elem P t e size bytes z)
    (hgd : Region.wanted o (yielded ops a.tmps) = true) (s x : Operand) (ho : o.op = .call { callee := .builtin .append, args := #[s, x], argTypes := #[t, t] })
    (base : Nat) {ad : Option Addr} {n c : Nat} {xs : List Value} (hs : a.eval s = .slice ad n c) (hown : w.ownsRow base e size (.slice ad n c) n xs)
    {ad2 : Option Addr} {m c2 : Nat} {news : List Value} (hx : a.eval x = .slice ad2 m c2) (hsl : Sl w ad2 m c2 size news) (h1 : ∀ u ∈ news, u.oneCell' = true)
    (h63 : n + m ≤ maxLen) (hbytes : (n + m) * bytes ≤ 140737488355328) (hbase : base ≤ w.heap.size)
    (h : ∀ ad' c' w', w'.ownsRow base e size (.slice ad' (n + m) c') (n + m) (xs ++ news) → w.grownBy w' (Value.ownBlock (.slice ad n c)) →
      (ad' = ad ∨ ad' = some ⟨w.heap.size, 0, none⟩) → (ad' = none ↔ ad = none ∧ m = 0) → wpList P ops Q rest (a.put o.dst (.slice ad' (n + m) c')) w') :
    wpList P ops Q (o :: rest) a w := by
  obtain ⟨ad', c', w', hr, h2, h3, h4, h5⟩ := run_append (P := P) (ty := o.type) el base hown hsl h1 h63 hbytes hbase
  refine wpL_run hgd (v := .slice ad' (n + m) c') (w' := w') ?_ (h ad' c' w' h2 h3 h4 h5)
  unfold execOp
  simp only [ho, resolve, invoke, builtin, Sem.run_bind, Sem.run_pure, Result.andThen_ok, List.map_toArray, List.map_cons, List.map_nil, hs, hx, hr]

/-- 'make([]T, n)'. -/
theorem wpL_make {P : Program} {w : World} {ops : Array Oper} {rest : List Oper} {o : Oper} {a : Act} {Q : Exit → Act → World → Prop} {t e : TypeId} {size bytes : Nat} {z : Value} (el : Elem P t e size bytes z)
    (hg : Region.wanted o (yielded ops a.tmps) = true) (l c : Operand) (hop : o.op = Op.makeSlice t l c) (base : Nat) {kl kc : IntKind} {L C : Int} (n : Nat) (hl : a.eval l = .int kl L) (hc : a.eval c = .int kc C) (hL : L = (n : Int)) (hC : C = (n : Int))
    (b2 : bytes * n ≤ 281474976710656) (b3 : n ≤ maxLen) (b4 : base ≤ w.heap.size)
    (hK : ∀ w', w'.ownsRow base e size (.slice (some ⟨w.heap.size, 0, none⟩) n n) n (madeCells z.cells (n * size)).toList → w.grownBy w' none → wpList P ops Q rest (a.put o.dst (.slice (some ⟨w.heap.size, 0, none⟩) n n)) w') :
    wpList P ops Q (o :: rest) a w := by
  obtain ⟨i, hi, hz, hsize, hby⟩ := info_parts el.info
  obtain ⟨w', hrun, r1, r2⟩ := run_make_full (P := P) w base t e i z size el.ht hi hz hsize kl kc n (by rw [hby]; exact b2) b3 b4
  subst hL
  subst hC
  refine wpL_run hg ?_ (hK w' r1 r2)
  simp [execOp, hop, hl, hc, hrun, Result.andThen]

/-! ### x[lo:hi] -/
/-- where the part from element l on begins -/
def subAd (ad : Option Addr) (c l size : Nat) : Option Addr := if c = l then ad else ad.map (·.add (l * size))
theorem add_block (x : Addr) (j : Nat) : (x.add j).block = x.block := by unfold Addr.add; split <;> rfl
theorem add_add {w : World} (x : Addr) (i j : Nat) {u : Value} (h : w.cell? (x.add (i + j)) = some u) : ((x.add i).add j) = x.add (i + j) := by
  unfold Addr.add
  by_cases h1 : i = 0
  · subst h1; simp
  · by_cases h2 : j = 0
    · subst h2; simp
    · simp [h1, h2, Nat.add_assoc]
theorem subAd_none {ad : Option Addr} {c l size : Nat} : subAd ad c l size = none ↔ ad = none := by unfold subAd; split <;> simp
theorem subAd_block {ad : Option Addr} {c l size : Nat} {y : Addr} (h : subAd ad c l size = some y) : ∃ x, ad = some x ∧ y.block = x.block := by
  unfold subAd at h
  split at h
  · exact ⟨y, h, rfl⟩
  · cases ad with
    | none => simp at h
    | some x =>
      simp only [Option.map_some, Option.some.injEq] at h
      exact ⟨x, rfl, by rw [← h, add_block]⟩

theorem Sl.sub {w : World} {ad : Option Addr} {n c size : Nat} {vs : List Value} (hs : Sl w ad n c size vs) {l h : Nat} (hl : l ≤ h) (hh : h ≤ n) :
    Sl w (subAd ad c l size) (h - l) (c - l) size ((vs.drop (l * size)).take ((h - l) * size)) := by
  obtain ⟨h1, h2, h3, h4, h5⟩ := hs
  have hle : l * size + (h - l) * size ≤ vs.length := by
    rw [h1, ← Nat.add_mul]
    exact Nat.mul_le_mul_right _ (by omega)
  refine ⟨by rw [List.length_take, List.length_drop]; omega, by omega, by omega, fun e => ?_, fun j u hj => ?_⟩
  · have := h4 (subAd_none.1 e); omega
  · rw [List.getElem?_take] at hj
    split at hj
    · rename_i hlt
      rw [List.getElem?_drop] at hj
      obtain ⟨x, hx, hc⟩ := h5 _ u hj
      subst hx
      unfold subAd
      by_cases e : c = l
      · exfalso
        have : h - l = 0 := by omega
        rw [this] at hlt
        omega
      · rw [if_neg e]
        exact ⟨_, rfl, by rw [add_add x _ _ hc]; exact hc⟩
    · cases hj

theorem run_slice {P : Program} {w : World} {t e : TypeId} {size bytes : Nat} {z : Value} (el : Elem P t e size bytes z) (ad : Option Addr) (n c : Nat) (lo hi : Option Value) (l h : Nat)
    (hlo : (lo = none ∧ l = 0) ∨ ∃ k, lo = some (.int k (l : Int))) (hhi : (hi = none ∧ h = n) ∨ ∃ k, hi = some (.int k (h : Int))) (hl : l ≤ h) (hh : h ≤ c) :
    (Instr.sliceAt t (.slice ad n c) lo hi none).run P w = .ok (.slice (subAd ad c l size) (h - l) (c - l)) w := by
  obtain ⟨i, hi', hz, hsize, hby⟩ := info_parts el.info
  subst hsize
  unfold subAd
  rcases hlo with ⟨rfl, rfl⟩ | ⟨k, rfl⟩ <;> rcases hhi with ⟨rfl, rfl⟩ | ⟨k', rfl⟩ <;>
    simp [Instr.sliceAt, Instr.slice, Instr.sliceBounds, Instr.sliceBound, asIntOf, run_underlying el.ht, sizeOf, typeInfo, hi', hl, hh]

theorem wpL_slice {P : Program} {w : World} {ops : Array Oper} {rest : List Oper} {o : Oper} {a : Act} {Q : Exit → Act → World → Prop} {t e : TypeId} {size bytes : Nat} {z : Value} (el : Elem P t e size bytes z)
    (hg : Region.wanted o (yielded ops a.tmps) = true) (x : Operand) (lo hi : Option Operand) (hop : o.op = Op.slice t x lo hi none) {ad : Option Addr} {n c : Nat} (hx : a.eval x = .slice ad n c) (l h : Nat)
    (hlo : (lo.map a.eval = none ∧ l = 0) ∨ ∃ k, lo.map a.eval = some (.int k (l : Int))) (hhi : (hi.map a.eval = none ∧ h = n) ∨ ∃ k, hi.map a.eval = some (.int k (h : Int))) (hl : l ≤ h) (hh : h ≤ c)
    (hK : ∀ ad', Hid (ad' = subAd ad c l size) → wpList P ops Q rest (a.put o.dst (.slice ad' (h - l) (c - l))) w) : wpList P ops Q (o :: rest) a w := by
  have hrun := run_slice (P := P) (w := w) el ad n c (lo.map a.eval) (hi.map a.eval) l h hlo hhi hl hh
  refine wpL_run hg ?_ (hK _ rfl)
  simp only [execOp, hop, hx, Option.map_none, Sem.run_bind, hrun, Result.andThen_ok, Sem.run_pure]

theorem ownBlock_ge {w : World} {base : Nat} {e : TypeId} {size : Nat} {v : Value} {n : Nat} {xs : List Value} (h : w.ownsRow base e size v n xs) : ∀ k, v.ownBlock = some k → base ≤ k := fun k hk => (h.lt k hk).1

/-- What reads below 'base' reads so behind writes to a row of one's own. -/
theorem Sl.past {w w' : World} {base : Nat} {e : TypeId} {size' : Nat} {v : Value} {m : Nat} {xs : List Value} {ad : Option Addr} {n c size : Nat} {vs : List Value} (h : Sl w ad n c size vs)
    (hown : w.ownsRow base e size' v m xs) (hg : w.grownBy w' v.ownBlock) (hlt : ∀ x, ad = some x → x.block < base) : Sl w' ad n c size vs :=
  h.grown hg fun x hx e => by have := ownBlock_ge hown _ e; have := hlt x hx; omega

theorem grown_drew (w : World) (row : Option Nat) : w.grownBy w.drew row := ⟨rfl, rfl, rfl, Nat.le_refl _, fun _ _ _ => rfl⟩

theorem below_drewN (B : Nat) (w : World) (n : Nat) : Below B w (w.drewN n) := ⟨rfl, rfl, rfl, Nat.le_refl _, fun _ _ => rfl⟩

theorem bcell {W w1 : World} (hb : Below W.heap.size W w1) : (∀ b o, b < W.heap.size → w1.cell? ⟨b, o, none⟩ = W.cell? ⟨b, o, none⟩) ∧ (∀ b o, b < W.heap.size → w1.frozen? ⟨b, o, none⟩ = W.frozen? ⟨b, o, none⟩) :=
  ⟨fun b o h => hb.cell (p := ⟨b, o, none⟩) h, fun b o h => hb.frozen (p := ⟨b, o, none⟩) h⟩

theorem below_of_regrown {B : Nat} {w : World} (hB : B ≤ w.heap.size) (d : Nat) (os : Array Obj) : Below B w (grow (redrawn w d) os) := (below_regrown w d os).mono hB

/-! ### What came in: arrays of numbers -/
section
variable {H : Type} {enc : TypeId × Value → H} {P : Program} {w : World} {base : Nat} {spare : Nat → Bool} {held : Bool}

theorem mapM_ints {k : IntKind} {e : TypeId} (he : P.underlying e = some (.int k)) (hce : P.cellsOf e = 1) {fuel : Nat} {cs : List Value} :
    ∀ (n m : Nat) (xs : List (DataW H × List MemPlace)), m + n ≤ cs.length → (List.range' m n).mapM (fun i => DataW.trod enc P w base spare held fuel e ((cs.drop (i * P.cellsOf e)).take (P.cellsOf e))) = some xs →
      ∃ zs : List Int, zs.length = n ∧ (cs.drop m).take n = zs.map (Value.int k) ∧ ∀ x ∈ zs, (Lit.int k x).wf = true
  | 0, m, xs, _, _ => ⟨[], rfl, by simp, by simp⟩
  | n + 1, m, xs, hl, h => by
    rw [List.range'_succ, List.mapM_cons] at h
    obtain ⟨x, hx, h⟩ := Option.bind_eq_some_iff.1 h
    obtain ⟨ys, hys, _⟩ := Option.bind_eq_some_iff.1 h
    obtain ⟨zs, hz1, hz2, hz3⟩ := mapM_ints he hce n (m + 1) ys (by omega) hys
    rw [hce, Nat.mul_one] at hx
    have hcell : (cs.drop m).take 1 = [cs[m]'(by omega)] := by
      rw [List.drop_eq_getElem_cons (by omega)]
      rfl
    rw [hcell] at hx
    obtain ⟨z, hz, hwf⟩ : ∃ z, cs[m]'(by omega) = .int k z ∧ (Lit.int k z).wf = true := by
      cases fuel with
      | zero => simp [DataW.trod] at hx
      | succ f =>
        simp only [DataW.trod, he] at hx
        split at hx <;> simp_all
    refine ⟨z :: zs, by simp [hz1], ?_, by simpa [hwf] using hz3⟩
    rw [List.drop_eq_getElem_cons (by omega), List.take_succ_cons, hz2, hz]
    rfl

theorem open_int_array {k : IntKind} {t e : TypeId} {n : Nat} (ht : P.underlying t = some (.array n e)) (he : P.underlying e = some (.int k)) (hce : P.cellsOf e = 1) (hct : P.cellsOf t = n)
    {r : Reach} {b0 : Nat} {v : Value} {d : DataW H} {ps : List MemPlace} (hv : Value.okWide P w r b0 t v) (h : DataW.Trod enc P w base spare held t v d ps) :
    ∃ zs : List Int, zs.length = n ∧ v = .agg (zs.map (Value.int k)).toArray ∧ ∀ x ∈ zs, (Lit.int k x).wf = true := by
  simp only [Value.okWide, ht] at hv
  obtain ⟨cs, rfl, hsz, _⟩ := hv
  obtain ⟨fuel, hf⟩ := h
  cases fuel with
  | zero => simp [DataW.trod] at hf
  | succ f =>
    simp only [Value.cells, DataW.trod, ht] at hf
    rw [if_pos (by simpa using hsz)] at hf
    obtain ⟨xs, hxs, _⟩ := Option.map_eq_some_iff.1 hf
    rw [List.range_eq_range'] at hxs
    have hl : cs.toList.length = n := by rw [Array.length_toList, hsz, hct]
    obtain ⟨zs, h1, h2, h3⟩ := mapM_ints he hce n 0 xs (by omega) hxs
    refine ⟨zs, h1, ?_, h3⟩
    rw [List.drop_zero, List.take_of_length_le (by omega)] at h2
    rw [← h2]
end

theorem wf_u16' {n : Int} (h : (Lit.int .u16 n).wf = true) : 0 ≤ n ∧ n ≤ 65535 := by
  simp [Lit.wf, IntKind.min, IntKind.max, IntKind.signed, IntKind.bits] at h
  omega
theorem wf_i64' {n : Int} (h : (Lit.int .i64 n).wf = true) : -9223372036854775808 ≤ n ∧ n ≤ 9223372036854775807 := by
  simp [Lit.wf, IntKind.min, IntKind.max, IntKind.signed, IntKind.bits] at h
  omega
theorem wf_u8' {n : Int} (h : (Lit.int .u8 n).wf = true) : 0 ≤ n ∧ n ≤ 255 := by
  simp [Lit.wf, IntKind.min, IntKind.max, IntKind.signed, IntKind.bits] at h
  omega
theorem wf_u32' {n : Int} (h : (Lit.int .u32 n).wf = true) : 0 ≤ n ∧ n ≤ 4294967295 := by
  simp [Lit.wf, IntKind.min, IntKind.max, IntKind.signed, IntKind.bits] at h
  omega
theorem wf_i32' {n : Int} (h : (Lit.int .i32 n).wf = true) : -2147483648 ≤ n ∧ n ≤ 2147483647 := by
  simp [Lit.wf, IntKind.min, IntKind.max, IntKind.signed, IntKind.bits] at h
  omega
theorem wf_u64' {n : Int} (h : (Lit.int .u64 n).wf = true) : 0 ≤ n ∧ n ≤ 18446744073709551615 := by
  simp [Lit.wf, IntKind.min, IntKind.max, IntKind.signed, IntKind.bits] at h
  omega

end Go.Proofs.Ytmigbcoobbcahaa
