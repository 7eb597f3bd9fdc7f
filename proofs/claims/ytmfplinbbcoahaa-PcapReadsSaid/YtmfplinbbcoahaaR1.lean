/-
  Joined by program (merge.py): Base, Bytes, Octet, Get, Octet2, Octet3, Octet4, Carry, Step, Str, Kit, Open, Plain1, PlainOpt.
-/
import Derived.WalkKit
import Derived.Handy
import Derived.Lib.Hide
import Derived.Lib.QuietBelow
import Derived.Maps.AppendAt
import Derived.KernelRfl
import Derived.ProofKit
import Derived.OpenShut
import Derived.ShutString
import Derived.ChangeOld
import Derived.Below
import Derived.WalkSpells
import Derived.Test.YtmfplinbbcoahaaProg
import Derived.RegionTactic
import Derived.BigRegion
import Derived.RangeFuncNested
import Derived.RangeFuncBound
import Derived.RangeFuncCalls
import Derived.RangeFuncLeaves
import Derived.RangeFuncBox
import Derived.Shelf.Abstract
import Derived.Shelf.RegionOpen
import Derived.OwnWalkIn
import Derived.TacticsInMore
import Derived.LoopNIn
import Derived.LoopIn
import Derived.Deep.RegionHeld3
import Derived.Deep.WholeRow
import Derived.ArgAppend
set_option linter.unusedVariables false
set_option linter.unusedSimpArgs false
set_option maxRecDepth 100000
set_option maxHeartbeats 16000000
namespace Go.Proofs.Ytmfplinbbcoahaa
open Go.RowKit Go.Sort
theorem Hd {p : Prop} (h : p) : RowKit.Hid p := Lib.hid h
structure Elem (P : Program) (t e : TypeId) (size bytes : Nat) (z : Value) : Prop where
  ht : P.underlying t = some (.slice e)
  info : (P.info? e).map (fun i => (i.zero, i.size, i.bytes)) = some (some z, size, bytes)
  hzs : z.cells.size = size
  hsz : 0 < size
def Sl (w : World) (ad : Option Addr) (n c size : Nat) (vs : List Value) : Prop :=
  vs.length = n * size ∧ n ≤ c ∧ c ≤ maxLen ∧ (ad = none → n = 0 ∧ c = 0) ∧ ∀ j u, vs[j]? = some u → ∃ x, ad = some x ∧ w.cell? (x.add j) = some u
theorem cell_addr {w : World} {x : Addr} {u : Value} (h : w.cell? x = some u) : ∃ b off, x = ⟨b, off, none⟩ ∧ b < w.heap.size := by
  obtain ⟨b, off, sp⟩ := x
  have hb := World.block_lt_of_cell? w _ h
  cases sp with
  | none => exact ⟨b, off, rfl, hb⟩
  | some s =>
    exfalso
    simp only [World.cell?] at h
    split at h <;> simp at h
theorem z36 (b off j : Nat) : (⟨b, off, none⟩ : Addr).add j = ⟨b, off + j, none⟩ := by
  unfold Addr.add
  split
  · subst_vars; rfl
  · rfl
theorem add_zero (x : Addr) : x.add 0 = x := by unfold Addr.add; simp
theorem Sl.at {w : World} {ad : Option Addr} {n c size : Nat} {vs : List Value} (h : Sl w ad n c size vs) {j : Nat} (hj : j < vs.length) :
    ∃ b off, ad = some ⟨b, off, none⟩ ∧ b < w.heap.size ∧ ∀ i (hi : i < vs.length), w.cell? ⟨b, off + i, none⟩ = some vs[i] := by
  have h0 : 0 < vs.length := by omega
  obtain ⟨x, hx, hc⟩ := h.2.2.2.2 0 vs[0] (by simp [h0])
  rw [add_zero] at hc
  obtain ⟨b, off, rfl, hb⟩ := cell_addr hc
  refine ⟨b, off, hx, hb, fun i hi => ?_⟩
  obtain ⟨y, hy, hcy⟩ := h.2.2.2.2 i vs[i] (by simp [hi])
  rw [hx] at hy
  cases hy
  rwa [z36] at hcy
theorem Sl.len {w : World} {ad : Option Addr} {n c size : Nat} {vs : List Value} (h : Sl w ad n c size vs) : vs.length = n * size := h.1
theorem Sl.le {w : World} {ad : Option Addr} {n c size : Nat} {vs : List Value} (h : Sl w ad n c size vs) : n ≤ c := h.2.1
theorem Sl.of_same {w w' : World} {ad : Option Addr} {n c size : Nat} {vs : List Value} (h : Sl w ad n c size vs)
    (hs : ∀ x j u, ad = some x → w.cell? (x.add j) = some u → w'.cell? (x.add j) = some u) : Sl w' ad n c size vs :=
  ⟨h.1, h.2.1, h.2.2.1, h.2.2.2.1, fun j u hj => let ⟨x, hx, hc⟩ := h.2.2.2.2 j u hj; ⟨x, hx, hs x j u hx hc⟩⟩
theorem Sl.below {w w' : World} {ad : Option Addr} {n c size : Nat} {vs : List Value} (h : Sl w ad n c size vs) (hb : Below w.heap.size w w') : Sl w' ad n c size vs :=
  h.of_same fun x j u _ hc => by
    have hlt := World.block_lt_of_cell? w _ hc
    rw [hb.cell hlt]; exact hc
theorem Sl.grown {w w' : World} {row : Option Nat} {ad : Option Addr} {n c size : Nat} {vs : List Value} (h : Sl w ad n c size vs) (hg : w.grownBy w' row) (hne : ∀ x, ad = some x → row ≠ some x.block) : Sl w' ad n c size vs :=
  h.of_same fun x j u hx hc => by
    have hb : (x.add j).block = x.block := by unfold Addr.add; split <;> rfl
    exact hg.cell hc (by rw [hb]; exact fun e => hne x hx e.symm)
theorem Sl.nil (w : World) (size : Nat) : Sl w none 0 0 size [] := ⟨by simp, Nat.le_refl _, by simp [maxLen], fun _ => ⟨rfl, rfl⟩, fun j u h => by simp at h⟩
theorem Sl.of_own {w : World} {base : Nat} {e : TypeId} {size : Nat} {ad : Option Addr} {n c : Nat} {xs : List Value} (h : w.ownsRow base e size (.slice ad n c) n xs) : Sl w ad n c size xs := by
  obtain ⟨hl, h2 | ⟨g, cap, cur, hv, hb, hg, hnc, hcm, hcs, ht⟩⟩ := h
  · obtain ⟨hv, rfl⟩ := h2
    simp at hv
    obtain ⟨rfl, rfl⟩ := hv
    have : xs = [] := by cases xs with | nil => rfl | cons => simp at hl
    subst this
    exact Sl.nil w size
  · simp at hv
    obtain ⟨rfl, rfl⟩ := hv
    refine ⟨hl, hnc, hcm, by simp, fun j u hj => ⟨_, rfl, ?_⟩⟩
    exact World.ownsRow.cells (w := w) ⟨hl, .inr ⟨g, c, cur, rfl, hb, hg, hnc, hcm, hcs, ht⟩⟩ rfl j u hj
theorem Sl.of_row {k : IntKind} {w : World} {a : Option Addr} {len cap : Nat} {zs : List Int}
    (h : (a = none ∧ len = 0 ∧ cap = 0 ∧ zs = []) ∨ ∃ x, a = some x ∧ len ≤ cap ∧ cap ≤ maxLen ∧ zs.length = cap ∧ (∀ i, i < zs.length → w.cell? (x.add i) = some (.int k (zs.getD i 0))) ∧ ∀ n ∈ zs, (Lit.int k n).wf = true) :
    Sl w a len cap 1 ((zs.take len).map (Value.int k)) := by
  rcases h with ⟨rfl, rfl, rfl, rfl⟩ | ⟨x, rfl, hlc, hcm, hl, hc, _⟩
  · exact Sl.nil w 1
  · refine ⟨by simp; omega, hlc, hcm, by simp, fun j u hj => ⟨x, rfl, ?_⟩⟩
    simp only [List.getElem?_map, List.getElem?_take] at hj
    by_cases hlt : j < len
    · rw [if_pos hlt, List.getElem?_eq_getElem (by omega)] at hj
      simp at hj
      subst hj
      rw [hc j (by omega)]
      simp [List.getD, List.getElem?_eq_getElem (show j < zs.length by omega)]
    · rw [if_neg hlt] at hj
      simp at hj
theorem Sl.lit (w : World) (cs : Array Value) (e : TypeId) (n size : Nat) (hn : cs.size = n * size) (hm : n ≤ maxLen) : Sl (w.alloc (.cells cs e)) (some ⟨w.heap.size, 0, none⟩) n n size cs.toList :=
  ⟨by simpa using hn, Nat.le_refl _, hm, by simp, fun j u hj => ⟨_, rfl, by
    rw [z36, Nat.zero_add, World.cell?_alloc_at _ _ _ _ rfl]
    simpa using hj⟩⟩
theorem z23 {P : Program} {w w' : World} {ops : Array Oper} {rest : List Oper} {o : Oper} {a : Act} {Q : Exit → Act → World → Prop} (hgd : Region.wanted o (yielded ops a.tmps) = true) {v : Value}
    (hrun : (execOp a.eval o).run P w = .ok (.value v) w') (h : wpList P ops Q rest (a.put o.dst v) w') : wpList P ops Q (o :: rest) a w := by
  refine wpList_step fun K hK => ?_
  rw [if_pos hgd]
  unfold Oper.wp
  rw [hrun]
  exact hK _ _ h
theorem own_forms {w : World} {base : Nat} {e : TypeId} {size : Nat} {v : Value} {n : Nat} {xs : List Value} (h : w.ownsRow base e size v n xs) : ∃ ad c, v = .slice ad n c ∧ (ad = none ∧ n = 0 ∧ c = 0 ∨ ∃ g, ad = some ⟨g, 0, none⟩) := by
  rcases h.2 with ⟨rfl, rfl⟩ | ⟨g, cap, cur, rfl, _⟩
  · exact ⟨none, 0, rfl, .inl ⟨rfl, rfl, rfl⟩⟩
  · exact ⟨_, _, rfl, .inr ⟨g, rfl⟩⟩
theorem run_append {P : Program} {w : World} {t ty e : TypeId} {size bytes : Nat} {z : Value} (el : Elem P t e size bytes z)
    (base : Nat) {ad : Option Addr} {n c : Nat} {xs : List Value} (hown : w.ownsRow base e size (.slice ad n c) n xs)
    {ad2 : Option Addr} {m c2 : Nat} {news : List Value} (hsl : Sl w ad2 m c2 size news) (h1 : ∀ u ∈ news, u.oneCell' = true)
    (h63 : n + m ≤ maxLen) (hbytes : (n + m) * bytes ≤ 140737488355328) (hbase : base ≤ w.heap.size) :
    ∃ ad' c' w', (Builtin.append_ #[t, t] ty #[.slice ad n c, .slice ad2 m c2]).run P w = .ok (.slice ad' (n + m) c') w' ∧ w'.ownsRow base e size (.slice ad' (n + m) c') (n + m) (xs ++ news) ∧ w.grownBy w' (Value.ownBlock (.slice ad n c)) ∧
      (ad' = ad ∨ ad' = some ⟨w.heap.size, 0, none⟩) ∧ (ad' = none ↔ ad = none ∧ m = 0) := by
  obtain ⟨i, hi, hz, hsize, hby⟩ := info_parts el.info
  cases ad2 with
  | none =>
    obtain ⟨hl, hmc, hcm, hnil, hcells⟩ := hsl
    obtain ⟨rfl, rfl⟩ := hnil rfl
    have : news = [] := by cases news with | nil => rfl | cons => simp at hl
    subst this
    exact ⟨ad, c, w, run_append_owned_none (P := P) (w := w) base t ty e i size el.ht hi _ n xs hown, by simpa using hown, World.grownBy.refl _ _, .inl rfl, by simp⟩
  | some ad2 =>
    obtain ⟨hl, hmc, hcm, hnil, hcells⟩ := hsl
    obtain ⟨v', w', hr, hown', hgrow, hnil', hat⟩ := run_append_own_at (P := P) w base t ty e i z size bytes el.ht hi hz hsize hby el.hzs el.hsz _ n xs hown ad2 m c2 news hl (fun j u hj => by
      obtain ⟨y, hy, hc⟩ := hcells j u hj
      cases hy
      exact hc) h1 h63 hbytes hbase
    obtain ⟨ad', c', rfl, hf⟩ := own_forms hown'
    obtain ⟨ad0, c0, hv0, hadf⟩ := own_forms hown
    simp only [Value.slice.injEq, true_and] at hv0
    obtain ⟨rfl, rfl⟩ := hv0
    refine ⟨ad', c', w', hr, hown', hgrow, ?_, ?_⟩
    · rcases hf with ⟨rfl, _⟩ | ⟨g, rfl⟩ <;> rcases hadf with ⟨rfl, _⟩ | ⟨g', rfl⟩ <;> simp [Value.ownBlock] at hat ⊢ <;> omega
    · constructor
      · rintro rfl
        rcases hf with ⟨_, h0, rfl⟩ | ⟨g, hg⟩
        · rw [h0] at hnil'
          have h2 := hnil'.1 rfl
          have h3 := h2.1
          simp at h3
          exact ⟨h3.1, h2.2⟩
        · cases hg
      · rintro ⟨rfl, rfl⟩
        rcases hadf with ⟨_, rfl, rfl⟩ | ⟨g, hg⟩
        · have h2 := hnil'.2 ⟨rfl, rfl⟩
          simp at h2
          exact h2.1
        · cases hg
theorem z0k {P : Program} {w : World} {ops : Array Oper} {rest : List Oper} {o : Oper} {a : Act} {Q : Exit → Act → World → Prop} {t e : TypeId} {size bytes : Nat} {z : Value} (el : Elem P t e size bytes z)
    (hgd : Region.wanted o (yielded ops a.tmps) = true) (s x : Operand) (ho : o.op = .call { callee := .builtin .append, args := #[s, x], argTypes := #[t, t] })
    (base : Nat) {ad : Option Addr} {n c : Nat} {xs : List Value} (hs : a.eval s = .slice ad n c) (hown : w.ownsRow base e size (.slice ad n c) n xs)
    {ad2 : Option Addr} {m c2 : Nat} {news : List Value} (hx : a.eval x = .slice ad2 m c2) (hsl : Sl w ad2 m c2 size news) (h1 : ∀ u ∈ news, u.oneCell' = true)
    (h63 : n + m ≤ maxLen) (hbytes : (n + m) * bytes ≤ 140737488355328) (hbase : base ≤ w.heap.size)
    (h : ∀ ad' c' w', w'.ownsRow base e size (.slice ad' (n + m) c') (n + m) (xs ++ news) → w.grownBy w' (Value.ownBlock (.slice ad n c)) →
      (ad' = ad ∨ ad' = some ⟨w.heap.size, 0, none⟩) → (ad' = none ↔ ad = none ∧ m = 0) → wpList P ops Q rest (a.put o.dst (.slice ad' (n + m) c')) w') :
    wpList P ops Q (o :: rest) a w := by
  obtain ⟨ad', c', w', hr, h2, h3, h4, h5⟩ := run_append (P := P) (ty := o.type) el base hown hsl h1 h63 hbytes hbase
  refine z23 hgd (v := .slice ad' (n + m) c') (w' := w') ?_ (h ad' c' w' h2 h3 h4 h5)
  unfold execOp
  simp only [ho, resolve, invoke, builtin, Sem.run_bind, Sem.run_pure, Result.andThen_ok, List.map_toArray, List.map_cons, List.map_nil, hs, hx, hr]
theorem wpL_make {P : Program} {w : World} {ops : Array Oper} {rest : List Oper} {o : Oper} {a : Act} {Q : Exit → Act → World → Prop} {t e : TypeId} {size bytes : Nat} {z : Value} (el : Elem P t e size bytes z)
    (hg : Region.wanted o (yielded ops a.tmps) = true) (l c : Operand) (hop : o.op = Op.makeSlice t l c) (base : Nat) {kl kc : IntKind} {L C : Int} (n : Nat) (hl : a.eval l = .int kl L) (hc : a.eval c = .int kc C) (hL : L = (n : Int)) (hC : C = (n : Int))
    (b2 : bytes * n ≤ 281474976710656) (b3 : n ≤ maxLen) (b4 : base ≤ w.heap.size)
    (hK : ∀ w', w'.ownsRow base e size (.slice (some ⟨w.heap.size, 0, none⟩) n n) n (madeCells z.cells (n * size)).toList → w.grownBy w' none → wpList P ops Q rest (a.put o.dst (.slice (some ⟨w.heap.size, 0, none⟩) n n)) w') :
    wpList P ops Q (o :: rest) a w := by
  obtain ⟨i, hi, hz, hsize, hby⟩ := info_parts el.info
  obtain ⟨w', hrun, r1, r2⟩ := run_make_full (P := P) w base t e i z size el.ht hi hz hsize kl kc n (by rw [hby]; exact b2) b3 b4
  subst hL
  subst hC
  refine z23 hg ?_ (hK w' r1 r2)
  simp [execOp, hop, hl, hc, hrun, Result.andThen]
def subAd (ad : Option Addr) (c l size : Nat) : Option Addr := if c = l then ad else ad.map (·.add (l * size))
theorem add_block (x : Addr) (j : Nat) : (x.add j).block = x.block := by unfold Addr.add; split <;> rfl
theorem add_add {w : World} (x : Addr) (i j : Nat) {u : Value} (h : w.cell? (x.add (i + j)) = some u) : ((x.add i).add j) = x.add (i + j) := by
  unfold Addr.add
  by_cases h1 : i = 0
  · subst h1; simp
  · by_cases h2 : j = 0
    · subst h2; simp
    · simp [h1, h2, Nat.add_assoc]
theorem subAd_none {ad : Option Addr} {c l size : Nat} : subAd ad c l size = none ↔ ad = none := by unfold subAd; split <;> simp
theorem Sl.sub {w : World} {ad : Option Addr} {n c size : Nat} {vs : List Value} (hs : Sl w ad n c size vs) {l h : Nat} (hl : l ≤ h) (hh : h ≤ n) :
    Sl w (subAd ad c l size) (h - l) (c - l) size ((vs.drop (l * size)).take ((h - l) * size)) := by
  obtain ⟨h1, h2, h3, h4, h5⟩ := hs
  have hle : l * size + (h - l) * size ≤ vs.length := by
    rw [h1, ← Nat.add_mul]
    exact Nat.mul_le_mul_right _ (by omega)
  refine ⟨by rw [List.length_take, List.length_drop]; omega, by omega, by omega, fun e => ?_, fun j u hj => ?_⟩
  · have := h4 (subAd_none.1 e); omega
  · rw [List.getElem?_take] at hj
    split at hj
    · rename_i hlt
      rw [List.getElem?_drop] at hj
      obtain ⟨x, hx, hc⟩ := h5 _ u hj
      subst hx
      unfold subAd
      by_cases e : c = l
      · exfalso
        have : h - l = 0 := by omega
        rw [this] at hlt
        omega
      · rw [if_neg e]
        exact ⟨_, rfl, by rw [add_add x _ _ hc]; exact hc⟩
    · cases hj
theorem run_slice {P : Program} {w : World} {t e : TypeId} {size bytes : Nat} {z : Value} (el : Elem P t e size bytes z) (ad : Option Addr) (n c : Nat) (lo hi : Option Value) (l h : Nat)
    (hlo : (lo = none ∧ l = 0) ∨ ∃ k, lo = some (.int k (l : Int))) (hhi : (hi = none ∧ h = n) ∨ ∃ k, hi = some (.int k (h : Int))) (hl : l ≤ h) (hh : h ≤ c) :
    (Instr.sliceAt t (.slice ad n c) lo hi none).run P w = .ok (.slice (subAd ad c l size) (h - l) (c - l)) w := by
  obtain ⟨i, hi', hz, hsize, hby⟩ := info_parts el.info
  subst hsize
  unfold subAd
  rcases hlo with ⟨rfl, rfl⟩ | ⟨k, rfl⟩ <;> rcases hhi with ⟨rfl, rfl⟩ | ⟨k', rfl⟩ <;>
    simp [Instr.sliceAt, Instr.slice, Instr.sliceBounds, Instr.sliceBound, asIntOf, run_underlying el.ht, sizeOf, typeInfo, hi', hl, hh]
theorem z0t {P : Program} {w : World} {ops : Array Oper} {rest : List Oper} {o : Oper} {a : Act} {Q : Exit → Act → World → Prop} {t e : TypeId} {size bytes : Nat} {z : Value} (el : Elem P t e size bytes z)
    (hg : Region.wanted o (yielded ops a.tmps) = true) (x : Operand) (lo hi : Option Operand) (hop : o.op = Op.slice t x lo hi none) {ad : Option Addr} {n c : Nat} (hx : a.eval x = .slice ad n c) (l h : Nat)
    (hlo : (lo.map a.eval = none ∧ l = 0) ∨ ∃ k, lo.map a.eval = some (.int k (l : Int))) (hhi : (hi.map a.eval = none ∧ h = n) ∨ ∃ k, hi.map a.eval = some (.int k (h : Int))) (hl : l ≤ h) (hh : h ≤ c)
    (hK : ∀ ad', Hid (ad' = subAd ad c l size) → wpList P ops Q rest (a.put o.dst (.slice ad' (h - l) (c - l))) w) : wpList P ops Q (o :: rest) a w := by
  have hrun := run_slice (P := P) (w := w) el ad n c (lo.map a.eval) (hi.map a.eval) l h hlo hhi hl hh
  refine z23 hg ?_ (hK _ rfl)
  simp only [execOp, hop, hx, Option.map_none, Sem.run_bind, hrun, Result.andThen_ok, Sem.run_pure]
theorem z07 {w : World} {base : Nat} {e : TypeId} {size : Nat} {v : Value} {n : Nat} {xs : List Value} (h : w.ownsRow base e size v n xs) : ∀ k, v.ownBlock = some k → base ≤ k := fun k hk => (h.lt k hk).1
theorem grown_drew (w : World) (row : Option Nat) : w.grownBy w.drew row := ⟨rfl, rfl, rfl, Nat.le_refl _, fun _ _ _ => rfl⟩
theorem below_drewN (B : Nat) (w : World) (n : Nat) : Below B w (w.drewN n) := ⟨rfl, rfl, rfl, Nat.le_refl _, fun _ _ => rfl⟩
section
variable {H : Type} {enc : TypeId × Value → H} {P : Program} {w : World} {base : Nat} {spare : Nat → Bool} {held : Bool}
theorem mapM_ints {k : IntKind} {e : TypeId} (he : P.underlying e = some (.int k)) (hce : P.cellsOf e = 1) {fuel : Nat} {cs : List Value} :
    ∀ (n m : Nat) (xs : List (DataW H × List MemPlace)), m + n ≤ cs.length → (List.range' m n).mapM (fun i => DataW.trod enc P w base spare held fuel e ((cs.drop (i * P.cellsOf e)).take (P.cellsOf e))) = some xs →
      ∃ zs : List Int, zs.length = n ∧ (cs.drop m).take n = zs.map (Value.int k) ∧ ∀ x ∈ zs, (Lit.int k x).wf = true
  | 0, m, xs, _, _ => ⟨[], rfl, by simp, by simp⟩
  | n + 1, m, xs, hl, h => by
    rw [List.range'_succ, List.mapM_cons] at h
    obtain ⟨x, hx, h⟩ := Option.bind_eq_some_iff.1 h
    obtain ⟨ys, hys, _⟩ := Option.bind_eq_some_iff.1 h
    obtain ⟨zs, hz1, hz2, hz3⟩ := mapM_ints he hce n (m + 1) ys (by omega) hys
    rw [hce, Nat.mul_one] at hx
    have hcell : (cs.drop m).take 1 = [cs[m]'(by omega)] := by
      rw [List.drop_eq_getElem_cons (by omega)]
      rfl
    rw [hcell] at hx
    obtain ⟨z, hz, hwf⟩ : ∃ z, cs[m]'(by omega) = .int k z ∧ (Lit.int k z).wf = true := by
      cases fuel with
      | zero => simp [DataW.trod] at hx
      | succ f =>
        simp only [DataW.trod, he] at hx
        split at hx <;> simp_all
    refine ⟨z :: zs, by simp [hz1], ?_, by simpa [hwf] using hz3⟩
    rw [List.drop_eq_getElem_cons (by omega), List.take_succ_cons, hz2, hz]
    rfl
theorem open_int_array {k : IntKind} {t e : TypeId} {n : Nat} (ht : P.underlying t = some (.array n e)) (he : P.underlying e = some (.int k)) (hce : P.cellsOf e = 1) (hct : P.cellsOf t = n)
    {r : Reach} {b0 : Nat} {v : Value} {d : DataW H} {ps : List MemPlace} (hv : Value.okWide P w r b0 t v) (h : DataW.Trod enc P w base spare held t v d ps) :
    ∃ zs : List Int, zs.length = n ∧ v = .agg (zs.map (Value.int k)).toArray ∧ ∀ x ∈ zs, (Lit.int k x).wf = true := by
  simp only [Value.okWide, ht] at hv
  obtain ⟨cs, rfl, hsz, _⟩ := hv
  obtain ⟨fuel, hf⟩ := h
  cases fuel with
  | zero => simp [DataW.trod] at hf
  | succ f =>
    simp only [Value.cells, DataW.trod, ht] at hf
    rw [if_pos (by simpa using hsz)] at hf
    obtain ⟨xs, hxs, _⟩ := Option.map_eq_some_iff.1 hf
    rw [List.range_eq_range'] at hxs
    have hl : cs.toList.length = n := by rw [Array.length_toList, hsz, hct]
    obtain ⟨zs, h1, h2, h3⟩ := mapM_ints he hce n 0 xs (by omega) hxs
    refine ⟨zs, h1, ?_, h3⟩
    rw [List.drop_zero, List.take_of_length_le (by omega)] at h2
    rw [← h2]
end
theorem wf_u16' {n : Int} (h : (Lit.int .u16 n).wf = true) : 0 ≤ n ∧ n ≤ 65535 := by
  simp [Lit.wf, IntKind.min, IntKind.max, IntKind.signed, IntKind.bits] at h
  omega
theorem wf_u8' {n : Int} (h : (Lit.int .u8 n).wf = true) : 0 ≤ n ∧ n ≤ 255 := by
  simp [Lit.wf, IntKind.min, IntKind.max, IntKind.signed, IntKind.bits] at h
  omega
class Rch (w a : World) : Prop where
  h : Below w.heap.size w a
instance (w : World) : Rch w w := ⟨Below.refl _ _⟩
instance {w a : World} [r : Rch w a] : Rch w a.drew := ⟨r.h.drew⟩
instance {w a : World} {n : Nat} [r : Rch w a] : Rch w (a.drewN n) := ⟨r.h.trans (below_drewN _ _ _)⟩
instance {w a : World} {o : Obj} [r : Rch w a] : Rch w (a.alloc o) := ⟨r.h.alloc r.h.size _⟩
theorem bup {w a : World} [r : Rch w a] : Below w.heap.size w a := r.h
theorem sl {P : Program} {ops : Array Oper} {Q : Exit → Act → World → Prop} {op : Op} {ty : TypeId} {pos : String} {af : Array Edge} {gd : Option (Nat × Bool)} {rest : List Oper} {a : Act} {w : World} (k : Nat) (h : wpList P ops Q (⟨some k, op, ty, pos, af, gd⟩ :: rest) a w) : wpList P ops Q (⟨some k, op, ty, pos, af, gd⟩ :: rest) a w := h
theorem PT : (∀ (a : Act) (d : Tmp) (v : Value), a.put (some d) v = { a with tmps := a.tmps.setIfInBounds d v }) ∧ (∀ (a : Act) (v : Value), a.put none v = a) ∧ (∀ (l : List Value) (i : Nat) (v : Value), l.toArray.setIfInBounds i v = (l.set i v).toArray) ∧ (∀ (x v : Value) (l : List Value), (x :: l).set 0 v = v :: l) ∧ (∀ (x v : Value) (i : Nat) (l : List Value), (x :: l).set (i + 1) v = x :: l.set i v) :=
  ⟨fun _ _ _ => rfl, fun _ _ => rfl, fun _ _ _ => by simp, fun _ _ _ => rfl, fun _ _ _ _ => rfl⟩
class Ck (p : Prop) (w' : World) (w : outParam World) (q : outParam Prop) : Prop where
  h : p → Below w.heap.size w w' → q
theorem ck {p q : Prop} {w w' : World} [c : Ck p w' w q] (h : Hid p) (hE : Below w.heap.size w w') : Hid q := Hd (c.h h.out hE)
theorem ckk {p q : Prop} {w a w' : World} [c : Ck p w' w q] (h : Hid p) (hu : Below w.heap.size w a) (hb : Below a.heap.size a w') : Hid q := Hd (c.h h.out (hu.trans (hb.mono hu.size)))
instance {v w w' : World} : Ck (Below v.heap.size v w) w' w (Below v.heap.size v w') := ⟨fun h hE => h.trans (hE.mono h.size)⟩
class Cg (p : Prop) (w1 : World) (g : Nat) (w : outParam World) (s q : outParam Prop) : Prop where
  h : ∀ wd, p → Below w.heap.size w wd → wd.grownBy w1 (some g) → s → q
theorem cg {p s q : Prop} {w wd w1 : World} {g : Nat} [c : Cg p w1 g w s q] (h : Hid p) (hE : Below w.heap.size w wd) (hg : wd.grownBy w1 (some g)) (hs : s) : Hid q := Hd (c.h wd h.out hE hg hs)
def BV (l : List UInt8) : List Value := l.map fun b => Value.int .u8 (b.toNat : Int)
theorem z2g (l : List UInt8) : (BV l).length = l.length := by simp [BV]
theorem z11 (l : List UInt8) : ∀ u ∈ BV l, u.oneCell' = true := by
  intro u hu
  obtain ⟨x, _, rfl⟩ := List.mem_map.1 hu
  rfl
theorem z0i (l m : List UInt8) : BV (l ++ m) = BV l ++ BV m := by simp [BV]
theorem BV_get (l : List UInt8) (i : Nat) (h : i < (BV l).length) : (BV l)[i] = .int .u8 ((l[i]'(by simpa [BV] using h)).toNat : Int) := by simp [BV]
theorem BV_set (l : List UInt8) (i : Nat) (b : UInt8) : (BV l).set i (.int .u8 (b.toNat : Int)) = BV (l.set i b) := by simp [BV, List.map_set]
def at8 (l : List UInt8) (j : Nat) : UInt8 := l.getD j 0
theorem at8_get (l : List UInt8) (j : Nat) (h : j < l.length) : at8 l j = l[j] := by simp [at8, List.getD, h]
def ofInts (zs : List Int) : List UInt8 := zs.map fun z => UInt8.ofNat z.toNat
theorem BV_ofInts {zs : List Int} (h : ∀ n ∈ zs, (Lit.int .u8 n).wf = true) : BV (ofInts zs) = zs.map (Value.int .u8) := by
  unfold BV ofInts
  rw [List.map_map]
  refine List.map_congr_left fun z hz => ?_
  have hb := wf_u8' (h z hz)
  simp only [Function.comp]
  rw [UInt8.toNat_ofNat_of_lt' (by show z.toNat < 256; omega)]
  congr 1
  omega
def Bs (w : World) (ad : Option Addr) (n c : Nat) (l : List UInt8) : Prop := Sl w ad n c 1 (BV l)
theorem Bs.len {w : World} {ad : Option Addr} {n c : Nat} {l : List UInt8} (h : Bs w ad n c l) : n = l.length := by have := Sl.len h; rw [z2g] at this; omega
theorem Bs.le {w : World} {ad : Option Addr} {n c : Nat} {l : List UInt8} (h : Bs w ad n c l) : n ≤ c ∧ c ≤ 9223372036854775807 := ⟨h.2.1, by have := h.2.2.1; simp [maxLen] at this; omega⟩
theorem Bs.below {w w' : World} {ad : Option Addr} {n c : Nat} {l : List UInt8} (h : Bs w ad n c l) (hb : Below w.heap.size w w') : Bs w' ad n c l := Sl.below h hb
theorem Bs.at {w : World} {ad : Option Addr} {n c : Nat} {l : List UInt8} (h : Bs w ad n c l) {j : Nat} (hj : j < l.length) :
    ∃ b off, ad = some ⟨b, off, none⟩ ∧ b < w.heap.size ∧ ∀ i, i < l.length → w.cell? ⟨b, off + i, none⟩ = some (.int .u8 ((at8 l i).toNat : Int)) := by
  obtain ⟨b, off, ha, hb, hc⟩ := Sl.at h (j := j) (by rw [z2g]; exact hj)
  refine ⟨b, off, ha, hb, fun i hi => ?_⟩
  rw [hc i (by rw [z2g]; exact hi), BV_get]
  simp [at8, List.getD, hi]
theorem Bs.of_own {w : World} {base : Nat} {e : TypeId} {ad : Option Addr} {n c : Nat} {l : List UInt8} (h : w.ownsRow base e 1 (.slice ad n c) n (BV l)) : Bs w ad n c l := Sl.of_own h
def RetB (e : TypeId) (l : List UInt8) (w : World) (en : Ending) (w' : World) : Prop :=
  ∃ ad c, en = .returned (.slice ad l.length c) ∧ w'.ownsRow w.heap.size e 1 (.slice ad l.length c) l.length (BV l) ∧ Below w.heap.size w w'
theorem z29 {w : World} {base : Nat} {e : TypeId} {size : Nat} {ad : Option Addr} {n c : Nat} {xs : List Value} (h : w.ownsRow base e size (.slice ad n c) n xs) :
    (ad = none ∧ n = 0 ∧ c = 0) ∨ ∃ g, ad = some ⟨g, 0, none⟩ ∧ base ≤ g ∧ g < w.heap.size := by
  have hlt := h.lt
  rcases h.2 with ⟨hv, h0⟩ | ⟨g, cap, cur, hv, _⟩
  · simp at hv; exact .inl ⟨hv.1, h0, hv.2.2⟩
  · simp at hv
    obtain ⟨rfl, rfl⟩ := hv
    exact .inr ⟨g, rfl, (hlt g rfl).1, (hlt g rfl).2⟩
theorem z0r {w : World} {base base' : Nat} {e : TypeId} {size : Nat} {ad : Option Addr} {n c : Nat} {xs : List Value} (h : w.ownsRow base e size (.slice ad n c) n xs) (hb : base' ≤ base) : w.ownsRow base' e size (.slice ad n c) n xs := by
  obtain ⟨h1, h2⟩ := h
  refine ⟨h1, ?_⟩
  rcases h2 with h2 | ⟨g, cap, cur, hv, hg, r⟩
  · exact .inl h2
  · exact .inr ⟨g, cap, cur, hv, Nat.le_trans hb hg, r⟩
theorem own_below {w w' : World} {base B : Nat} {e : TypeId} {size : Nat} {ad : Option Addr} {n c : Nat} {xs : List Value} (h : w.ownsRow base e size (.slice ad n c) n xs) (hb : Below B w w') (hlt : ∀ g, ad = some ⟨g, 0, none⟩ → g < B) : w'.ownsRow base e size (.slice ad n c) n xs := by
  obtain ⟨h1, h2⟩ := h
  refine ⟨h1, ?_⟩
  rcases h2 with h2 | ⟨g, cap, cur, hv, hg, hh, r⟩
  · exact .inl h2
  · have hv' := hv
    simp at hv'
    exact .inr ⟨g, cap, cur, hv, hg, by rw [hb.block g (hlt g hv'.1)]; exact hh, r⟩
theorem z08 {w w' : World} {base : Nat} {e : TypeId} {size : Nat} {ad : Option Addr} {n c : Nat} {xs : List Value} (h : w.ownsRow base e size (.slice ad n c) n xs) (hb : Below w.heap.size w w') : w'.ownsRow base e size (.slice ad n c) n xs :=
  own_below h hb fun g hg => by
    rcases z29 h with ⟨h0, _⟩ | ⟨g', h1, _, h2⟩
    · rw [h0] at hg; cases hg
    · rw [h1] at hg; cases hg; exact h2
theorem own_cell {w : World} {base : Nat} {e : TypeId} {g n c : Nat} {l : List UInt8} (h : w.ownsRow base e 1 (.slice (some ⟨g, 0, none⟩) n c) n (BV l)) {j : Nat} (hj : j < n) : w.cell? ⟨g, j, none⟩ = some (.int .u8 ((at8 l j).toNat : Int)) := by
  have hl := h.1
  rw [z2g] at hl
  rw [h.cellAt j (by omega), List.getElem?_eq_getElem (by rw [z2g]; omega), BV_get]
  simp [at8, List.getD, show j < l.length by omega]
theorem own_store {w : World} {base : Nat} {e : TypeId} {g n c : Nat} {l : List UInt8} (h : w.ownsRow base e 1 (.slice (some ⟨g, 0, none⟩) n c) n (BV l)) (j : Nat) (b : UInt8) :
    (w.setCell ⟨g, j, none⟩ (.int .u8 (b.toNat : Int))).ownsRow base e 1 (.slice (some ⟨g, 0, none⟩) n c) n (BV (l.set j b)) ∧ w.grownBy (w.setCell ⟨g, j, none⟩ (.int .u8 (b.toNat : Int))) (some g) := by
  have := h.stored j (.int .u8 (b.toNat : Int))
  rwa [BV_set] at this
def revTo (l : List UInt8) (k : Nat) : List UInt8 := (List.range l.length).map fun j => if j < k ∨ l.length ≤ j + k then l.getD (l.length - 1 - j) 0 else l.getD j 0
theorem z20 (l : List UInt8) (k : Nat) : (revTo l k).length = l.length := by simp [revTo]
theorem z3m (l : List UInt8) (k j : Nat) (h : j < l.length) : (revTo l k).getD j 0 = if j < k ∨ l.length ≤ j + k then l.getD (l.length - 1 - j) 0 else l.getD j 0 := by
  simp [revTo, List.getD, h]
theorem ext_getD {l m : List UInt8} (hl : l.length = m.length) (h : ∀ j, j < l.length → l.getD j 0 = m.getD j 0) : l = m := by
  apply List.ext_getElem hl
  intro j h1 h2
  have := h j h1
  simpa [List.getD, h1, h2] using this
theorem revTo_zero (l : List UInt8) : revTo l 0 = l := by
  apply ext_getD (by rw [z20])
  intro j hj
  rw [z20] at hj
  rw [z3m l 0 j hj, if_neg (by omega)]
theorem revTo_end (l : List UInt8) (k : Nat) (h : l.length ≤ 2 * k + 1) : revTo l k = l.reverse := by
  apply ext_getD (by rw [z20]; simp)
  intro j hj
  rw [z20] at hj
  rw [z3m l k j hj]
  have hr : l.reverse.getD j 0 = l.getD (l.length - 1 - j) 0 := by
    simp [List.getD, List.getElem?_reverse hj]
  rw [hr]
  split
  · rfl
  · have : l.length - 1 - j = j := by omega
    rw [this]
theorem set_getD (l : List UInt8) (i j : Nat) (b : UInt8) (hi : i < l.length) : (l.set i b).getD j 0 = if i = j then b else l.getD j 0 := by
  simp only [List.getD, List.getElem?_set]
  split
  · subst_vars; simp
  · rfl
theorem revTo_succ (l : List UInt8) (k : Nat) (h : 2 * k + 1 < l.length) :
    ((revTo l k).set k (at8 (revTo l k) (l.length - 1 - k))).set (l.length - 1 - k) (at8 (revTo l k) k) = revTo l (k + 1) := by
  apply ext_getD (by simp [z20])
  intro j hj
  simp only [List.length_set, z20] at hj
  rw [set_getD _ _ _ _ (by simp [z20]; omega), set_getD _ _ _ _ (by simp [z20]; omega)]
  unfold at8
  have e1 : (revTo l k).getD k 0 = l.getD k 0 := by rw [z3m l k k (by omega), if_neg (by omega)]
  have e2 : (revTo l k).getD (l.length - 1 - k) 0 = l.getD (l.length - 1 - k) 0 := by rw [z3m l k _ (by omega), if_neg (by omega)]
  rw [e1, e2, z3m l (k + 1) j hj, z3m l k j hj]
  by_cases h1 : l.length - 1 - k = j
  · rw [if_pos h1, if_pos (by omega)]
    congr 1
    omega
  · rw [if_neg h1]
    by_cases h2 : k = j
    · rw [if_pos h2, if_pos (by omega)]
      congr 1
      omega
    · rw [if_neg h2]
      by_cases h3 : j < k ∨ l.length ≤ j + k
      · rw [if_pos h3, if_pos (by omega)]
      · rw [if_neg h3, if_neg (by omega)]
def byteAt (n i : Nat) : UInt8 := UInt8.ofNat (n / 2 ^ (8 * i))
theorem z21 (n i : Nat) : (byteAt n i).toNat = n / 2 ^ (8 * i) % 256 := by unfold byteAt; simp
theorem byteAt_int (n i : Nat) : (n : Int) / 2 ^ (8 * i) % 256 = ((byteAt n i).toNat : Int) := by
  rw [z21, Int.natCast_emod, Int.natCast_ediv, Int.natCast_pow]; rfl
def putLE (n k : Nat) : List UInt8 := (List.range k).map (byteAt n)
theorem z31 (n k : Nat) : (putLE n k).length = k := by simp [putLE]
def sizeOf8 (size : Int) : Nat := min size.toNat 8
def putL (n : Nat) (size : Int) (big : Bool) : List UInt8 := if big then (putLE n (sizeOf8 size)).reverse else putLE n (sizeOf8 size)
theorem z1n (n : Nat) (size : Int) (big : Bool) : (putL n size big).length = sizeOf8 size := by unfold putL; split <;> simp [z31]
def putTo (n L k : Nat) : List UInt8 := (List.range L).map fun i => if i < k then byteAt n i else 0
theorem putTo_length (n L k : Nat) : (putTo n L k).length = L := by simp [putTo]
theorem putTo_zero (n L : Nat) : BV (putTo n L 0) = List.replicate L (.int .u8 0) := by
  apply List.ext_getElem (by simp [BV, putTo])
  intro i h1 h2
  simp [BV, putTo]
theorem putTo_all (n L : Nat) : putTo n L L = putLE n L := by
  unfold putTo putLE
  refine List.map_congr_left fun i hi => ?_
  rw [if_pos (by simpa using hi)]
theorem putTo_succ (n L k : Nat) (h : k < L) : (putTo n L k).set k (byteAt n k) = putTo n L (k + 1) := by
  apply ext_getD (by simp [putTo])
  intro j hj
  simp only [List.length_set, putTo_length] at hj
  rw [set_getD _ _ _ _ (by rw [putTo_length]; exact h)]
  simp only [putTo, List.getD, List.getElem?_map, List.getElem?_range hj, Option.map_some, Option.getD_some]
  by_cases h1 : k = j
  · rw [if_pos h1, if_pos (by omega), h1]
  · rw [if_neg h1]
    by_cases h2 : j < k
    · rw [if_pos h2, if_pos (by omega)]
    · rw [if_neg h2, if_neg (by omega)]
def numBE (l : List UInt8) : Nat := l.foldl (fun n b => n * 256 + b.toNat) 0
theorem numBE_snoc (l : List UInt8) (b : UInt8) : numBE (l ++ [b]) = numBE l * 256 + b.toNat := by simp [numBE]
theorem numBE_lt (l : List UInt8) : numBE l < 256 ^ l.length := by
  have key : ∀ m : List UInt8, numBE m.reverse < 256 ^ m.length := by
    intro m
    induction m with
    | nil => simp [numBE]
    | cons b m ih =>
      rw [List.reverse_cons, numBE_snoc, List.length_cons, Nat.pow_succ]
      have := b.toNat_lt
      omega
  have := key l.reverse
  simpa using this
theorem numBE_lt7 (l : List UInt8) (h : l.length ≤ 7) : numBE l < 72057594037927936 :=
  Nat.lt_of_lt_of_le (numBE_lt l) (Nat.pow_le_pow_right (by omega) h)
def getN (l : List UInt8) (big : Bool) : Nat := if big then numBE (l.take 8) else numBE (l.take 8).reverse
def stepN (a : Nat) (b : UInt8) : Nat := a * 256 + b.toNat
theorem z15 (n : Nat) (h : n < 18446744073709551616) : IntKind.u64.wrap (n : Int) = n := by rw [IntKind.wrap_u64]; omega
theorem or_byte (a : Nat) (b : UInt8) (h : a < 72057594037927936) : bits BinOp.or .u64 (IntKind.u64.wrap ((a : Int) * 256)) ((b.toNat : Nat) : Int) = ((stepN a b : Nat) : Int) := by
  unfold stepN
  have hb := b.toNat_lt
  have e : IntKind.u64.wrap ((a : Int) * 256) = ((a * 256 : Nat) : Int) := by rw [IntKind.wrap_u64]; omega
  rw [e]
  show IntKind.u64.wrap ((BitVec.ofInt 64 ((a * 256 : Nat) : Int) ||| BitVec.ofInt 64 ((b.toNat : Nat) : Int)).toNat : Int) = _
  rw [BitVec.toNat_or]
  have e1 : (BitVec.ofInt 64 ((a * 256 : Nat) : Int)).toNat = a * 256 := by rw [BitVec.toNat_ofInt]; show (((a * 256 : Nat) : Int) % 18446744073709551616).toNat = _; omega
  have e2 : (BitVec.ofInt 64 ((b.toNat : Nat) : Int)).toNat = b.toNat := by rw [BitVec.toNat_ofInt]; show (((b.toNat : Nat) : Int) % 18446744073709551616).toNat = _; omega
  rw [e1, e2]
  have : a * 256 ||| b.toNat = a * 256 + b.toNat := by
    have := Nat.two_pow_add_eq_or_of_lt (i := 8) (b := b.toNat) hb a
    rw [Nat.mul_comm a 256]
    exact this.symm
  rw [this, z15 _ (by omega)]
theorem take_snoc8 (l : List UInt8) (k : Nat) (h : k < l.length) : l.take (k + 1) = l.take k ++ [at8 l k] := by
  rw [List.take_add_one, List.getElem?_eq_getElem h, at8_get l k h]; rfl
theorem z3b (l : List UInt8) (k : Nat) (h : k < l.length) : numBE (l.take (k + 1)) = stepN (numBE (l.take k)) (at8 l k) := by
  rw [take_snoc8 l k h, numBE_snoc]; rfl
def numFrom (l : List UInt8) (k : Nat) : Nat := numBE (l.reverse.take k)
theorem numFrom_succ (l : List UInt8) (k : Nat) (h : k < l.length) : numFrom l (k + 1) = stepN (numFrom l k) (at8 l (l.length - 1 - k)) := by
  unfold numFrom
  rw [z3b _ _ (by simpa using h)]
  have : at8 l.reverse k = at8 l (l.length - 1 - k) := by rw [at8_get _ _ (by simpa using h), at8_get _ _ (by omega), List.getElem_reverse]
  rw [this]
theorem numFrom_lt7 (l : List UInt8) (k : Nat) (h : k ≤ 7) : numFrom l k < 72057594037927936 := numBE_lt7 _ (by simp; omega)
theorem numFrom_all (l : List UInt8) : numFrom l l.length = numBE l.reverse := by unfold numFrom; rw [List.take_of_length_le (by simp)]
theorem numBE_map_snoc {α : Type} (f : α → UInt8) (pre : List α) (x : α) : numBE ((pre ++ [x]).map f) = stepN (numBE (pre.map f)) (f x) := by
  rw [List.map_append, List.map_cons, List.map_nil, numBE_snoc]; rfl
def strOf (l : List UInt8) : ByteArray := ⟨l.toArray⟩
theorem z16 (l : List UInt8) : (strOf l).toList = l := by
  unfold ByteArray.toList
  have key : ∀ (k : Nat) (r : List UInt8), k ≤ l.length → ByteArray.toList.loop (strOf l) (l.length - k) r = r.reverse ++ l.drop (l.length - k) := by
    intro k
    induction k with
    | zero =>
      intro r _
      unfold ByteArray.toList.loop
      rw [if_neg (by show ¬ (l.length - 0 < (strOf l).size); simp [strOf, ByteArray.size])]
      simp
    | succ k ih =>
      intro r hk
      unfold ByteArray.toList.loop
      rw [if_pos (by show l.length - (k + 1) < (strOf l).size; simp [strOf, ByteArray.size]; omega)]
      rw [show l.length - (k + 1) + 1 = l.length - k by omega, ih _ (by omega)]
      have hlt : l.length - (k + 1) < l.length := by omega
      rw [List.drop_eq_getElem_cons hlt, show l.length - (k + 1) + 1 = l.length - k by omega]
      have : (strOf l).get! (l.length - (k + 1)) = l[l.length - (k + 1)] := by
        simp [strOf, ByteArray.get!, hlt]
      rw [this]
      simp
  have := key l.length [] (Nat.le_refl _)
  simpa using this
theorem run_str {P : Program} {w : World} {src dst e : TypeId} {ad : Option Addr} {n c : Nat} {l : List UInt8} (hs : P.underlying src = some (.slice e)) (he : P.underlying e = some (.int .u8)) (hd : P.underlying dst = some .string) (hb : Bs w ad n c l) :
    (convert src dst (.slice ad n c)).run P w = .ok (.string (strOf l)) w := by
  have hn := hb.len
  subst hn
  cases ad with
  | none =>
    obtain ⟨_, _, _, h0, _⟩ := hb
    have : l = [] := List.length_eq_zero_iff.1 (h0 rfl).1
    subst this
    rw [run_convert_bytes_nil (P := P) w src e hs he _ _ dst hd]
    rfl
  | some x =>
    refine run_convert_bytes_back (P := P) w src dst e x c l hs he hd fun j hj => ?_
    obtain ⟨y, hy, hc⟩ := hb.2.2.2.2 j (.int .u8 (l[j].toNat : Int)) (by rw [List.getElem?_eq_getElem (by rw [z2g]; exact hj), BV_get])
    cases hy
    exact hc
theorem z2h {P : Program} {w : World} {ops : Array Oper} {rest : List Oper} {o : Oper} {a : Act} {Q : Exit → Act → World → Prop} {src dst e : TypeId} (hs : P.underlying src = some (.slice e)) (he : P.underlying e = some (.int .u8)) (hd : P.underlying dst = some .string)
    (hg : Region.wanted o (yielded ops a.tmps) = true) (x : Operand) (hop : o.op = Op.convert src dst x) {ad : Option Addr} {n c : Nat} {l : List UInt8} (hx : a.eval x = .slice ad n c) (hb : Bs w ad n c l)
    (h : wpList P ops Q rest (a.put o.dst (.string (strOf l))) w) : wpList P ops Q (o :: rest) a w := by
  refine z23 hg ?_ h
  simp only [execOp, hop, hx, Sem.run_bind, run_str hs he hd hb, Result.andThen_ok, Sem.run_pure]
def sameB (l m : List UInt8) : Bool := l == m
theorem sameB_str (l m : List UInt8) : ((strOf l).toList == (strOf m).toList) = sameB l m := by rw [z16, z16]; rfl
theorem sameB_self (l : List UInt8) : sameB l l = true := by simp [sameB]
theorem Bs.one (w : World) (e : TypeId) (b : UInt8) : Bs (w.alloc (.cells #[.int .u8 (b.toNat : Int)] e)) (some ⟨w.heap.size, 0, none⟩) 1 1 [b] :=
  Sl.lit w #[.int .u8 (b.toNat : Int)] e 1 1 rfl (by simp [maxLen])
def padI (n : Int) : Int := if n ≤ 0 then 0 else (4 - n % 4) % 4
def padN (n : Nat) : Nat := (4 - n % 4) % 4
theorem padN_le (n : Nat) : padN n ≤ 3 := by unfold padN; omega
theorem padI_nat (n : Nat) : padI (n : Int) = (padN n : Int) := by unfold padI padN; split <;> omega
def padL (l : List UInt8) : List UInt8 := l ++ List.replicate (padN l.length) 0
theorem z0w (l : List UInt8) : (padL l).length = l.length + padN l.length := by simp [padL]
def padTo (l : List UInt8) (k : Nat) : List UInt8 := l ++ List.replicate k 0
theorem padTo_succ (l : List UInt8) (k : Nat) : padTo l (k + 1) = padTo l k ++ [0] := by simp [padTo, List.replicate_succ']
theorem padTo_zero (l : List UInt8) : padTo l 0 = l := by simp [padTo]
theorem padN_end (n k : Nat) (h : (n + k) % 4 = 0) (hk : k ≤ padN n) : k = padN n := by unfold padN at *; omega
theorem padN_more (n k : Nat) (h : (n + k) % 4 ≠ 0) (hk : k ≤ padN n) : k < padN n := by unfold padN at *; omega
theorem padN_mod (n : Nat) : (n + padN n) % 4 = 0 := by unfold padN; omega
theorem putLE_succ (n k : Nat) : putLE n (k + 1) = putLE n k ++ [byteAt n k] := by simp [putLE, List.range_succ]
theorem byteAt_mod (n k : Nat) : ((n / 256 ^ k : Nat) : Int) % 256 = ((byteAt n k).toNat : Int) := by
  rw [z21, show (256 : Nat) ^ k = 2 ^ (8 * k) by rw [show (256 : Nat) = 2 ^ 8 from rfl, ← Nat.pow_mul]]
  omega
theorem quo_succ (n k : Nat) : ((n / 256 ^ k : Nat) : Int) / 256 = ((n / 256 ^ (k + 1) : Nat) : Int) := by
  rw [Nat.pow_succ, ← Nat.div_div_eq_div_mul]; omega
theorem putL_to (n : Nat) (size : Int) (big : Bool) (k : Nat) (h : k = sizeOf8 size) : (if big then (putLE n k).reverse else putLE n k) = putL n size big := by subst h; rfl
instance {w w' : World} {ad : Option Addr} {n c : Nat} {l : List UInt8} : Ck (Bs w ad n c l) w' w (Bs w' ad n c l) := ⟨fun h hE => h.below hE⟩
instance {w w' : World} {base : Nat} {e : TypeId} {size : Nat} {ad : Option Addr} {n c : Nat} {xs : List Value} : Ck (w.ownsRow base e size (.slice ad n c) n xs) w' w (w'.ownsRow base e size (.slice ad n c) n xs) := ⟨fun h hE => z08 h hE⟩
theorem elB : Elem Try.prog 24 5 1 1 (.int .u8 0) := ⟨Try.underlying24, by kernel_rfl, rfl, by omega⟩
theorem reverse_any (base : Nat) (ad : Option Addr) (n c : Nat) (l : List UInt8) (w : World) (hown : w.ownsRow base 5 1 (.slice ad n c) n (BV l)) (hn : n = l.length) (hsz : n ≤ 140737488351232) :
    Calls Try.prog 75 #[.slice ad n c] w fun e w' => e = .returned (.tuple #[]) ∧ w'.ownsRow base 5 1 (.slice ad n c) n (BV l.reverse) ∧ w.grownBy w' (Value.ownBlock (.slice ad n c)) := by
  have HN := Hd hn
  clear hn
  have HO := Hd hown
  clear hown
  go_enter Try.func75, Try.ntmps75
  go_wp2
  go_loopw [2, 3] (fun i j wr => ∃ k : Nat, k ≤ n ∧ i = .int .i64 k ∧ j = .int .i64 ((n : Int) - 1 - k) ∧ wr.ownsRow base 5 1 (.slice ad n c) n (BV (revTo l k)) ∧ w.grownBy wr (Value.ownBlock (.slice ad n c))) (fun i _ _ => n - (intOf i).toNat)
  case atStart => exact ⟨0, Nat.zero_le _, rfl, by simp, by rw [revTo_zero]; exact HO.out, World.grownBy.refl _ _⟩
  case round =>
    obtain ⟨k, hk, rfl, rfl, hown, hg⟩ := hrel
    by_cases hlt : 2 * k + 1 < n
    · rcases z29 hown with ⟨_, h0, _⟩ | ⟨g, rfl, hbg, hgs⟩
      · omega
      · have c1 := own_cell hown (j := k) (by omega)
        have c2 := own_cell hown (j := n - 1 - k) (by omega)
        have f1 := hown.frozenAt k
        have f2 := hown.frozenAt (n - 1 - k)
        have HOW := Hd hown
        have HG := Hd hg
        clear hown hg
        have b1 : (0 : Int) ≤ (n : Int) - 1 - k := by omega
        have b2 : (n : Int) - 1 - k < n := by omega
        have b3 : (k : Int) < n := by omega
        go_wp2_with fail
        go_region
        obtain ⟨w1, hw1⟩ : ∃ w1, w1 = ((wr.setCell ⟨g, k, none⟩ (.int .u8 (at8 (revTo l k) (n - 1 - k)).toNat)).setCell ⟨g, n - 1 - k, none⟩ (.int .u8 (at8 (revTo l k) k).toNat)).drew := ⟨_, rfl⟩
        have hR : w1.ownsRow base 5 1 (.slice (some ⟨g, 0, none⟩) n c) n (BV (revTo l (k + 1))) ∧ w.grownBy w1 (some g) := by
          subst hw1
          have hl := HN.out
          obtain ⟨o1, g1⟩ := own_store HOW.out k (at8 (revTo l k) (n - 1 - k))
          obtain ⟨o2, g2⟩ := own_store o1 (n - 1 - k) (at8 (revTo l k) k)
          have := revTo_succ l k (by omega)
          rw [← hl] at this
          rw [this] at o2
          exact ⟨World.ownsRow.drew o2, HG.out.trans (g1.trans (g2.trans (grown_drew _ _)))⟩
        have HR := Hd hR
        rw [← hw1]
        clear hw1 hR c1 c2 f1 f2 HOW HG
        go_wp2_with fail
        go_roundw
        case rel => exact ⟨k + 1, by omega, by go_num, by go_num, HR.out.1, HR.out.2⟩
        case measure => simp [intOf]; omega
    · have HOW := Hd hown
      have HG := Hd hg
      clear hown hg
      go_wp2_with fail
      go_end0
      refine ⟨rfl, ?_, HG.out⟩
      have := HOW.out
      rwa [revTo_end l k (by have := HN.out; omega)] at this
theorem z3h (n : Nat) (size : Int) (big : Bool) (w : World) (hn : (n : Int) ≤ 18446744073709551615) :
    Calls Try.prog 47 #[.int .u64 n, .int .i64 size, .bool big] w (RetB 5 (putL n size big) w) := by
  obtain ⟨L, hL⟩ : ∃ L, L = sizeOf8 size := ⟨_, rfl⟩
  have hL8 : L ≤ 8 := by rw [hL]; unfold sizeOf8; omega
  have HL := Hd hL
  have HC : Hid (size < 0 ∧ (L : Int) ≤ 0 ∨ (0 ≤ size ∧ size ≤ 8 ∧ size = L) ∨ (8 < size ∧ 8 ≤ L)) := Hd (by rw [hL]; unfold sizeOf8; omega)
  clear hL
  rcases HC.out with ⟨c1, c2⟩ | ⟨c1, c2, rfl⟩ | ⟨c1, c2⟩
  all_goals
    clear HC
    go_enter Try.func47, Try.ntmps47
    go_wp2_with (at_make; (refine wpL_make elB rfl (.tmp 11) (.tmp 11) rfl w.heap.size L rfl rfl (by omega) (by omega) (by omega) (by unfold maxLen; omega) (Nat.le_refl _) ?_))
    intro w1 hown1 hg1
    have HO1 : Hid (w1.ownsRow w.heap.size 5 1 (.slice (some ⟨w.heap.size, 0, none⟩) L L) L (BV (putTo n L 0))) := Hd (by rw [putTo_zero, ← toList_madeCells_one]; exact hown1)
    have HB1 := Hd ((Below.refl w.heap.size w).grown hg1 (Nat.le_refl _) (fun k e => by cases e))
    clear hown1 hg1
    go_wp2_with fail
    go_loopw [15, 8] (fun i _ wr => ∃ k : Nat, k ≤ L ∧ i = .int .i64 k ∧ wr.ownsRow w.heap.size 5 1 (.slice (some ⟨w.heap.size, 0, none⟩) L L) L (BV (putTo n L k)) ∧ Below w.heap.size w wr) (fun i _ _ => L - (intOf i).toNat)
    case atStart => exact ⟨0, Nat.zero_le _, rfl, HO1.out, HB1.out⟩
    case round =>
      obtain ⟨k, hk, rfl, hown, hb⟩ := hrel
      by_cases hlt : k < L
      · have cc := own_cell hown hlt
        have ff := hown.frozenAt k
        obtain ⟨o2, g2⟩ := own_store hown k (byteAt n k)
        rw [putTo_succ n L k hlt] at o2
        have HO2 := Hd o2
        have HB2 := Hd (hb.grown g2 hb.size (fun j e => by cases e; exact Nat.le_refl _))
        have hv := byteAt_int n k
        clear o2 g2 hown hb HO1 HB1
        first
          | (exfalso; omega)
          | (go_wp2_with fail
             go_roundw
             case rel => exact ⟨k + 1, by omega, by go_num, HO2.out, HB2.out⟩
             case measure => simp [intOf]; omega)
      · obtain rfl : k = L := by omega
        rw [putTo_all] at hown
        have HO2 := Hd hown
        have HB2 := Hd hb
        clear hown hb HO1 HB1
        cases big
        · go_wp2_with fail
          go_ret
          refine ⟨some ⟨w.heap.size, 0, none⟩, k, ?_, ?_, HB2.out⟩
          · rw [z1n, ← HL.out]; rfl
          · rw [z1n, ← HL.out]
            unfold putL
            rw [← HL.out]
            exact HO2.out
        · go_wp2_with (go_at_call 75; refine (reverse_any w.heap.size _ _ _ _ _ HO2.out (z31 _ _).symm (by omega)).mono ?_; rintro e w3 ⟨rfl, ho3, hg3⟩)
          have HO3 := Hd ho3
          have HB3 := Hd (HB2.out.grown hg3 HB2.out.size (fun j e => by cases e; exact Nat.le_refl _))
          clear ho3 hg3
          go_wp2_with fail
          go_ret
          refine ⟨some ⟨w.heap.size, 0, none⟩, k, ?_, ?_, HB3.out⟩
          · rw [z1n, ← HL.out]; rfl
          · rw [z1n, ← HL.out]
            unfold putL
            rw [← HL.out]
            exact HO3.out
end Go.Proofs.Ytmfplinbbcoahaa
namespace Go.Proofs.Ytmfplinbbcoahaa
open Go.RowKit Go.Sort Go.Shelf
attribute [local go_sem] Oper.semAt_some
def KpBox (n₀ Bx : Nat) (W W' : World) : Prop := Below n₀ W W' ∧ W'.heap[Bx]? = W.heap[Bx]?
theorem KpBox.refl (n₀ Bx : Nat) (W : World) : KpBox n₀ Bx W W := ⟨Below.refl _ _, rfl⟩
theorem KpBox.trans {n₀ Bx : Nat} {A B C : World} (h : KpBox n₀ Bx A B) (k : KpBox n₀ Bx B C) : KpBox n₀ Bx A C := ⟨h.1.trans k.1, k.2.trans h.2⟩
theorem KpBox.put {n₀ Bx : Nat} {w : World} (hn : n₀ ≤ w.heap.size) (hB : Bx < w.heap.size) (W : World) (l : Nat) (o o' : Obj) (hl : w.heap.size ≤ l) (ho : W.heap[l]? = some o) (h1 : o.isCells = false) (h2 : o.isWalk = false) : KpBox n₀ Bx W (W.putObj l o') :=
  ⟨belowK_b hn W l o o' hl ho h1 h2, World.putObj_heap_other (by omega)⟩
theorem KpBox.bs {n₀ Bx : Nat} {W W' : World} {ad : Option Addr} {n c : Nat} {l : List UInt8} (h : KpBox n₀ Bx W W') (hs : Bs W ad n c l) (hb : ∀ x, ad = some x → 0 < n → x.block < n₀) : Bs W' ad n c l :=
  ⟨hs.1, hs.2.1, hs.2.2.1, hs.2.2.2.1, fun j u hj => by
    obtain ⟨x, hx, hc⟩ := hs.2.2.2.2 j u hj
    have hl := hs.1
    have hlt : j < (BV l).length := (List.getElem?_eq_some_iff.1 hj).1
    exact ⟨x, hx, by rw [h.1.cell (by rw [add_block]; exact hb x hx (by omega))]; exact hc⟩⟩
theorem cell_of_block1 {w : World} {B : Nat} {v : Value} {t : TypeId} (h : w.heap[B]? = some (.cells #[v] t (0, 0))) : w.cell? ⟨B, 0, none⟩ = some v := cell_of_one h
def upto {α : Type} (f : Nat → α) (k : Nat) : List α := (List.range k).map f
theorem upto_succ {α : Type} (f : Nat → α) (k : Nat) : upto f (k + 1) = upto f k ++ [f k] := by simp [upto, List.range_succ]
theorem upto_length {α : Type} (f : Nat → α) (k : Nat) : (upto f k).length = k := by simp [upto]
def bk (l : List UInt8) (j : Nat) : Nat × UInt8 := (l.length - 1 - j, at8 l (l.length - 1 - j))
theorem back1_in (F : Fence) (n : Nat) (h7 : F.fn 92) (hro : F.round = none) (hn : 1 ≤ n) (l Bx n₀ : Nat) (ad : Option Addr) (len c : Nat) (bs : List UInt8) (hreach : len ≤ 140737488351232) (hb : ∀ x, ad = some x → 0 < len → x.block < n₀)
    (J Jx : List (Nat × UInt8) → World → Prop)
    (hY : ∀ pre x W, J pre W → pre.length < len → YieldAt F (n - 1) Try.prog l #[.int .i64 (x.1 : Int), .int .u8 (x.2.toNat : Int)] W fun e W' =>
      (e = .returned (.bool true) ∧ J (pre ++ [x]) W' ∧ KpBox n₀ Bx W W') ∨ (e = .returned (.bool false) ∧ Jx (pre ++ [x]) W'))
    (W : World) (hBx : W.heap[Bx]? = some (.cells #[.slice ad len c] 24 (0, 0))) (hs : Bs W ad len c bs) (h0 : J [] W) :
    CallsIn F n Try.prog 92 #[.func (.yield l) #[] #[], .pointer (some ⟨Bx, 0, none⟩)] W fun e W' => (∃ v, e = .returned v) ∧
      ((∃ ys, ys = upto (bk bs) len ∧ J ys W') ∨ (∃ pre, (∃ k, k ≤ len ∧ pre = upto (bk bs) k) ∧ Jx pre W')) := by
  have hlen := hs.len
  have HLEN := Hd hlen
  clear hlen
  have hcB := cell_of_block1 hBx
  refine callsIn_of_wp Try.func92 rfl h7 ?_ hro
  simp only [Try.ntmps92, List.size_toArray, List.length_cons, List.length_nil, Nat.reduceAdd, Nat.reduceSub, Array.replicate_succ, Array.replicate_zero, List.push_toArray, List.append_toArray, List.nil_append, List.cons_append]
  have HS := Hd hs
  clear hs
  gi_wp2
  gi_loopw [3] (fun i wr => ∃ k : Nat, k ≤ len ∧ i = .int .i64 ((len : Int) - 1 - k) ∧ J (upto (bk bs) k) wr ∧ KpBox n₀ Bx W wr)
    (fun i _ => (intOf i + 1).toNat)
  case atStart => exact ⟨0, Nat.zero_le _, by simp, h0, KpBox.refl _ _ _⟩
  case round =>
    obtain ⟨k, hk, rfl, hJs, hnx⟩ := hrel
    by_cases hlt : k < len
    · obtain ⟨fn, tmps, assign, body, hy, hR⟩ := hY _ (bk bs k) wr hJs (by rw [upto_length]; exact hlt)
      have hidx : (bk bs k).1 = len - 1 - k := by unfold bk; rw [← HLEN.out]
      have hval : (bk bs k).2 = at8 bs (len - 1 - k) := by unfold bk; rw [← HLEN.out]
      rw [hidx, hval] at hy
      have hw : ((len - 1 - k : Nat) : Int) = (len : Int) - 1 - k := by omega
      rw [hw] at hy
      obtain ⟨b, off, rfl, hbb, hcc⟩ := (hnx.bs HS.out hb).at (j := len - 1 - k) (by have := HLEN.out; omega)
      have hcx := hcc (len - 1 - k) (by have := HLEN.out; omega)
      have hcB' : wr.cell? ⟨Bx, 0, none⟩ = some (.slice (some ⟨b, off, none⟩) len c) := cell_of_block1 (hnx.2.trans hBx)
      have i1 : (0 : Int) ≤ (len : Int) - 1 - k := by omega
      have i2 : (len : Int) - 1 - k < len := by omega
      clear hcc hidx hval hw
      have HK := Hd hnx
      clear hnx
      gi_wp2
      refine hR.mono ?_
      rintro e W3 (⟨rfl, hJ3, hk3⟩ | ⟨rfl, hJx3⟩)
      · have HK3 := Hd (HK.out.trans hk3)
        have HJ3 := Hd hJ3
        clear hk3 hJ3 HK hcx hcB' hy hR hJs
        gi_wp2
        go_roundw
        case rel => exact ⟨k + 1, by omega, by go_num, by rw [upto_succ]; exact HJ3.out, HK3.out⟩
        case measure => simp [intOf]; omega
      · gi_wp2
        refine bodyPost_ret (results_none rfl _ _ _) rfl ?_
        exact ⟨⟨_, rfl⟩, .inr ⟨_, ⟨k + 1, by omega, (upto_succ _ _).symm⟩, hJx3⟩⟩
    · obtain rfl : k = len := by omega
      gi_wp2
      go_end0
      exact ⟨⟨_, rfl⟩, .inl ⟨_, rfl, hJs⟩⟩
theorem back_any (F : Fence) (n : Nat) (h5 : F.fn 81) (hro : F.round = none) (a : Option Addr) (len cap : Nat) (w : World) :
    CallsIn F n Try.prog 81 #[.slice a len cap] w fun e w' => e = .returned (.func (.func 92) #[] #[.pointer (some ⟨w.heap.size, 0, none⟩)]) ∧ w' = w.alloc (.cells #[.slice a len cap] 24) := by
  refine callsIn_of_wp Try.func81 rfl h5 ?_ hro
  simp only [Try.ntmps81, List.size_toArray, List.length_cons, List.length_nil, Nat.reduceAdd, Nat.reduceSub, Array.replicate_succ, Array.replicate_zero, List.push_toArray, List.append_toArray, List.nil_append, List.cons_append]
  gi_wp2
  go_ret
  exact ⟨rfl, rfl⟩
theorem back_stops (F : Fence) (n : Nat) (h7 : F.fn 92) (hro : F.round = none) (hn : 1 ≤ n) (Bx n₀ : Nat) (ad : Option Addr) (len c : Nat) (bs : List UInt8) (hreach : len ≤ 140737488351232) (w : World) (hBx : Bx < w.heap.size) (hn₀ : n₀ ≤ w.heap.size)
    (hc : w.heap[Bx]? = some (.cells #[.slice ad len c] 24 (0, 0))) (hs : Bs w ad len c bs) (hb : ∀ x, ad = some x → 0 < len → x.block < n₀) :
    SeqStopsK F n Try.prog 92 #[.pointer (some ⟨Bx, 0, none⟩)] (fun x : Nat × UInt8 => #[Value.int .i64 (x.1 : Int), Value.int .u8 (x.2.toNat : Int)]) (KpBox n₀ Bx) (fun ys => ys = upto (bk bs) len)
      (fun pre => ∃ k, k ≤ len ∧ pre = upto (bk bs) k) len w := fun l J Jx W hW _ _ hY h0 => by
  have hc' : W.heap[Bx]? = some (.cells #[.slice ad len c] 24 (0, 0)) := (hW.block Bx hBx).trans hc
  exact back1_in F n h7 hro hn l Bx n₀ ad len c bs hreach hb J Jx hY W hc' (hs.below hW) h0
theorem Bs.head8 {w : World} {ad : Option Addr} {n c : Nat} {l : List UInt8} (h : Bs w ad n c l) : Bs w (subAd ad c 0 1) (min n 8 - 0) (c - 0) (l.take 8) := by
  have := Sl.sub h (l := 0) (h := min n 8) (Nat.zero_le _) (Nat.min_le_left _ _)
  have e : ((BV l).drop (0 * 1)).take ((min n 8 - 0) * 1) = BV (l.take 8) := by
    have hn := h.len
    simp only [List.drop_zero, Nat.sub_zero, Nat.mul_one]
    unfold BV
    rw [List.map_take]
    by_cases h8 : n ≤ 8
    · rw [Nat.min_eq_left h8, List.take_of_length_le (by simp; omega), List.take_of_length_le (by simp; omega)]
    · rw [Nat.min_eq_right (by omega)]
  rw [e] at this
  exact this
def RetN (v : Value) (w : World) (e : Ending) (w' : World) : Prop := e = .returned v ∧ Below w.heap.size w w'
theorem get_big (ad : Option Addr) (n c : Nat) (l : List UInt8) (w : World) (hs : Bs w ad n c l) :
    Calls Try.prog 57 #[.slice ad n c, .bool true] w (RetN (.int .u64 (getN l true)) w) := by
  obtain ⟨m, hm⟩ : ∃ m, m = min n 8 := ⟨_, rfl⟩
  have hc := hs.le
  have hb8 := hs.head8
  rw [← hm] at hb8
  have hlen := hb8.len
  simp only [Nat.sub_zero] at hlen hb8
  have hmin : (if (8 : Int) < (n : Int) then (8 : Int) else (n : Int)) = (m : Int) := by split <;> omega
  have HL := Hd hlen
  have HB8 := Hd hb8
  have hm8 : m ≤ 8 := by omega
  have hmc : m ≤ c := by omega
  have HG : Hid (getN l true = numBE (l.take 8)) := Hd rfl
  clear hm hlen hb8 hs
  go_enter Try.func57, Try.ntmps57
  go_wp2_with ((with_reducible show wpList _ _ _ (⟨some 14, _, _, _, _, _⟩ :: _) _ _); (refine z0t elB rfl (.tmp 10) none (some (.tmp 13)) rfl rfl 0 m (.inl ⟨rfl, rfl⟩) (.inr ⟨.i64, rfl⟩) (Nat.zero_le _) hmc ?_))
  intro ad1 had1
  rw [← had1.out] at HB8
  clear had1
  go_wp2_with fail
  go_loopw [18, 7] (fun i _ wr => ∃ k : Nat, k ≤ m ∧ i = .int .i64 k ∧ wr.heap[w.heap.size]? = some (.cells #[.int .u64 (numBE ((l.take 8).take k) : Nat)] 23 (0, 0)) ∧ Below w.heap.size w wr) (fun i _ _ => m - (intOf i).toNat)
  case atStart => exact ⟨0, Nat.zero_le _, rfl, heap_alloc_new _ _, (Below.refl _ _).alloc (Nat.le_refl _) _⟩
  case round =>
    obtain ⟨k, hk, rfl, hbox, hb⟩ := hrel
    by_cases hlt : k < m
    · obtain ⟨b, off, rfl, hbl, hcc⟩ := (HB8.out.below hb).at (j := k) (by have := HL.out; omega)
      have hcx := hcc k (by have := HL.out; omega)
      have hsz : w.heap.size < wr.heap.size := (Array.getElem?_eq_some_iff.1 hbox).1
      have hcb := cell_of_one hbox
      have hfb := free_of_one hbox
      have hor := or_byte (numBE ((l.take 8).take k)) (at8 (l.take 8) k) (numBE_lt7 _ (by simp; omega))
      have hu := z15 (at8 (l.take 8) k).toNat (by have := (at8 (l.take 8) k).toNat_lt; omega)
      have hstep := z3b (l.take 8) k (by have := HL.out; omega)
      have HBOX := Hd (one_setCell hbox (u := .int .u64 ((stepN (numBE ((l.take 8).take k)) (at8 (l.take 8) k) : Nat) : Int)))
      have HB2 := Hd (hb.setCell (p := ⟨w.heap.size, 0, none⟩) (Nat.le_refl _) (.int .u64 ((stepN (numBE ((l.take 8).take k)) (at8 (l.take 8) k) : Nat) : Int)))
      have HST := Hd hstep
      clear hcc hbox hb hstep
      go_wp2_with fail
      go_roundw
      case rel => exact ⟨k + 1, by omega, by go_num, by rw [HST.out]; exact HBOX.out, HB2.out⟩
      case measure => simp [intOf]; omega
    · obtain rfl : k = m := by omega
      have hcb := cell_of_one hbox
      rw [List.take_of_length_le (by have := HL.out; omega), ← HG.out] at hcb
      have HB2 := Hd hb
      clear hbox hb
      go_wp2_with fail
      go_ret
      exact ⟨rfl, HB2.out⟩
theorem box_ownFrom (B : Nat) (t : TypeId) (f : List (Nat × UInt8) → Value) (C : Nat) : OwnFrom C (fun pre W => W.heap[B]? = some (.cells #[f pre] t (0, 0))) :=
  fun s W W' row hs hg hr => (hg.block B (Array.getElem?_eq_some_iff.1 hs).1 (fun e => by
    obtain ⟨_, o, ho, hc⟩ := hr B e.symm
    rw [hs] at ho
    cases ho
    simp [Obj.isCells] at hc)).trans hs
theorem bk_snd (l : List UInt8) : (upto (bk l) l.length).map (·.2) = l.reverse := by
  apply ext_getD (by simp [upto])
  intro j hj
  have hj' : j < l.length := by simpa [upto] using hj
  have e1 : ((upto (bk l) l.length).map (·.2)).getD j 0 = at8 l (l.length - 1 - j) := by simp [upto, List.getD, hj', bk]
  have e2 : l.reverse.getD j 0 = l.getD (l.length - 1 - j) 0 := by simp [List.getD, List.getElem?_reverse hj']
  rw [e1, e2]
  rfl
theorem get_small (ad : Option Addr) (n c : Nat) (l : List UInt8) (w : World) (hs : Bs w ad n c l) :
    Calls Try.prog 57 #[.slice ad n c, .bool false] w (RetN (.int .u64 (getN l false)) w) := by
  obtain ⟨m, hm⟩ : ∃ m, m = min n 8 := ⟨_, rfl⟩
  have hc := hs.le
  have hb8 := hs.head8
  rw [← hm] at hb8
  have hlen := hb8.len
  simp only [Nat.sub_zero] at hlen hb8
  have hmin : (if (8 : Int) < (n : Int) then (8 : Int) else (n : Int)) = (m : Int) := by split <;> omega
  have HL := Hd hlen
  have HB8 := Hd hb8
  have hm8 : m ≤ 8 := by omega
  have hmc : m ≤ c := by omega
  have HG : Hid (getN l false = numBE (l.take 8).reverse) := Hd rfl
  clear hm hlen hb8 hs
  refine (callsIn_wide (n := 6)).1 (callsIn_of_wp_marks Try.func57 rfl trivial (wpIn_wide.2 ?_) rfl)
  simp only [Try.ntmps57, List.size_toArray, List.length_cons, List.length_nil, Nat.reduceAdd, Nat.reduceSub, Array.replicate_succ, Array.replicate_zero, List.push_toArray, List.append_toArray, List.nil_append, List.cons_append]
  go_wp2_with ((with_reducible show wpList _ _ _ (⟨some 14, _, _, _, _, _⟩ :: _) _ _); (refine z0t elB rfl (.tmp 10) none (some (.tmp 13)) rfl rfl 0 m (.inl ⟨rfl, rfl⟩) (.inr ⟨.i64, rfl⟩) (Nat.zero_le _) hmc ?_))
  intro ad1 had1
  rw [← had1.out] at HB8
  clear had1
  go_wp2_with (go_at_call 81; refine ((callsIn_wide (n := 6)).1 (back_any _ _ trivial rfl _ _ _ _)).mono ?_; rintro e w' ⟨rfl, rfl⟩)
  refine (wpIn_wide (n := 6)).1 ?_
  have hB1 : Below w.heap.size w (w.alloc (.cells #[.int .u64 0] 23)) := (Below.refl _ _).alloc (Nat.le_refl _) _
  have hB2 := hB1.alloc (by simp) (.cells #[.slice ad1 m c] 24)
  refine wpIn_rangeFunc_ownF rfl (by omega) (gf := 92) (lb := #[.pointer (some ⟨w.heap.size + 1, 0, none⟩)]) rfl trivial (enters_of Try.func92 (by kernel_rfl) rfl)
    (back_stops _ _ trivial rfl (by omega) (w.heap.size + 1) w.heap.size ad1 m c (l.take 8) (by omega) ((w.alloc (.cells #[.int .u64 0] 23)).alloc (.cells #[.slice ad1 m c] 24)) (by simp) (by simp; omega) (by have := heap_alloc_new (w.alloc (.cells #[.int .u64 0] 23)) (.cells #[.slice ad1 m c] 24); rwa [World.size_alloc] at this) (HB8.out.below hB2)
      (fun x hx h0 => by obtain ⟨b, off, h2, h3, _⟩ := HB8.out.at (j := 0) (by have := HL.out; omega); rw [h2] at hx; cases hx; exact h3))
    KpBox.trans (KpBox.put (by simp; omega) (by simp)) (Below.refl _ _) (fun _ => rfl)
    (fun pre W => W.heap[w.heap.size]? = some (.cells #[.int .u64 (numBE (pre.map (·.2)) : Nat)] 23 (0, 0)) ∧ Below w.heap.size w W)
    (fun _ _ _ => False)
    (OwnFrom.and (box_ownFrom _ _ (fun pre => .int .u64 (numBE (pre.map (·.2)) : Nat)) _) (ownFrom_below (Nat.le_refl _) (by simp; omega)))
    (fun _ _ _ _ _ hs _ _ => hs)
    ⟨(Below.heap_alloc _ _ _ (by simp)).trans (heap_alloc_new _ _), hB2⟩
    ?a1 ?assign ?body ?done ?stop
  case assign =>
    intro l x W K hK
    gi_wp2
    exact hK
  case body =>
    rintro l pre x W ⟨hbox, hb⟩ hlen
    have hsz : w.heap.size < W.heap.size := (Array.getElem?_eq_some_iff.1 hbox).1
    have hcb := cell_of_one hbox
    have hfb := free_of_one hbox
    have hor := or_byte (numBE (pre.map (·.2))) x.2 (numBE_lt7 _ (by simp; omega))
    have hu := z15 x.2.toNat (by have := x.2.toNat_lt; omega)
    have HBOX := Hd (one_setCell hbox (u := .int .u64 ((stepN (numBE (pre.map (·.2))) x.2 : Nat) : Int)))
    have HB2 := Hd (hb.setCell (p := ⟨w.heap.size, 0, none⟩) (Nat.le_refl _) (.int .u64 ((stepN (numBE (pre.map (·.2))) x.2 : Nat) : Int)))
    clear hbox hb
    gi_wp2
    refine ⟨KeepsOthers.setCell _ _ _, ⟨(Below.refl w.heap.size W).setCell (p := ⟨w.heap.size, 0, none⟩) (Nat.le_refl _) _, Below.heap_setCell _ _ _ _ (by simp)⟩, ?_, ?_⟩
    · rw [numBE_map_snoc]; exact HBOX.out
    · exact HB2.out
  case done =>
    rintro D ys W hD rfl ⟨hbox, hb⟩ hK
    have hlm := HL.out
    have e : numBE ((upto (bk (l.take 8)) m).map (·.2)) = getN l false := by
      rw [HG.out, ← bk_snd, ← hlm]
    rw [e] at hbox
    have hcb := cell_of_one hbox
    have HB2 := Hd hb
    have HD : Hid _ := Hd hD
    clear hlm e hbox hb hD
    go_wp2
    refine ⟨by simp, .inl ⟨_, _, rfl, run_takeDeferred hK, ?_⟩⟩
    exact ⟨_, results_tmp rfl _ _ _, rfl, HB2.out.trans (belowK_b (w := w) (Nat.le_refl _) W D _ _ (by have := HD.out; simp at this; omega) hK rfl rfl)⟩
  case stop =>
    rintro D c pre W _ _ h _
    exact h.elim
end Go.Proofs.Ytmfplinbbcoahaa
namespace Go.Proofs.Ytmfplinbbcoahaa
open Go.RowKit Go.Sort
theorem z1p (ad : Option Addr) (n c : Nat) (l : List UInt8) (big : Bool) (w : World) (hs : Bs w ad n c l) :
    Calls Try.prog 57 #[.slice ad n c, .bool big] w (RetN (.int .u64 (getN l big)) w) := by
  cases big
  · exact get_small ad n c l w hs
  · exact get_big ad n c l w hs
theorem clone_any (ad : Option Addr) (n c : Nat) (l : List UInt8) (w : World) (hs : Bs w ad n c l) (hsz : n ≤ 140737488351232) :
    Calls Try.prog 91 #[.slice ad n c] w (RetB 5 l w) := by
  have hn := hs.len
  have HS := Hd hs
  have hnil := fun a n c => Lib.run_eql_slice_nil (P := Try.prog) w 24 5 a n c 0 0 Try.underlying24
  cases ad with
  | none =>
    have hnc := hs.2.2.2.1 rfl
    obtain ⟨rfl, rfl⟩ := hnc
    have hl : l = [] := List.length_eq_zero_iff.1 hn.symm
    subst hl
    clear hs hn HS
    go_enter Try.func91, Try.ntmps91
    go_wp2
    go_ret
    exact ⟨none, 0, rfl, World.ownsRow_nil _ _ _ _, Below.refl _ _⟩
  | some x =>
    have HN := Hd hn
    clear hs hn
    go_enter Try.func91, Try.ntmps91
    go_wp2_with ((with_reducible show wpList _ _ _ (⟨some 7, _, _, _, _, _⟩ :: _) _ _); (refine z0k elB rfl (.tmp 5) (.tmp 6) rfl w.heap.size rfl (World.ownsRow_lit (size := 1) (e := 5) w #[] 0 (Nat.le_refl _) (by simp [maxLen]) rfl) rfl (HS.out.below ((Below.refl _ _).alloc (Nat.le_refl _) _)) (z11 _) (by unfold maxLen; omega) (by omega) (by simp) ?_))
    intro ad' c' w3 hown3 hgrow3 hat3 hnil3
    try simp only [Nat.zero_add, List.nil_append] at hown3
    have hb3 : Below w.heap.size w w3 := ((Below.refl w.heap.size w).alloc (Nat.le_refl _) _).grown hgrow3 (by simp) (fun k e => by simp [Value.ownBlock] at e; omega)
    have HO := Hd hown3
    have HB := Hd hb3
    clear hown3 hgrow3 hat3 hnil3 hb3
    go_wp2_with fail
    go_ret
    have hn := HN.out
    subst hn
    exact ⟨ad', c', rfl, HO.out, HB.out⟩
theorem pad_any (n : Int) (w : World) (h0 : -9223372036854775808 ≤ n) (h1 : n ≤ 9223372036854775807) :
    Calls Try.prog 72 #[.int .i64 n] w fun e w' => e = .returned (.int .i64 (padI n)) ∧ w = w' := by
  by_cases hn : n ≤ 0
  · go_enter Try.func72, Try.ntmps72
    go_wp2
    go_ret
    exact ⟨by unfold padI; rw [if_pos hn]; rfl, rfl⟩
  · have hn' : 0 < n := by omega
    go_enter Try.func72, Try.ntmps72
    go_wp2
    go_ret
    exact ⟨by unfold padI; rw [if_neg (by omega), show (4 - n % 4) % 4 = -(n % 4) % 4 by omega]; rfl, rfl⟩
theorem z3p (ad : Option Addr) (n c : Nat) (l : List UInt8) (w : World) (hs : Bs w ad n c l) (hsz : n ≤ 140737488351232) :
    Calls Try.prog 79 #[.slice ad n c] w (RetB 5 (padL l) w) := by
  have hn := hs.len
  subst hn
  have HS := Hd hs
  have hp3 := padN_le l.length
  clear hs
  go_enter Try.func79, Try.ntmps79
  go_wp2_with (first
 | (go_at_call 91; refine (clone_any _ _ _ l _ HS.out hsz).mono ?_; rintro e w1 ⟨ad1, c1, rfl, ho1, hb1⟩; have HO1 := Hd ho1; have HB1 := Hd hb1; clear ho1 hb1)
 | (go_at_call 72; refine (pad_any _ _ (by omega) (by omega)).mono ?_; rintro e w' ⟨rfl, rfl⟩; rw [padI_nat]))
  go_loopw [9, 3] (fun i v wr => ∃ (k : Nat) (ad' : Option Addr) (c' : Nat), k ≤ padN l.length ∧ i = .int .i64 k ∧ v = .slice ad' (l.length + k) c' ∧ wr.ownsRow w.heap.size 5 1 (.slice ad' (l.length + k) c') (l.length + k) (BV (padTo l k)) ∧ Below w.heap.size w wr) (fun i _ _ => padN l.length - (intOf i).toNat)
  case atStart => exact ⟨0, ad1, c1, Nat.zero_le _, rfl, rfl, by rw [padTo_zero]; exact HO1.out, HB1.out⟩
  case round =>
    obtain ⟨k, ad2, c2, hk, rfl, rfl, ho, hb⟩ := hrel
    have HO := Hd ho
    have HB := Hd hb
    clear ho hb HO1 HB1
    by_cases hlt : k < padN l.length
    · go_wp2_with ((with_reducible show wpList _ _ _ (⟨some 13, _, _, _, _, _⟩ :: _) _ _); (refine z0k elB rfl (.tmp 11) (.tmp 12) rfl w.heap.size rfl (HO.out.alloc _) rfl (Bs.one _ _ 0) (z11 [0]) (by unfold maxLen; omega) (by omega) (by have := HB.out.size; simp; omega) ?_))
      intro ad3 c3 w3 hown3 hgrow3 hat3 hnil3
      have HO3 := Hd hown3
      have HB3 : Hid (Below w.heap.size w w3) := Hd ((HB.out.alloc HB.out.size _).grown hgrow3 (by have := HB.out.size; simp; omega) (z07 HO.out))
      clear hown3 hgrow3 hat3 hnil3
      go_wp2_with fail
      go_roundw
      case rel => exact ⟨k + 1, ad3, c3, by omega, by go_num, rfl, by rw [padTo_succ, z0i]; exact HO3.out, HB3.out⟩
      case measure => simp [intOf]; omega
    · obtain rfl : k = padN l.length := by omega
      go_wp2_with fail
      go_ret
      refine ⟨ad2, c2, by rw [z0w]; rfl, ?_, HB.out⟩
      rw [z0w]
      exact HO.out
theorem refPut_any (n : Nat) (size : Int) (big : Bool) (w : World) (hn : (n : Int) ≤ 18446744073709551615) :
    Calls Try.prog 53 #[.int .u64 n, .int .i64 size, .bool big] w (RetB 5 (putL n size big) w) := by
  obtain ⟨L, hL⟩ : ∃ L, L = sizeOf8 size := ⟨_, rfl⟩
  have hL8 : L ≤ 8 := by rw [hL]; unfold sizeOf8; omega
  have hcase : (L = 8 ∧ 8 ≤ size) ∨ (L < 8 ∧ size < 8 ∧ (size = L ∨ (L = 0 ∧ size < 0))) := by rw [hL]; unfold sizeOf8; omega
  have HL := Hd hL
  have HC := Hd hcase
  clear hL hcase
  go_enter Try.func53, Try.ntmps53
  go_wp2_with fail
  go_loopw [0, 7, 8, 9] (fun m v i _ wr => ∃ (k : Nat) (ad' : Option Addr) (c' : Nat), k ≤ L ∧ i = .int .i64 k ∧ m = .int .u64 ((n / 256 ^ k : Nat) : Int) ∧ v = .slice ad' k c' ∧ wr.ownsRow w.heap.size 5 1 (.slice ad' k c') k (BV (if big then (putLE n k).reverse else putLE n k)) ∧ Below w.heap.size w wr) (fun _ _ i _ _ => L - (intOf i).toNat)
  case atStart => exact ⟨0, none, 0, Nat.zero_le _, rfl, by simp, rfl, by cases big <;> exact World.ownsRow_nil _ _ _ _, Below.refl _ _⟩
  case round =>
    obtain ⟨k, ad2, c2, hk, rfl, rfl, rfl, ho, hb⟩ := hrel
    have HO := Hd ho
    have HB := Hd hb
    clear ho hb
    by_cases hlt : k < L
    · have h1 : (k : Int) < size := by rcases HC.out with ⟨a, b⟩ | ⟨a, b, c⟩ <;> omega
      have h2 : (k : Int) < 8 := by omega
      have hv := byteAt_mod n k
      have hq2 := quo_succ n k
      have hnn : ((n / 256 ^ k : Nat) : Int) ≤ 18446744073709551615 := by
        have := Nat.div_le_self n (256 ^ k)
        omega
      generalize n / 256 ^ k = q at *
      have hb255 := (byteAt n k).toNat_lt
      have HQ2 := Hd hq2
      clear hq2
      cases big
      · go_wp2_with ((with_reducible show wpList _ _ _ (⟨some 32, _, _, _, _, _⟩ :: _) _ _); (refine z0k elB rfl (.tmp 29) (.tmp 31) rfl w.heap.size rfl (HO.out.alloc _) rfl (Bs.one _ _ (byteAt n k)) (z11 [byteAt n k]) (by unfold maxLen; omega) (by omega) (by have := HB.out.size; simp; omega) ?_))
        intro ad3 c3 w3 hown3 hgrow3 hat3 hnil3
        have HO3 := Hd hown3
        have HB3 : Hid (Below w.heap.size w w3) := Hd ((HB.out.alloc HB.out.size _).grown hgrow3 (by have := HB.out.size; simp; omega) (z07 HO.out))
        clear hown3 hgrow3 hat3 hnil3
        go_wp2_with fail
        go_roundw
        case rel => exact ⟨k + 1, ad3, c3, by omega, by go_num, by rw [← HQ2.out], rfl, by have := HO3.out; simpa [putLE_succ, z0i] using this, HB3.out⟩
        case measure => simp [intOf]; omega
      · go_wp2_with ((with_reducible show wpList _ _ _ (⟨some 28, _, _, _, _, _⟩ :: _) _ _); (refine z0k elB rfl (.tmp 26) (.tmp 27) rfl w.heap.size rfl (World.ownsRow_lit (size := 1) (e := 5) wr #[.int .u8 ((byteAt n k).toNat : Int)] 1 HB.out.size (by simp [maxLen]) rfl) rfl (Sl.below (Sl.of_own HO.out) ((Below.refl _ _).alloc (Nat.le_refl _) _)) (z11 _) (by unfold maxLen; omega) (by omega) (by have := HB.out.size; simp; omega) ?_))
        intro ad3 c3 w3 hown3 hgrow3 hat3 hnil3
        have HO3 := Hd hown3
        have HB3 : Hid (Below w.heap.size w w3) := Hd ((HB.out.alloc HB.out.size _).grown hgrow3 (by have := HB.out.size; simp; omega) (fun j e => by have := HB.out.size; simp [Value.ownBlock] at e; omega))
        clear hown3 hgrow3 hat3 hnil3
        go_wp2_with fail
        go_roundw
        case rel => exact ⟨k + 1, ad3, c3, by omega, by go_num, by rw [← HQ2.out], by rw [Nat.add_comm k 1], by have h := HO3.out; rw [Nat.add_comm 1 k] at h; simpa [putLE_succ, z0i, BV] using h, HB3.out⟩
        case measure => simp [intOf]; omega
    · obtain rfl : k = L := by omega
      have HL2 := Hd (putL_to n size big k HL.out)
      have h1 : ¬ ((k : Int) < size ∧ (k : Int) < 8) := by rcases HC.out with ⟨a, b⟩ | ⟨a, b, c⟩ <;> omega
      by_cases h2 : (k : Int) < size
      · have h3 : ¬ (k : Int) < 8 := fun h => h1 ⟨h2, h⟩
        clear h1
        go_wp2_with fail
        go_ret
        refine ⟨ad2, c2, ?_, ?_, HB.out⟩
        · rw [z1n, ← HL.out]; rfl
        · rw [z1n, ← HL.out, ← HL2.out]; exact HO.out
      · clear h1
        go_wp2_with fail
        go_ret
        refine ⟨ad2, c2, ?_, ?_, HB.out⟩
        · rw [z1n, ← HL.out]; rfl
        · rw [z1n, ← HL.out, ← HL2.out]; exact HO.out
theorem stepN_int (a : Nat) (b : UInt8) : 256 * (a : Int) + ((b.toNat : Nat) : Int) = ((stepN a b : Nat) : Int) := by unfold stepN; omega
theorem at8_take (l : List UInt8) (k j : Nat) (h : j < k) : at8 (l.take k) j = at8 l j := by
  simp [at8, List.getD, h]
theorem z12 (ad : Option Addr) (n c : Nat) (l : List UInt8) (big : Bool) (w : World) (hs : Bs w ad n c l) :
    Calls Try.prog 61 #[.slice ad n c, .bool big] w fun e w' => e = .returned (.int .u64 (getN l big)) ∧ w = w' := by
  obtain ⟨m, hm⟩ : ∃ m, m = min n 8 := ⟨_, rfl⟩
  have hn := hs.len
  have hc := hs.le
  have hlen : m = (l.take 8).length := by rw [List.length_take]; omega
  have HS := Hd hs
  have HM := Hd hm
  have HL := Hd hlen
  have HN := Hd hn
  have hcase : (8 < (n : Int) ∧ m = 8) ∨ ((n : Int) ≤ 8 ∧ m = n) := by omega
  have hmn : m ≤ n := by omega
  have hm8 : m ≤ 8 := by omega
  have HG : Hid (getN l big = if big then numBE (l.take 8) else numFrom (l.take 8) m) := Hd (by rw [hlen, numFrom_all]; rfl)
  clear hs hm hlen hn
  rcases hcase with ⟨h1, rfl⟩ | ⟨h1, rfl⟩
  all_goals
    cases big
    · go_enter Try.func61, Try.ntmps61
      go_wp2
      go_loop [6, 7] (fun v i => ∃ k : Nat, k ≤ (l.take 8).length ∧ i = .int .i64 k ∧ v = .int .u64 ((numFrom (l.take 8) k : Nat) : Int)) (fun _ i => 8 - (intOf i).toNat)
      case atStart => exact ⟨0, Nat.zero_le _, rfl, rfl⟩
      case round =>
        obtain ⟨k, hk, rfl, rfl⟩ := hrel
        rw [← HL.out] at hk
        by_cases hlt : k < (l.take 8).length
        · rw [← HL.out] at hlt
          have hst := numFrom_succ (l.take 8) k (by rw [← HL.out]; exact hlt)
          have hb := numFrom_lt7 (l.take 8) k (by omega)
          obtain ⟨j, hj⟩ : ∃ j, j = (l.take 8).length - 1 - k := ⟨_, rfl⟩
          rw [← HL.out] at hj
          have hj8 : j < 8 := by omega
          rw [← HL.out, ← hj, at8_take _ _ _ hj8] at hst
          obtain ⟨b, off, rfl, _, hcc⟩ := HS.out.at (j := 0) (by have := HN.out; omega)
          have hcx := hcc j (by have := HN.out; omega)
          obtain ⟨by8, hby⟩ : ∃ by8, by8 = at8 l j := ⟨_, rfl⟩
          rw [← hby] at hcx hst
          have HST := Hd hst
          clear hst hby
          rw [hj] at hcx
          try simp only [Nat.reduceSub] at hcx
          clear hj hj8
          generalize numFrom (l.take 8) k = a at *
          have hb8 := by8.toNat_lt
          clear hcc
          go_wp2_with fail
          go_round
          case rel => exact ⟨k + 1, by have := HL.out; omega, by go_num, by rw [HST.out, ← stepN_int] <;> go_num⟩
          case measure => simp [intOf]; omega
        · have e := HG.out
          rw [if_neg (by simp)] at e
          obtain hk2 : k = (l.take 8).length := by have := HL.out; omega
          rw [hk2, ← HL.out, ← e]
          clear e hk2
          go_wp2_with fail
          go_ret
          exact ⟨rfl, rfl⟩
    · go_enter Try.func61, Try.ntmps61
      go_wp2
      go_loop [6, 7] (fun v i => ∃ k : Nat, k ≤ (l.take 8).length ∧ i = .int .i64 k ∧ v = .int .u64 ((numBE ((l.take 8).take k) : Nat) : Int)) (fun _ i => 8 - (intOf i).toNat)
      case atStart => exact ⟨0, Nat.zero_le _, rfl, rfl⟩
      case round =>
        obtain ⟨k, hk, rfl, rfl⟩ := hrel
        rw [← HL.out] at hk
        by_cases hlt : k < (l.take 8).length
        · have hst := z3b (l.take 8) k hlt
          rw [← HL.out] at hlt
          have hb := numBE_lt7 ((l.take 8).take k) (by rw [List.length_take]; omega)
          have hk8 : k < 8 := by omega
          rw [at8_take _ _ _ hk8] at hst
          obtain ⟨b, off, rfl, _, hcc⟩ := HS.out.at (j := 0) (by have := HN.out; omega)
          have hcx := hcc k (by have := HN.out; omega)
          obtain ⟨by8, hby⟩ : ∃ by8, by8 = at8 l k := ⟨_, rfl⟩
          rw [← hby] at hcx hst
          have HST := Hd hst
          clear hst hby
          generalize numBE ((l.take 8).take k) = a at *
          have hb8 := by8.toNat_lt
          clear hcc
          go_wp2_with fail
          go_round
          case rel => exact ⟨k + 1, by have := HL.out; omega, by go_num, by rw [HST.out, ← stepN_int] <;> go_num⟩
          case measure => simp [intOf]; omega
        · have e := HG.out
          simp only [if_true] at e
          rw [List.take_of_length_le (show (l.take 8).length ≤ k by omega), ← e]
          clear e
          obtain hk2 : k = (l.take 8).length := by have := HL.out; omega
          rw [← HL.out] at hk2
          go_wp2_with fail
          go_ret
          exact ⟨rfl, rfl⟩
def lenV : Value → Nat
  | .slice _ n _ => n
  | _ => 0
theorem refPadded_any (ad : Option Addr) (n c : Nat) (l : List UInt8) (w : World) (hs : Bs w ad n c l) (hsz : n ≤ 140737488351232) :
    Calls Try.prog 55 #[.slice ad n c] w (RetB 5 (padL l) w) := by
  have hn := hs.len
  subst hn
  have HS := Hd hs
  have hp3 := padN_le l.length
  clear hs
  go_enter Try.func55, Try.ntmps55
  go_wp2_with ((with_reducible show wpList _ _ _ (⟨some 6, _, _, _, _, _⟩ :: _) _ _); (refine z0k elB rfl (.tmp 4) (.tmp 5) rfl w.heap.size rfl (World.ownsRow_lit (size := 1) (e := 5) w #[] 0 (Nat.le_refl _) (by simp [maxLen]) rfl) rfl (HS.out.below ((Below.refl _ _).alloc (Nat.le_refl _) _)) (z11 _) (by unfold maxLen; omega) (by omega) (by simp) ?_))
  intro ad1 c1 w1 hown1 hgrow1 hat1 hnil1
  try simp only [Nat.zero_add, List.nil_append] at hown1
  have hb1 : Below w.heap.size w w1 := ((Below.refl w.heap.size w).alloc (Nat.le_refl _) _).grown hgrow1 (by simp) (fun k e => by simp [Value.ownBlock] at e; omega)
  have HO1 := Hd hown1
  have HB1 := Hd hb1
  clear hown1 hgrow1 hat1 hnil1 hb1
  go_wp2_with fail
  go_loopw [3] (fun v wr => ∃ (k : Nat) (ad' : Option Addr) (c' : Nat), k ≤ padN l.length ∧ v = .slice ad' (l.length + k) c' ∧ wr.ownsRow w.heap.size 5 1 (.slice ad' (l.length + k) c') (l.length + k) (BV (padTo l k)) ∧ Below w.heap.size w wr) (fun v _ => l.length + padN l.length - lenV v)
  case atStart => exact ⟨0, ad1, c1, Nat.zero_le _, by simp, by rw [padTo_zero]; exact HO1.out, HB1.out⟩
  case round =>
    obtain ⟨k, ad2, c2, hk, rfl, ho, hb⟩ := hrel
    have HO := Hd ho
    have HB := Hd hb
    have H1 := Hd (padN_end l.length k · hk)
    have H2 := Hd (padN_more l.length k · hk)
    clear ho hb HO1 HB1
    by_cases h4 : (l.length + k) % 4 = 0
    · have hkk := H1.out h4
      have h5 : (((l.length + k : Nat) : Int)) % 4 = 0 := by omega
      subst hkk
      go_wp2_with fail
      go_ret
      refine ⟨ad2, c2, by rw [z0w]; rfl, ?_, HB.out⟩
      rw [z0w]
      exact HO.out
    · have hlt := H2.out h4
      have h5 : (((l.length + k : Nat) : Int)) % 4 ≠ 0 := by omega
      go_wp2_with ((with_reducible show wpList _ _ _ (⟨some 13, _, _, _, _, _⟩ :: _) _ _); (refine z0k elB rfl (.tmp 11) (.tmp 12) rfl w.heap.size rfl (HO.out.alloc _) rfl (Bs.one _ _ 0) (z11 [0]) (by unfold maxLen; omega) (by omega) (by have := HB.out.size; simp; omega) ?_))
      intro ad3 c3 w3 hown3 hgrow3 hat3 hnil3
      have HO3 := Hd hown3
      have HB3 : Hid (Below w.heap.size w w3) := Hd ((HB.out.alloc HB.out.size _).grown hgrow3 (by have := HB.out.size; simp; omega) (z07 HO.out))
      clear hown3 hgrow3 hat3 hnil3
      go_wp2_with fail
      go_roundw
      case rel => exact ⟨k + 1, ad3, c3, by omega, rfl, by rw [padTo_succ, z0i]; exact HO3.out, HB3.out⟩
      case measure => simp only [lenV]; omega
theorem cU {v w a w' : World} (h : Hid (Below v.heap.size v w)) (hu : Below w.heap.size w a) (hb : Below a.heap.size a w') : Below w.heap.size w w' := hu.trans (hb.mono hu.size)
theorem put_int (z : Int) (size : Int) (big : Bool) (w : World) (h0 : 0 ≤ z) (h1 : z ≤ 18446744073709551615) :
    Calls Try.prog 47 #[.int .u64 z, .int .i64 size, .bool big] w (RetB 5 (putL z.toNat size big) w) := by
  have := z3h z.toNat size big w (by omega)
  rwa [Int.toNat_of_nonneg h0] at this
theorem refPut_int (z : Int) (size : Int) (big : Bool) (w : World) (h0 : 0 ≤ z) (h1 : z ≤ 18446744073709551615) :
    Calls Try.prog 53 #[.int .u64 z, .int .i64 size, .bool big] w (RetB 5 (putL z.toNat size big) w) := by
  have := refPut_any z.toNat size big w (by omega)
  rwa [Int.toNat_of_nonneg h0] at this
theorem step_run {P : Program} {w w' : World} {ops : Array Oper} {o : Oper} {a : Act} {K : Act → World → Prop} {Q : Exit → Act → World → Prop} {E : Prop} (hgd : Region.wanted o (yielded ops a.tmps) = true) {v : Value}
    (hrun : (execOp a.eval o).run P w = .ok (.value v) w') (h : K (a.put o.dst v) w') : if Region.wanted o (yielded ops a.tmps) = true then Oper.wp P o a w K Q else E := by
  rw [if_pos hgd]
  unfold Oper.wp
  rw [hrun]
  exact h
theorem z1v {P : Program} {w : World} {ops : Array Oper} {o : Oper} {a : Act} {K : Act → World → Prop} {Q : Exit → Act → World → Prop} {E : Prop} {t e : TypeId} {size bytes : Nat} {z : Value} (el : Elem P t e size bytes z)
    (hgd : Region.wanted o (yielded ops a.tmps) = true) (s x : Operand) (ho : o.op = .call { callee := .builtin .append, args := #[s, x], argTypes := #[t, t] })
    (base : Nat) {ad : Option Addr} {n c : Nat} {xs : List Value} (hs : a.eval s = .slice ad n c) (hown : w.ownsRow base e size (.slice ad n c) n xs)
    {ad2 : Option Addr} {m c2 : Nat} {news : List Value} (hx : a.eval x = .slice ad2 m c2) (hsl : Sl w ad2 m c2 size news) (h1 : ∀ u ∈ news, u.oneCell' = true)
    (h63 : n + m ≤ maxLen) (hbytes : (n + m) * bytes ≤ 140737488355328) (hbase : base ≤ w.heap.size)
    (h : ∀ ad' c' w', w'.ownsRow base e size (.slice ad' (n + m) c') (n + m) (xs ++ news) → w.grownBy w' (Value.ownBlock (.slice ad n c)) →
      (ad' = ad ∨ ad' = some ⟨w.heap.size, 0, none⟩) → (ad' = none ↔ ad = none ∧ m = 0) → K (a.put o.dst (.slice ad' (n + m) c')) w') :
    if Region.wanted o (yielded ops a.tmps) = true then Oper.wp P o a w K Q else E := by
  obtain ⟨ad', c', w', hr, h2, h3, h4, h5⟩ := run_append (P := P) (ty := o.type) el base hown hsl h1 h63 hbytes hbase
  refine step_run hgd (v := .slice ad' (n + m) c') (w' := w') ?_ (h ad' c' w' h2 h3 h4 h5)
  unfold execOp
  simp only [ho, resolve, invoke, builtin, Sem.run_bind, Sem.run_pure, Result.andThen_ok, List.map_toArray, List.map_cons, List.map_nil, hs, hx, hr]
theorem grown_alloc (w : World) (o : Obj) (row : Option Nat) : w.grownBy (w.alloc o) row := ⟨rfl, rfl, rfl, by simp, fun k hk _ => Below.heap_alloc w o k hk⟩
theorem wpL_push {P : Program} {w : World} {ops : Array Oper} {rest : List Oper} {o : Oper} {a : Act} {Q : Exit → Act → World → Prop} {t e : TypeId} {size bytes : Nat} {z : Value} (el : Elem P t e size bytes z)
    (hgd : Region.wanted o (yielded ops a.tmps) = true) (s x : Operand) (ho : o.op = .call { callee := .builtin .append, args := #[s, x], argTypes := #[t, t] })
    (base : Nat) {ad : Option Addr} {n c : Nat} {xs : List Value} (hs : a.eval s = .slice ad n c) (hown : w.ownsRow base e size (.slice ad n c) n xs)
    (cs : Array Value) {b e' : Nat} (m : Nat) (hx : a.eval x = .slice (some ⟨b, 0, none⟩) m m) (hb : b = w.heap.size) (hcs : cs.size = m * size) (h1 : ∀ u ∈ cs.toList, u.oneCell' = true) (hm : m ≤ 1000000)
    (h63 : n ≤ 140737488000000) (hbytes : (n + m) * bytes ≤ 140737488355328) (hbase : base ≤ w.heap.size) {B : Nat} {W : World} (hB : Below B W w) (hBb : B ≤ base)
    (h : ∀ ad' c' w', w'.ownsRow base e size (.slice ad' (n + m) c') (n + m) (xs ++ cs.toList) → Below B W w' → w.grownBy w' (Value.ownBlock (.slice ad n c)) → wpList P ops Q rest (a.put o.dst (.slice ad' (n + m) c')) w') :
    wpList P ops Q (o :: rest) a (w.alloc (.cells cs e')) := by
  subst hb
  refine z0k el hgd s x ho base hs (hown.alloc _) hx (Sl.lit w cs e' m size hcs (by unfold maxLen; omega)) h1 (by unfold maxLen; omega) hbytes (by simp; omega) ?_
  intro ad' c' w' h2 h3 h4 h5
  have hz : w.heap.size ≤ (w.alloc (.cells cs e')).heap.size := by simp
  refine h ad' c' w' h2 ((hB.alloc (by omega) _).grown h3 (by simp; omega) (fun k hk => Nat.le_trans hBb (z07 hown k hk))) ?_
  exact World.grownBy.trans (grown_alloc w _ _) h3
theorem range_below {w w' : World} {b o : Nat} {cs : List Value} {B : Nat} (h : w.rangeAt b o cs) (hb : b < B) (hw : Below B w w') : w'.rangeAt b o cs :=
  fun j v hv => (hw.cell (p := ⟨b, o + j, none⟩) hb).trans (h j v hv)
theorem wpL_new {P : Program} {w : World} {ops : Array Oper} {rest : List Oper} {o1 o2 : Oper} {a : Act} {Q : Exit → Act → World → Prop} (hg1 : o1.guard = none) (hg2 : o2.guard = none) (T : TypeId) (ho1 : o1.op = .alloc T) (x y : Operand) (ho2 : o2.op = .store T x y)
    (cs zs : Array Value) (hi : (P.info? T).map (fun i => (i.zero, i.size)) = some (some (.agg zs), cs.size)) (hz : zs.size = cs.size) (h1 : cs.all (·.oneCell') = true)
    (hx : ∀ p, (a.put o1.dst p).eval x = p) (hy : ∀ p, (a.put o1.dst p).eval y = .agg cs)
    (h : wpList P ops Q rest ((a.put o1.dst (.pointer (some ⟨w.heap.size, 0, none⟩))).put o2.dst undef) (w.alloc (.cells cs T))) :
    wpList P ops Q (o1 :: o2 :: rest) a w := by
  obtain ⟨hz0, hsz⟩ := zero_of_info hi
  refine z23 (v := .pointer (some ⟨w.heap.size, 0, none⟩)) (w' := w.alloc (.cells zs T)) (by simp [Region.wanted, hg1]) ?_ ?_
  · simp [execOp, ho1, Instr.alloc, hz0, newVar, newRow, Value.cells]
  · refine wpList_store_row hg2 T x y ho2 w.heap.size cs (hx _) (hy _) T zs (heap_alloc_last w _) hsz hz h1 ?_
    rw [World.setRow_alloc_new]
    exact h
theorem tk {P : Program} {ops : Array Oper} {Q : Exit → Act → World → Prop} {md : Region.Mode} {S : World → Prop} (i : Nat) {oi : Oper} {v : Value} {fuel : Nat} {listed : Array Bool} {a : Act} {w : World} (hi : ops[i]? = some oi)
    (hk : (Region.noSelect ops && (Region.free md ops listed i && (Region.ready md ops listed).contains i)) = true) (hy : YieldsIf P ops S oi v a) (hS : S w)
    (h : wpAnyH P md ops Q S fuel (listed.setIfInBounds i true) (a.put oi.dst v) w) (hQ : ∀ c a w, Q (.panic c) (a.put oi.dst v) w → Q (.panic c) a w := by exact fun _ _ _ h => h) : wpAnyH P md ops Q S (fuel + 1) listed a w := by
  simp only [Bool.and_eq_true] at hk
  exact wpAnyH_take hi hk.1 hk.2.1 hk.2.2 hQ hy hS h
def Fresh (w : World) (B g n c : Nat) (l : List UInt8) : Prop :=
  ∃ cur e fz, w.heap[g]? = some (.cells cur e fz) ∧ B ≤ g ∧ n = l.length ∧ n ≤ c ∧ c ≤ maxLen ∧ c ≤ cur.size ∧ c ≤ fz.1 ∧ cur.toList.take n = BV l
theorem Fresh.lt {w : World} {B g n c : Nat} {l : List UInt8} (h : Fresh w B g n c l) : g < w.heap.size := by
  obtain ⟨cur, e, fz, hg, _⟩ := h
  exact lt_of_block hg
theorem Fresh.below {w w' : World} {B g n c : Nat} {l : List UInt8} (h : Fresh w B g n c l) (hb : Below w.heap.size w w') : Fresh w' B g n c l := by
  obtain ⟨cur, e, fz, hg, r⟩ := h
  exact ⟨cur, e, fz, (hb.block g (lt_of_block hg)).trans hg, r⟩
theorem Fresh.bs {w : World} {B g n c : Nat} {l : List UInt8} (h : Fresh w B g n c l) : Bs w (some ⟨g, 0, none⟩) n c l := by
  obtain ⟨cur, e, fz, hg, hB, hn, hnc, hcm, hcs, hf, ht⟩ := h
  refine ⟨by rw [z2g]; omega, hnc, hcm, by simp, fun j u hj => ⟨_, rfl, ?_⟩⟩
  rw [z36, Nat.zero_add]
  have hjn : j < n := by have := (List.getElem?_eq_some_iff.1 hj).1; rw [z2g] at this; omega
  rw [← ht, List.getElem?_take, if_pos hjn] at hj
  simpa [World.cell?, hg] using hj
theorem z1u {w : World} {g : Nat} {cs : List Value} {ty : TypeId} {fz : Nat × Nat} (h : w.heap[g]? = some (.cells cs.toArray ty fz)) (j : Nat) : w.cell? ⟨g, j, none⟩ = cs[j]? := by
  simp [World.cell?, h]
theorem z00 {w : World} {b : Nat} {cs : List Value} {ty : TypeId} {fz : Nat × Nat} (h : w.heap[b]? = some (.cells cs.toArray ty fz)) : w.rangeAt b 0 cs :=
  fun j v hv => by rw [Nat.zero_add, z1u h, hv]
theorem wpL_newAt {P : Program} {w : World} {ops : Array Oper} {rest : List Oper} {o1 o2 : Oper} {a : Act} {Q : Exit → Act → World → Prop} (b : Nat) (hg1 : o1.guard = none) (hg2 : o2.guard = none) (T : TypeId) (ho1 : o1.op = .alloc T) (x y : Operand) (ho2 : o2.op = .store T x y)
    (cs zs : Array Value) (hi : (P.info? T).map (fun i => (i.zero, i.size)) = some (some (.agg zs), cs.size)) (hz : zs.size = cs.size) (h1 : cs.all (·.oneCell') = true)
    (hx : ∀ p, (a.put o1.dst p).eval x = p) (hy : ∀ p, (a.put o1.dst p).eval y = .agg cs) (hb : b = w.heap.size)
    (h : wpList P ops Q rest ((a.put o1.dst (.pointer (some ⟨b, 0, none⟩))).put o2.dst undef) (w.alloc (.cells cs T))) :
    wpList P ops Q (o1 :: o2 :: rest) a w := by
  subst hb
  exact wpL_new hg1 hg2 T ho1 x y ho2 cs zs hi hz h1 hx hy h
theorem z14 {P : Program} {ops : Array Oper} {o : Oper} {a : Act} {S : World → Prop} {t e : TypeId} {size bytes : Nat} {z : Value} (el : Elem P t e size bytes z)
    (hg : Region.wanted o (yielded ops a.tmps) = true) (x : Operand) (lo hi : Option Operand) (hop : o.op = Op.slice t x lo hi none) {ad : Option Addr} {n c : Nat} (hx : a.eval x = .slice ad n c) (l h : Nat)
    (hlo : (lo.map a.eval = none ∧ l = 0) ∨ ∃ k, lo.map a.eval = some (.int k (l : Int))) (hhi : (hi.map a.eval = none ∧ h = n) ∨ ∃ k, hi.map a.eval = some (.int k (h : Int))) (hl : l ≤ h) (hh : h ≤ c) :
    YieldsIf P ops S o (.slice (subAd ad c l size) (h - l) (c - l)) a := by
  refine Or.inl ⟨hg, fun w _ => ?_⟩
  simp only [execOp, hop, hx, Option.map_none, Sem.run_bind, run_slice (P := P) (w := w) el ad n c (lo.map a.eval) (hi.map a.eval) l h hlo hhi hl hh, Result.andThen_ok, Sem.run_pure]
theorem z05 {P : Program} {ops : Array Oper} {rest : List Oper} {o : Oper} {a : Act} {w : World} {Q : Exit → Act → World → Prop} (hgd : Region.wanted o (yielded ops a.tmps) = true) (ty : TypeId) (x : Operand) (ho : o.op = .load ty x)
    (b off : Nat) (hx : a.eval x = .pointer (some ⟨b, off, none⟩)) (cs : List Value) (d : TypeDesc) (hc : w.rangeAt b off cs)
    (hu : P.underlying ty = some d) (hd : d.isRow = true) (hi : (P.info? ty).map (·.size) = some cs.length)
    (h : wpList P ops Q rest (a.put o.dst (.agg cs.toArray)) w) : wpList P ops Q (o :: rest) a w := by
  refine z23 hgd ?_ h
  unfold execOp
  simp only [ho, hx, Instr.loadAt, Instr.sureAddr, Sem.run_bind, Sem.run_pure, Result.andThen_ok, run_loadVar_mid w b off ty cs d hc hu hd hi]
section
variable {H : Type} {enc : TypeId × Value → H} {P : Program} {w : World} {base : Nat} {spare : Nat → Bool} {held : Bool}
end
theorem numBE_from (a : Nat) (m : List UInt8) : m.foldl (fun n b => n * 256 + b.toNat) a = a * 256 ^ m.length + numBE m := by
  induction m generalizing a with
  | nil => simp [numBE]
  | cons b m ih =>
    have e : numBE (b :: m) = b.toNat * 256 ^ m.length + numBE m := by
      unfold numBE
      rw [List.foldl_cons, ih (0 * 256 + b.toNat)]
      simp [numBE]
    rw [List.foldl_cons, ih, e, List.length_cons, Nat.pow_succ, Nat.add_mul, Nat.mul_assoc, Nat.mul_comm 256, Nat.add_assoc]
theorem numBE_cons (b : UInt8) (m : List UInt8) : numBE (b :: m) = b.toNat * 256 ^ m.length + numBE m := by
  unfold numBE
  rw [List.foldl_cons, numBE_from]
  simp [numBE]
theorem pow256 (k : Nat) : 2 ^ (8 * k) = 256 ^ k := by rw [show (256 : Nat) = 2 ^ 8 from rfl, ← Nat.pow_mul]
theorem numBE_putLE (n k : Nat) : numBE (putLE n k).reverse = n % 256 ^ k := by
  induction k with
  | zero => simp [putLE, numBE, Nat.mod_one]
  | succ k ih =>
    rw [putLE_succ, List.reverse_append, List.reverse_cons, List.reverse_nil, List.nil_append, List.cons_append, List.nil_append, numBE_cons, ih, List.length_reverse, z31, z21, pow256, Nat.mod_pow_succ, Nat.mul_comm]
    omega
theorem getN_putL (n : Nat) (size : Int) (big : Bool) : getN (putL n size big) big = n % 256 ^ sizeOf8 size := by
  have h8 : sizeOf8 size ≤ 8 := by unfold sizeOf8; omega
  unfold getN putL
  cases big
  · simp only [Bool.false_eq_true, if_false]
    rw [List.take_of_length_le (by rw [z31]; exact h8), numBE_putLE]
  · simp only [if_true]
    rw [List.take_of_length_le (by rw [List.length_reverse, z31]; exact h8), numBE_putLE]
theorem byteAt_first (n : Nat) (b : UInt8) : byteAt (n * 256 + b.toNat) 0 = b := by
  have := b.toNat_lt
  apply UInt8.toNat_inj.1
  rw [z21]
  simp
theorem byteAt_next (n i : Nat) (b : UInt8) : byteAt (n * 256 + b.toNat) (i + 1) = byteAt n i := by
  have := b.toNat_lt
  apply UInt8.toNat_inj.1
  rw [z21, z21, show 8 * (i + 1) = 8 + 8 * i by omega, Nat.pow_add, ← Nat.div_div_eq_div_mul]
  congr 2
  omega
theorem putLE_numBE (m : List UInt8) : putLE (numBE m.reverse) m.length = m := by
  induction m with
  | nil => rfl
  | cons b m ih =>
    rw [List.reverse_cons, numBE_snoc, List.length_cons]
    unfold putLE
    rw [List.range_succ_eq_map, List.map_cons, byteAt_first, List.map_map]
    congr 1
    refine Eq.trans ?_ ih
    unfold putLE
    refine List.map_congr_left fun i _ => ?_
    exact byteAt_next _ _ _
theorem putL_getN (l : List UInt8) (big : Bool) (h : l.length ≤ 8) : putL (getN l big) (l.length : Int) big = l := by
  have e : sizeOf8 (l.length : Int) = l.length := by unfold sizeOf8; omega
  unfold putL getN
  rw [e, List.take_of_length_le h]
  cases big
  · simp only [Bool.false_eq_true, if_false]
    exact putLE_numBE l
  · simp only [if_true]
    have := putLE_numBE l.reverse
    rw [List.reverse_reverse, List.length_reverse] at this
    rw [this, List.reverse_reverse]
abbrev OV := Int × List UInt8
def hdB (big : Bool) (o : OV) : List UInt8 := putL o.1.toNat 2 big ++ putL o.2.length 2 big
def optB (big : Bool) (o : OV) : List UInt8 := hdB big o ++ padL o.2
def putO (big : Bool) (l : List OV) : List UInt8 := l.flatMap (optB big)
def endO (l : List OV) : List UInt8 := if l.isEmpty then [] else [0, 0, 0, 0]
def putAll (big : Bool) (l : List OV) : List UInt8 := putO big l ++ endO l
def okO (o : OV) : Prop := 1 ≤ o.1 ∧ o.1 ≤ 65535 ∧ o.2.length ≤ 65535
def wrongO : List OV → Int
  | [] => 0
  | o :: l => if o.1 < 1 ∨ 65535 < o.1 then 1 else if 65535 < o.2.length then 4 else wrongO l
def lenO (o : OV) : Nat := 4 + o.2.length + padN o.2.length
def sizeO (l : List OV) : Nat := (l.map lenO).sum
theorem z2q {l : List OV} : wrongO l = 0 ↔ ∀ o ∈ l, okO o := by
  induction l with
  | nil => simp [wrongO]
  | cons o l ih =>
    simp only [wrongO, List.mem_cons, forall_eq_or_imp]
    unfold okO at *
    split
    · constructor
      · intro h; cases h
      · intro h; have := h.1; omega
    · split
      · constructor
        · intro h; cases h
        · intro h; have := h.1; omega
      · constructor
        · intro h; exact ⟨by omega, ih.1 h⟩
        · intro h; exact ih.2 h.2
theorem z0m (n : Nat) (big : Bool) : (putL n 2 big).length = 2 := by rw [z1n]; rfl
theorem z3r (big : Bool) (o : OV) : (hdB big o).length = 4 := by simp [hdB, z0m]
theorem optB_length (big : Bool) (o : OV) : (optB big o).length = lenO o := by
  simp [optB, z3r, padL, lenO]; omega
theorem putO_length (big : Bool) (l : List OV) : (putO big l).length = sizeO l := by
  induction l with
  | nil => rfl
  | cons o l ih =>
    simp only [putO, List.flatMap_cons, List.length_append, optB_length, sizeO, List.map_cons, List.sum_cons] at *
    omega
theorem putO_append (big : Bool) (l m : List OV) : putO big (l ++ m) = putO big l ++ putO big m := by simp [putO]
theorem putO_one (big : Bool) (o : OV) : putO big [o] = optB big o := by simp [putO]
theorem sizeO_append (l m : List OV) : sizeO (l ++ m) = sizeO l + sizeO m := by simp [sizeO]
theorem lenO_mod (o : OV) : lenO o % 4 = 0 := by unfold lenO padN; omega
theorem sizeO_mod (l : List OV) : sizeO l % 4 = 0 := by
  induction l with
  | nil => rfl
  | cons o l ih =>
    have := lenO_mod o
    simp only [sizeO, List.map_cons, List.sum_cons] at *
    omega
theorem getN_two (n : Nat) (big : Bool) (h : n ≤ 65535) : getN (putL n 2 big) big = n := by
  rw [getN_putL]
  show n % 65536 = n
  omega
abbrev RR := List OV × Nat × Bool × (Nat × Int)
def codeOf (big : Bool) (s : List UInt8) : Nat := getN (s.take 2) big
def sizeOf2 (big : Bool) (s : List UInt8) : Nat := getN ((s.drop 2).take 2) big
def rowsS (big : Bool) : Nat → List UInt8 → Nat → List OV → RR
  | 0, _, at_, acc => (acc, at_, false, (0, 0))
  | f + 1, s, at_, acc =>
    if s.length = 0 then (acc, at_, false, (0, 0))
    else if s.length < 4 then ([], 0, false, (at_, 2))
    else if codeOf big s = 0 ∧ sizeOf2 big s = 0 then (acc, at_ + 4, true, (0, 0))
    else if codeOf big s = 0 then ([], 0, false, (at_, 3))
    else if s.length < 4 + sizeOf2 big s + padN (sizeOf2 big s) then ([], 0, false, (at_, 2))
    else rowsS big f (s.drop (4 + sizeOf2 big s + padN (sizeOf2 big s))) (at_ + (4 + sizeOf2 big s + padN (sizeOf2 big s))) (acc ++ [((codeOf big s : Int), (s.drop 4).take (sizeOf2 big s))])
def rowsB (big : Bool) (b : List UInt8) : RR := rowsS big b.length b 0 []
theorem z3k (big : Bool) : ∀ (f g : Nat) (s : List UInt8) (at_ : Nat) (acc : List OV), s.length ≤ f → s.length ≤ g → rowsS big f s at_ acc = rowsS big g s at_ acc
  | 0, 0, _, _, _, _, _ => rfl
  | 0, g + 1, s, at_, acc, h, _ => by
    have : s.length = 0 := by omega
    simp [rowsS, this]
  | f + 1, 0, s, at_, acc, _, h => by
    have : s.length = 0 := by omega
    simp [rowsS, this]
  | f + 1, g + 1, s, at_, acc, h1, h2 => by
    simp only [rowsS]
    repeat' split
    all_goals first | rfl | skip
    exact z3k big f g _ _ _ (by rw [List.length_drop]; omega) (by rw [List.length_drop]; omega)
theorem rowsS_nil (big : Bool) (f at_ : Nat) (acc : List OV) : rowsS big f [] at_ acc = (acc, at_, false, (0, 0)) := by
  cases f <;> simp [rowsS]
theorem rowsS_opt (big : Bool) (f : Nat) (o : OV) (ho : okO o) (p t : List UInt8) (hp : p.length = padN o.2.length) (at_ : Nat) (acc : List OV) :
    rowsS big (f + 1) (hdB big o ++ o.2 ++ p ++ t) at_ acc = rowsS big f t (at_ + lenO o) (acc ++ [o]) := by
  obtain ⟨h1, h2, h3⟩ := ho
  obtain ⟨s, hs⟩ : ∃ s, s = hdB big o ++ o.2 ++ p ++ t := ⟨_, rfl⟩
  have c2 : s.take 2 = putL o.1.toNat 2 big := by
    rw [hs]; unfold hdB
    simp only [List.append_assoc]
    exact List.take_left' (z0m _ _)
  have c3 : (s.drop 2).take 2 = putL o.2.length 2 big := by
    rw [hs]; unfold hdB
    simp only [List.append_assoc]
    rw [List.drop_left' (z0m _ _)]
    exact List.take_left' (z0m _ _)
  have hc : codeOf big s = o.1.toNat := by unfold codeOf; rw [c2, getN_two _ _ (by omega)]
  have hn : sizeOf2 big s = o.2.length := by unfold sizeOf2; rw [c3, getN_two _ _ h3]
  have hl : s.length = 4 + o.2.length + padN o.2.length + t.length := by rw [hs]; simp [z3r, hp]; omega
  have d4 : (s.drop 4).take o.2.length = o.2 := by
    rw [hs]
    simp only [List.append_assoc]
    rw [List.drop_left' (z3r big o)]
    exact List.take_left' rfl
  have da : s.drop (4 + o.2.length + padN o.2.length) = t := by
    rw [hs]
    exact List.drop_left' (by simp [z3r, hp]; omega)
  rw [← hs]
  simp only [rowsS, hc, hn]
  rw [if_neg (by omega), if_neg (by omega), if_neg (by omega), if_neg (by omega), if_neg (by omega), da, d4, Int.toNat_of_nonneg (by omega)]
  rfl
theorem rowsS_end (big : Bool) (f : Nat) (t : List UInt8) (at_ : Nat) (acc : List OV) : rowsS big (f + 1) ([0, 0, 0, 0] ++ t) at_ acc = (acc, at_ + 4, true, (0, 0)) := by
  have h1 : codeOf big ([0, 0, 0, 0] ++ t) = 0 := by cases big <;> rfl
  have h2 : sizeOf2 big ([0, 0, 0, 0] ++ t) = 0 := by cases big <;> rfl
  simp only [rowsS, h1, h2]
  simp
def layP (big : Bool) (p : UInt8) (l : List OV) : List UInt8 := l.flatMap fun o => hdB big o ++ o.2 ++ List.replicate (padN o.2.length) p
theorem layP_zero (big : Bool) (l : List OV) : layP big 0 l = putO big l := by
  unfold layP putO optB padL
  simp only [List.append_assoc]
theorem layP_length (big : Bool) (p : UInt8) (l : List OV) : (layP big p l).length = sizeO l := by
  induction l with
  | nil => rfl
  | cons o l ih =>
    simp only [layP, List.flatMap_cons, List.length_append, z3r, List.length_replicate, sizeO, List.map_cons, List.sum_cons, lenO] at *
    omega
theorem rowsS_lay (big : Bool) (p : UInt8) : ∀ (l : List OV) (f : Nat) (t : List UInt8) (at_ : Nat) (acc : List OV), (∀ o ∈ l, okO o) →
    rowsS big (f + l.length) (layP big p l ++ t) at_ acc = rowsS big f t (at_ + sizeO l) (acc ++ l)
  | [], f, t, at_, acc, _ => by simp [layP, sizeO]
  | o :: l, f, t, at_, acc, h => by
    have e : layP big p (o :: l) ++ t = hdB big o ++ o.2 ++ List.replicate (padN o.2.length) p ++ (layP big p l ++ t) := by
      simp [layP, List.append_assoc]
    rw [e, show f + (o :: l).length = (f + l.length) + 1 by simp; omega, rowsS_opt big _ o (h o (by simp)) _ _ (by simp), rowsS_lay big p l f t _ _ (fun x hx => h x (by simp [hx]))]
    congr 1
    · simp [sizeO]; omega
    · simp
theorem lenO_ge (o : OV) : 4 ≤ lenO o := by unfold lenO; omega
theorem sizeO_ge (l : List OV) : 4 * l.length ≤ sizeO l := by
  induction l with
  | nil => simp [sizeO]
  | cons o l ih =>
    have := lenO_ge o
    simp only [sizeO, List.map_cons, List.sum_cons, List.length_cons] at *
    omega
theorem rowsB_lay (big : Bool) (p : UInt8) (l : List OV) (t : List UInt8) (h : ∀ o ∈ l, okO o) : rowsB big (layP big p l ++ t) = rowsS big t.length t (sizeO l) l := by
  unfold rowsB
  have hl : (layP big p l ++ t).length = sizeO l + t.length := by rw [List.length_append, layP_length]
  have := sizeO_ge l
  rw [z3k big _ (t.length + sizeO l + l.length) _ _ _ (Nat.le_refl _) (by omega), rowsS_lay big p l _ t 0 [] h]
  simp only [Nat.zero_add, List.nil_append]
  exact z3k big _ _ _ _ _ (by omega) (Nat.le_refl _)
theorem rowsS_at (big : Bool) : ∀ (f : Nat) (s : List UInt8) (at_ : Nat) (acc : List OV), s.length ≤ f → (rowsS big f s at_ acc).2.2.2 = (0, 0) →
    (rowsS big f s at_ acc).2.1 ≤ at_ + s.length ∧ ((rowsS big f s at_ acc).2.2.1 = false → (rowsS big f s at_ acc).2.1 = at_ + s.length)
  | 0, s, at_, acc, h, _ => by
    have : s.length = 0 := by omega
    simp [rowsS, this]
  | f + 1, s, at_, acc, h, hz => by
    simp only [rowsS] at hz ⊢
    split at hz
    · rename_i h0; simp [h0]
    · rename_i h0
      rw [if_neg h0]
      split at hz
      · simp at hz
      · rename_i h1
        rw [if_neg h1]
        split at hz
        · rename_i h2; rw [if_pos h2]; simp; omega
        · rename_i h2
          rw [if_neg h2]
          split at hz
          · simp at hz
          · rename_i h3
            rw [if_neg h3]
            split at hz
            · simp at hz
            · rename_i h4
              rw [if_neg h4]
              have ih := rowsS_at big f _ _ _ (by rw [List.length_drop]; omega) hz
              rw [List.length_drop] at ih
              refine ⟨by omega, fun hh => ?_⟩
              rw [ih.2 hh]
              omega
abbrev Sp := Nat × Int
def readR (len : Nat) (r : RR) : List OV × Sp := if r.2.2.2 = (0, 0) then (if r.2.1 < len then ([], (r.2.1, 3)) else (r.1, (0, 0))) else ([], r.2.2.2)
def rowsR (r : RR) : List OV × Nat × Sp := if r.2.2.2 = (0, 0) then (if r.2.2.1 then (r.1, r.2.1, (0, 0)) else ([], 0, (r.2.1, 2))) else ([], 0, r.2.2.2)
def readO (big : Bool) (b : List UInt8) : List OV × Sp := readR b.length (rowsB big b)
def rowsO (big : Bool) (b : List UInt8) : List OV × Nat × Sp := rowsR (rowsB big b)
theorem rowsS_spot (big : Bool) : ∀ (f : Nat) (s : List UInt8) (at_ : Nat) (acc : List OV), (rowsS big f s at_ acc).2.2.2 = (0, 0) ∨ ((rowsS big f s at_ acc).2.2.2.2 = 2 ∨ (rowsS big f s at_ acc).2.2.2.2 = 3) ∧ (rowsS big f s at_ acc).2.2.2.1 < at_ + s.length ∧ (rowsS big f s at_ acc).1 = [] ∧ (rowsS big f s at_ acc).2.1 = 0 ∧ (rowsS big f s at_ acc).2.2.1 = false
  | 0, s, at_, acc => by simp [rowsS]
  | f + 1, s, at_, acc => by
    simp only [rowsS]
    split
    · exact .inl rfl
    · split
      · refine .inr ⟨.inl rfl, ?_, rfl, rfl, rfl⟩; simp; omega
      · split
        · exact .inl rfl
        · split
          · refine .inr ⟨.inr rfl, ?_, rfl, rfl, rfl⟩; simp; omega
          · split
            · refine .inr ⟨.inl rfl, ?_, rfl, rfl, rfl⟩; simp; omega
            · have := rowsS_spot big f (s.drop (4 + sizeOf2 big s + padN (sizeOf2 big s))) (at_ + (4 + sizeOf2 big s + padN (sizeOf2 big s))) (acc ++ [((codeOf big s : Int), (s.drop 4).take (sizeOf2 big s))])
              rw [List.length_drop] at this
              refine this.imp id fun ⟨h1, h2, h3⟩ => ⟨h1, by omega, h3⟩
theorem readO_lay (big : Bool) (p : UInt8) (l : List OV) (h : ∀ o ∈ l, okO o) : readO big (layP big p l ++ endO l) = (l, (0, 0)) := by
  unfold readO readR
  rw [rowsB_lay big p l _ h]
  have hl : (layP big p l ++ endO l).length = sizeO l + (endO l).length := by rw [List.length_append, layP_length]
  rw [hl]
  cases l with
  | nil => simp [endO, rowsS, sizeO]
  | cons o l =>
    have e : endO (o :: l) = [0, 0, 0, 0] ++ [] := rfl
    rw [e]
    have := rowsS_end big 3 [] (sizeO (o :: l)) (o :: l)
    rw [show ([0, 0, 0, 0] ++ [] : List UInt8).length = 3 + 1 from rfl, this]
    simp
theorem rowsO_more (big : Bool) (p : UInt8) (l : List OV) (h : ∀ o ∈ l, okO o) (hl : l ≠ []) (t : List UInt8) : rowsO big (layP big p l ++ endO l ++ t) = (l, sizeO l + 4, (0, 0)) := by
  unfold rowsO rowsR
  have e : endO l = [0, 0, 0, 0] := by cases l with | nil => exact absurd rfl hl | cons => rfl
  rw [List.append_assoc, rowsB_lay big p l _ h, e]
  have := rowsS_end big (3 + t.length) t (sizeO l) l
  rw [show (([0, 0, 0, 0] : List UInt8) ++ t).length = 3 + t.length + 1 by simp; omega, this]
  simp
end Go.Proofs.Ytmfplinbbcoahaa
