/-
  A layer of laws over any program: slices that are read ('Sl'), slices that a call owns, and the operations on them, in one form each.
-/
import Derived.WalkKit
import Derived.Handy
import Derived.Lib.Hide
import Derived.Lib.QuietBelow
import Derived.Maps.AppendAt
import Derived.KernelRfl
import Derived.ProofKit
import Derived.OpenShut
import Derived.ShutString
import Derived.ChangeOld
import Derived.Below
import Derived.WalkSpells
namespace Go.Proofs.Ytkgkagcppoedeaa
open Go.RowKit Go.Sort
set_option linter.unusedVariables false

/-- A slice type t of elements e: the row of the table of types that the laws ask. -/
structure Elem (P : Program) (t e : TypeId) (size bytes : Nat) (z : Value) : Prop where
  ht : P.underlying t = some (.slice e)
  info : (P.info? e).map (fun i => (i.zero, i.size, i.bytes)) = some (some z, size, bytes)
  hzs : z.cells.size = size
  hsz : 0 < size

/-- The value '.slice ad n c' reads as the cells vs (n elements of 'size' cells). -/
def Sl (w : World) (ad : Option Addr) (n c size : Nat) (vs : List Value) : Prop :=
  vs.length = n * size ∧ n ≤ c ∧ c ≤ maxLen ∧ (ad = none → n = 0 ∧ c = 0) ∧ ∀ j u, vs[j]? = some u → ∃ x, ad = some x ∧ w.cell? (x.add j) = some u

theorem cell_addr {w : World} {x : Addr} {u : Value} (h : w.cell? x = some u) : ∃ b off, x = ⟨b, off, none⟩ ∧ b < w.heap.size := by
  obtain ⟨b, off, sp⟩ := x
  have hb := World.block_lt_of_cell? w _ h
  cases sp with
  | none => exact ⟨b, off, rfl, hb⟩
  | some s =>
    exfalso
    simp only [World.cell?] at h
    split at h <;> simp at h

theorem addr_add (b off j : Nat) : (⟨b, off, none⟩ : Addr).add j = ⟨b, off + j, none⟩ := by
  unfold Addr.add
  split
  · subst_vars; rfl
  · rfl

theorem add_addr {x : Addr} {j b o : Nat} (h : x.add j = ⟨b, o, none⟩) : x.block = b ∧ (j = 0 → x = ⟨b, o, none⟩) ∧ x.off + j = o := by
  unfold Addr.add at h
  split at h
  · subst_vars; simp
  · obtain ⟨xb, xo, xs⟩ := x
    simp at h
    refine ⟨h.1, by omega, h.2⟩

theorem add_zero (x : Addr) : x.add 0 = x := by unfold Addr.add; simp

/-- An element that is there: the address written out, and its cell. -/
theorem Sl.at {w : World} {ad : Option Addr} {n c size : Nat} {vs : List Value} (h : Sl w ad n c size vs) {j : Nat} (hj : j < vs.length) :
    ∃ b off, ad = some ⟨b, off, none⟩ ∧ b < w.heap.size ∧ ∀ i (hi : i < vs.length), w.cell? ⟨b, off + i, none⟩ = some vs[i] := by
  have h0 : 0 < vs.length := by omega
  obtain ⟨x, hx, hc⟩ := h.2.2.2.2 0 vs[0] (by simp [h0])
  rw [add_zero] at hc
  obtain ⟨b, off, rfl, hb⟩ := cell_addr hc
  refine ⟨b, off, hx, hb, fun i hi => ?_⟩
  obtain ⟨y, hy, hcy⟩ := h.2.2.2.2 i vs[i] (by simp [hi])
  rw [hx] at hy
  cases hy
  rwa [addr_add] at hcy

theorem Sl.len {w : World} {ad : Option Addr} {n c size : Nat} {vs : List Value} (h : Sl w ad n c size vs) : vs.length = n * size := h.1
theorem Sl.le {w : World} {ad : Option Addr} {n c size : Nat} {vs : List Value} (h : Sl w ad n c size vs) : n ≤ c := h.2.1

theorem Sl.of_same {w w' : World} {ad : Option Addr} {n c size : Nat} {vs : List Value} (h : Sl w ad n c size vs)
    (hs : ∀ x j u, ad = some x → w.cell? (x.add j) = some u → w'.cell? (x.add j) = some u) : Sl w' ad n c size vs :=
  ⟨h.1, h.2.1, h.2.2.1, h.2.2.2.1, fun j u hj => let ⟨x, hx, hc⟩ := h.2.2.2.2 j u hj; ⟨x, hx, hs x j u hx hc⟩⟩

/-- What lay below a heap's size reads as it did. -/
theorem Sl.below {w w' : World} {ad : Option Addr} {n c size : Nat} {vs : List Value} (h : Sl w ad n c size vs) (hb : Below w.heap.size w w') : Sl w' ad n c size vs :=
  h.of_same fun x j u _ hc => by
    have hlt := World.block_lt_of_cell? w _ hc
    rw [hb.cell hlt]; exact hc

/-- .. and behind writes to one row, if that is another block. -/
theorem Sl.grown {w w' : World} {row : Option Nat} {ad : Option Addr} {n c size : Nat} {vs : List Value} (h : Sl w ad n c size vs) (hg : w.grownBy w' row) (hne : ∀ x, ad = some x → row ≠ some x.block) : Sl w' ad n c size vs :=
  h.of_same fun x j u hx hc => by
    have hb : (x.add j).block = x.block := by unfold Addr.add; split <;> rfl
    exact hg.cell hc (by rw [hb]; exact fun e => hne x hx e.symm)

theorem Sl.nil (w : World) (size : Nat) : Sl w none 0 0 size [] := ⟨by simp, Nat.le_refl _, by simp [maxLen], fun _ => ⟨rfl, rfl⟩, fun j u h => by simp at h⟩

/-- What a call owns reads so. -/
theorem Sl.of_own {w : World} {base : Nat} {e : TypeId} {size : Nat} {ad : Option Addr} {n c : Nat} {xs : List Value} (h : w.ownsRow base e size (.slice ad n c) n xs) : Sl w ad n c size xs := by
  obtain ⟨hl, h2 | ⟨g, cap, cur, hv, hb, hg, hnc, hcm, hcs, ht⟩⟩ := h
  · obtain ⟨hv, rfl⟩ := h2
    simp at hv
    obtain ⟨rfl, rfl⟩ := hv
    have : xs = [] := by cases xs with | nil => rfl | cons => simp at hl
    subst this
    exact Sl.nil w size
  · simp at hv
    obtain ⟨rfl, rfl⟩ := hv
    refine ⟨hl, hnc, hcm, by simp, fun j u hj => ⟨_, rfl, ?_⟩⟩
    exact World.ownsRow.cells (w := w) ⟨hl, .inr ⟨g, c, cur, rfl, hb, hg, hnc, hcm, hcs, ht⟩⟩ rfl j u hj

/-- A slice of numbers, of bytes .. that came in, as the proof's frame hands it. -/
theorem Sl.of_row {k : IntKind} {w : World} {a : Option Addr} {len cap : Nat} {zs : List Int}
    (h : (a = none ∧ len = 0 ∧ cap = 0 ∧ zs = []) ∨ ∃ x, a = some x ∧ len ≤ cap ∧ cap ≤ maxLen ∧ zs.length = cap ∧ (∀ i, i < zs.length → w.cell? (x.add i) = some (.int k (zs.getD i 0))) ∧ ∀ n ∈ zs, (Lit.int k n).wf = true) :
    Sl w a len cap 1 ((zs.take len).map (Value.int k)) := by
  rcases h with ⟨rfl, rfl, rfl, rfl⟩ | ⟨x, rfl, hlc, hcm, hl, hc, _⟩
  · exact Sl.nil w 1
  · refine ⟨by simp; omega, hlc, hcm, by simp, fun j u hj => ⟨x, rfl, ?_⟩⟩
    simp only [List.getElem?_map, List.getElem?_take] at hj
    by_cases hlt : j < len
    · rw [if_pos hlt, List.getElem?_eq_getElem (by omega)] at hj
      simp at hj
      subst hj
      rw [hc j (by omega)]
      simp [List.getD, List.getElem?_eq_getElem (show j < zs.length by omega)]
    · rw [if_neg hlt] at hj
      simp at hj

theorem ints_one (k : IntKind) (zs : List Int) : ∀ u ∈ zs.map (Value.int k), u.oneCell' = true := by
  intro u hu
  obtain ⟨x, _, rfl⟩ := List.mem_map.1 hu
  rfl

/-- 'append(s, x...)', s the call's own (or nil), x whatever. -/
theorem wpL_append {P : Program} {w : World} {ops : Array Oper} {rest : List Oper} {o : Oper} {a : Act} {Q : Exit → Act → World → Prop} {t e : TypeId} {size bytes : Nat} {z : Value} (el : Elem P t e size bytes z)
    (hgd : o.guard = none) (s x : Operand) (ho : o.op = .call { callee := .builtin .append, args := #[s, x], argTypes := #[t, t] })
    (base : Nat) {ad : Option Addr} {n c : Nat} {xs : List Value} (hs : a.eval s = .slice ad n c) (hown : w.ownsRow base e size (.slice ad n c) n xs)
    {ad2 : Option Addr} {m c2 : Nat} {news : List Value} (hx : a.eval x = .slice ad2 m c2) (hsl : Sl w ad2 m c2 size news) (h1 : ∀ u ∈ news, u.oneCell' = true)
    (h63 : n + m ≤ maxLen) (hbytes : (n + m) * bytes ≤ 140737488355328) (hbase : base ≤ w.heap.size)
    (h : ∀ ad' c' w', w'.ownsRow base e size (.slice ad' (n + m) c') (n + m) (xs ++ news) → w.grownBy w' (Value.ownBlock (.slice ad n c)) →
      (ad' = ad ∨ ad' = some ⟨w.heap.size, 0, none⟩) → (ad' = none ↔ ad = none ∧ m = 0) → wpList P ops Q rest (a.put o.dst (.slice ad' (n + m) c')) w') :
    wpList P ops Q (o :: rest) a w := by
  obtain ⟨i, hi, hz, hsize, hby⟩ := info_parts el.info
  cases ad2 with
  | none =>
    obtain ⟨hl, hmc, hcm, hnil, hcells⟩ := hsl
    obtain ⟨rfl, rfl⟩ := hnil rfl
    have : news = [] := by cases news with | nil => rfl | cons => simp at hl
    subst this
    refine wpList_plain hgd fun K hK => ?_
    have hrun := run_append_owned_none (P := P) (w := w) base t o.type e i size el.ht hi _ n xs hown
    unfold Oper.wp
    simp [execOp, ho, resolve, invoke, builtin, hs, hx, hrun, Result.andThen]
    have := h ad c w (by simpa using hown) (World.grownBy.refl _ _) (.inl rfl) (by simp)
    exact hK _ _ this
  | some ad2 =>
    obtain ⟨hl, hmc, hcm, hnil, hcells⟩ := hsl
    refine wpList_append_own_at _ hgd s x t ho base e i z size bytes el.ht hi hz hsize hby el.hzs el.hsz _ n xs hs hown ad2 m c2 news hx hl ?_ h1 h63 hbytes hbase ?_
    · intro j u hj
      obtain ⟨y, hy, hc⟩ := hcells j u hj
      cases hy
      exact hc
    · intro v' w' hown' hgrow hnil' hat
      have hform : ∃ ad' c', v' = .slice ad' (n + m) c' ∧ (ad' = none ∨ ∃ g, ad' = some ⟨g, 0, none⟩) := by
        rcases hown'.2 with ⟨rfl, h0⟩ | ⟨g, cap, cur, rfl, _⟩
        · exact ⟨none, 0, by rw [h0], .inl rfl⟩
        · exact ⟨_, _, rfl, .inr ⟨g, rfl⟩⟩
      obtain ⟨ad', c', rfl, hf⟩ := hform
      have hadf : ad = none ∨ ∃ g, ad = some ⟨g, 0, none⟩ := by
        rcases hown.2 with ⟨hv, h0⟩ | ⟨g, cap, cur, hv, _⟩
        · simp at hv; exact .inl hv.1
        · simp at hv; exact .inr ⟨g, hv.1⟩
      refine h ad' c' w' hown' hgrow ?_ ?_
      · rcases hf with rfl | ⟨g, rfl⟩ <;> rcases hadf with rfl | ⟨g', rfl⟩ <;> simp [Value.ownBlock] at hat ⊢ <;> omega
      · constructor
        · rintro rfl
          have hz0 : n + m = 0 ∧ c' = 0 := by
            rcases hown'.2 with ⟨hv, h0⟩ | ⟨g, cap, cur, hv, _⟩
            · simp at hv; exact ⟨h0, hv.2⟩
            · simp at hv
          have := (hnil'.1 (by rw [hz0.1, hz0.2]))
          have h2 := this.1
          simp at h2
          exact ⟨h2.1, this.2⟩
        · rintro ⟨rfl, rfl⟩
          have hz0 : n = 0 ∧ c = 0 := by
            rcases hown.2 with ⟨hv, h0⟩ | ⟨g, cap, cur, hv, _⟩
            · simp at hv; exact ⟨h0, hv.2⟩
            · simp at hv
          obtain ⟨rfl, rfl⟩ := hz0
          have := hnil'.2 ⟨rfl, rfl⟩
          simp at this
          exact this.1

theorem ownBlock_ge {w : World} {base : Nat} {e : TypeId} {size : Nat} {v : Value} {n : Nat} {xs : List Value} (h : w.ownsRow base e size v n xs) : ∀ k, v.ownBlock = some k → base ≤ k := fun k hk => (h.lt k hk).1

/-- What reads below 'base' reads so behind writes to a row of one's own. -/
theorem Sl.past {w w' : World} {base : Nat} {e : TypeId} {size' : Nat} {v : Value} {m : Nat} {xs : List Value} {ad : Option Addr} {n c size : Nat} {vs : List Value} (h : Sl w ad n c size vs)
    (hown : w.ownsRow base e size' v m xs) (hg : w.grownBy w' v.ownBlock) (hlt : ∀ x, ad = some x → x.block < base) : Sl w' ad n c size vs :=
  h.grown hg fun x hx e => by have := ownBlock_ge hown _ e; have := hlt x hx; omega

theorem below_drewN (B : Nat) (w : World) (n : Nat) : Below B w (w.drewN n) := ⟨rfl, rfl, rfl, Nat.le_refl _, fun _ _ => rfl⟩

theorem bcell {W w1 : World} (hb : Below W.heap.size W w1) : (∀ b o, b < W.heap.size → w1.cell? ⟨b, o, none⟩ = W.cell? ⟨b, o, none⟩) ∧ (∀ b o, b < W.heap.size → w1.frozen? ⟨b, o, none⟩ = W.frozen? ⟨b, o, none⟩) :=
  ⟨fun b o h => hb.cell (p := ⟨b, o, none⟩) h, fun b o h => hb.frozen (p := ⟨b, o, none⟩) h⟩

theorem below_of_regrown {B : Nat} {w : World} (hB : B ≤ w.heap.size) (d : Nat) (os : Array Obj) : Below B w (grow (redrawn w d) os) := (below_regrown w d os).mono hB

/-! ### What came in: arrays of numbers -/
section
variable {H : Type} {enc : TypeId × Value → H} {P : Program} {w : World} {base : Nat} {spare : Nat → Bool} {held : Bool}

theorem mapM_ints {k : IntKind} {e : TypeId} (he : P.underlying e = some (.int k)) (hce : P.cellsOf e = 1) {fuel : Nat} {cs : List Value} :
    ∀ (n m : Nat) (xs : List (DataW H × List MemPlace)), m + n ≤ cs.length → (List.range' m n).mapM (fun i => DataW.trod enc P w base spare held fuel e ((cs.drop (i * P.cellsOf e)).take (P.cellsOf e))) = some xs →
      ∃ zs : List Int, zs.length = n ∧ (cs.drop m).take n = zs.map (Value.int k) ∧ ∀ x ∈ zs, (Lit.int k x).wf = true
  | 0, m, xs, _, _ => ⟨[], rfl, by simp, by simp⟩
  | n + 1, m, xs, hl, h => by
    rw [List.range'_succ, List.mapM_cons] at h
    obtain ⟨x, hx, h⟩ := Option.bind_eq_some_iff.1 h
    obtain ⟨ys, hys, _⟩ := Option.bind_eq_some_iff.1 h
    obtain ⟨zs, hz1, hz2, hz3⟩ := mapM_ints he hce n (m + 1) ys (by omega) hys
    rw [hce, Nat.mul_one] at hx
    have hcell : (cs.drop m).take 1 = [cs[m]'(by omega)] := by
      rw [List.drop_eq_getElem_cons (by omega)]
      rfl
    rw [hcell] at hx
    obtain ⟨z, hz, hwf⟩ : ∃ z, cs[m]'(by omega) = .int k z ∧ (Lit.int k z).wf = true := by
      cases fuel with
      | zero => simp [DataW.trod] at hx
      | succ f =>
        simp only [DataW.trod, he] at hx
        split at hx <;> simp_all
    refine ⟨z :: zs, by simp [hz1], ?_, by simpa [hwf] using hz3⟩
    rw [List.drop_eq_getElem_cons (by omega), List.take_succ_cons, hz2, hz]
    rfl

theorem open_int_array {k : IntKind} {t e : TypeId} {n : Nat} (ht : P.underlying t = some (.array n e)) (he : P.underlying e = some (.int k)) (hce : P.cellsOf e = 1) (hct : P.cellsOf t = n)
    {r : Reach} {b0 : Nat} {v : Value} {d : DataW H} {ps : List MemPlace} (hv : Value.okWide P w r b0 t v) (h : DataW.Trod enc P w base spare held t v d ps) :
    ∃ zs : List Int, zs.length = n ∧ v = .agg (zs.map (Value.int k)).toArray ∧ ∀ x ∈ zs, (Lit.int k x).wf = true := by
  simp only [Value.okWide, ht] at hv
  obtain ⟨cs, rfl, hsz, _⟩ := hv
  obtain ⟨fuel, hf⟩ := h
  cases fuel with
  | zero => simp [DataW.trod] at hf
  | succ f =>
    simp only [Value.cells, DataW.trod, ht] at hf
    rw [if_pos (by simpa using hsz)] at hf
    obtain ⟨xs, hxs, _⟩ := Option.map_eq_some_iff.1 hf
    rw [List.range_eq_range'] at hxs
    have hl : cs.toList.length = n := by rw [Array.length_toList, hsz, hct]
    obtain ⟨zs, h1, h2, h3⟩ := mapM_ints he hce n 0 xs (by omega) hxs
    refine ⟨zs, h1, ?_, h3⟩
    rw [List.drop_zero, List.take_of_length_le (by omega)] at h2
    rw [← h2]
end

theorem wf_u16' {n : Int} (h : (Lit.int .u16 n).wf = true) : 0 ≤ n ∧ n ≤ 65535 := by
  simp [Lit.wf, IntKind.min, IntKind.max, IntKind.signed, IntKind.bits] at h
  omega
theorem wf_i64' {n : Int} (h : (Lit.int .i64 n).wf = true) : -9223372036854775808 ≤ n ∧ n ≤ 9223372036854775807 := by
  simp [Lit.wf, IntKind.min, IntKind.max, IntKind.signed, IntKind.bits] at h
  omega
theorem wf_u8' {n : Int} (h : (Lit.int .u8 n).wf = true) : 0 ≤ n ∧ n ≤ 255 := by
  simp [Lit.wf, IntKind.min, IntKind.max, IntKind.signed, IntKind.bits] at h
  omega
theorem wf_u32' {n : Int} (h : (Lit.int .u32 n).wf = true) : 0 ≤ n ∧ n ≤ 4294967295 := by
  simp [Lit.wf, IntKind.min, IntKind.max, IntKind.signed, IntKind.bits] at h
  omega
theorem wf_i32' {n : Int} (h : (Lit.int .i32 n).wf = true) : -2147483648 ≤ n ∧ n ≤ 2147483647 := by
  simp [Lit.wf, IntKind.min, IntKind.max, IntKind.signed, IntKind.bits] at h
  omega
theorem wf_u64' {n : Int} (h : (Lit.int .u64 n).wf = true) : 0 ≤ n ∧ n ≤ 18446744073709551615 := by
  simp [Lit.wf, IntKind.min, IntKind.max, IntKind.signed, IntKind.bits] at h
  omega

end Go.Proofs.Ytkgkagcppoedeaa
