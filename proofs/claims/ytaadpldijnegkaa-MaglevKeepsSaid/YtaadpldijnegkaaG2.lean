/-
  Joined by program (merge.py): RngF, Fk2, Open, Sip1, Sip2, Sip3, Concat, Sip4, Plain1, PlainSip, Sip5, Sip6, KitSip, PlainPerm, Perm1, Perm2, Perm3.
-/
import Derived.Great.BuildSlice
import Derived.Deep.Onto
import Derived.Laws.Rows
import Derived.StillTailTactics
import Derived.Lib.AppendZeros
import Derived.Deep.RegionWith
import Derived.BigQuiet
import Derived.Test.YtaadpldijnegkaaG1
/-
  What a loop over an iterator may keep of its own; appends of structs (written by program out of PcOwn, PcFrK, PcFrames, PcStp).
-/
namespace Go.Proofs.Ytaadpldijnegkaa
open Go.RowKit Go.Sort Go.Shelf
set_option linter.unusedVariables false
set_option linter.unusedSimpArgs false

section
variable {w w' : World} {row : Option Nat}
theorem heap_grown (hg : w.grownBy w' row) (hr : ∀ r, row = some r → ∃ o : Obj, w.heap[r]? = some o ∧ o.isCells = false) {k : Nat} {cs : Array Value} {ty : TypeId} {fz : Nat × Nat} (h : w.heap[k]? = some (.cells cs ty fz)) : w'.heap[k]? = some (.cells cs ty fz) :=
  (hg.block k (lt_of_block h) (fun e => by
    obtain ⟨o, ho, hc⟩ := hr k e.symm
    rw [h] at ho
    cases ho
    simp [Obj.isCells] at hc)).trans h
theorem cell_grown (hg : w.grownBy w' row) (hr : ∀ r, row = some r → ∃ o : Obj, w.heap[r]? = some o ∧ o.isCells = false) {x : Addr} {u : Value} (h : w.cell? x = some u) : w'.cell? x = some u :=
  hg.cell h (fun e => by
    obtain ⟨o, ho, hc⟩ := hr x.block e.symm
    obtain ⟨b, off, rfl, hb⟩ := cell_addr h
    simp only [World.cell?] at h
    simp only at ho
    rw [ho] at h
    cases o <;> simp [Obj.isCells] at h hc)
theorem Sl.grown' {ad : Option Addr} {n c size : Nat} {vs : List Value} (h : Sl w ad n c size vs) (hg : w.grownBy w' row) (hr : ∀ r, row = some r → ∃ o : Obj, w.heap[r]? = some o ∧ o.isCells = false) : Sl w' ad n c size vs :=
  h.of_same fun x j u _ hc => cell_grown hg hr hc
theorem own_of {base : Nat} {e : TypeId} {size : Nat} {ad : Option Addr} {n c : Nat} {xs : List Value} (h : w.ownsRow base e size (.slice ad n c) n xs) (hk : ∀ (g : Nat) (cs : Array Value), base ≤ g → w.heap[g]? = some (.cells cs e (0, 0)) → w'.heap[g]? = some (.cells cs e (0, 0))) : w'.ownsRow base e size (.slice ad n c) n xs := by
  obtain ⟨h1, h2⟩ := h
  refine ⟨h1, ?_⟩
  rcases h2 with h2 | ⟨g, cap, cur, hv, hg, hh, r⟩
  · exact .inl h2
  · exact .inr ⟨g, cap, cur, hv, hg, hk g cur hg hh, r⟩
theorem own_grown {base : Nat} {e : TypeId} {size : Nat} {ad : Option Addr} {n c : Nat} {xs : List Value} (h : w.ownsRow base e size (.slice ad n c) n xs) (hg : w.grownBy w' row) (hr : ∀ r, row = some r → ∃ o : Obj, w.heap[r]? = some o ∧ o.isCells = false) : w'.ownsRow base e size (.slice ad n c) n xs :=
  own_of h fun g cs _ hh => heap_grown hg hr hh
end
theorem KeepsFrom.write {n₀ g : Nat} {A B : World} (hg : A.grownBy B (some g)) {cs : Array Value} {ty : TypeId} {fz : Nat × Nat} (hc : A.heap[g]? = some (.cells cs ty fz)) : KeepsFrom n₀ A B :=
  (KeepsOthers.of_grownBy hg (fun j o e ho => by cases e; rw [hc] at ho; cases ho; rfl)).from n₀
theorem KeepsFrom.below {n₀ : Nat} {A B : World} (hb : Below A.heap.size A B) : KeepsFrom n₀ A B := ⟨hb.size, fun k o _ hk _ => (hb.block k (lt_of_block hk)).trans hk⟩
theorem KeepsFrom.own {n₀ base : Nat} {A B : World} {e : TypeId} {size : Nat} {ad : Option Addr} {n c : Nat} {xs : List Value} (ho : A.ownsRow base e size (.slice ad n c) n xs) (hg : A.grownBy B (Value.ownBlock (.slice ad n c))) : KeepsFrom n₀ A B :=
  (KeepsOthers.of_grownBy hg (fun j o ej hj => by
    rcases ho.2 with ⟨h0, _⟩ | ⟨r, cap, cur, hv, _, hr, _⟩
    · rw [h0] at ej; simp [Value.ownBlock] at ej
    · rw [hv] at ej
      simp [Value.ownBlock] at ej
      subst ej
      rw [hr] at hj
      cases hj
      rfl)).from n₀
theorem wpLI_append {F : Fence} {nF : Nat} {P : Program} {w : World} {ops : Array Oper} {rest : List Oper} {o : Oper} {a : Act} {Q : Exit → Act → World → Prop} {t e : TypeId} {size bytes : Nat} {z : Value} (hF : ∀ f, F.fn f) (el : Elem P t e size bytes z)
    (hgd : Region.wanted o (yielded ops a.tmps) = true) (s x : Operand) (ho : o.op = .call { callee := .builtin .append, args := #[s, x], argTypes := #[t, t] })
    (base : Nat) {ad : Option Addr} {n c : Nat} {xs : List Value} (hs : a.eval s = .slice ad n c) (hown : w.ownsRow base e size (.slice ad n c) n xs)
    {ad2 : Option Addr} {m c2 : Nat} {news : List Value} (hx : a.eval x = .slice ad2 m c2) (hsl : Sl w ad2 m c2 size news) (h1 : ∀ u ∈ news, u.oneCell' = true)
    (h63 : n + m ≤ maxLen) (hbytes : (n + m) * bytes ≤ 140737488355328) (hbase : base ≤ w.heap.size)
    (h : ∀ ad' c' w', w'.ownsRow base e size (.slice ad' (n + m) c') (n + m) (xs ++ news) → w.grownBy w' (Value.ownBlock (.slice ad n c)) →
      wpListIn F nF P ops Q rest (a.put o.dst (.slice ad' (n + m) c')) w') :
    wpListIn F nF P ops Q (o :: rest) a w := by
  obtain ⟨ad', c', w', hr, h2, h3, h4, h5⟩ := run_append (P := P) (ty := o.type) el (base := base) hown hsl h1 h63 hbytes hbase
  refine wpLI_run hF hgd (v := .slice ad' (n + m) c') (w' := w') (by rw [ho]; intro c e; cases e) ?_ (h ad' c' w' h2 h3)
  unfold execOp
  simp only [ho, resolve, invoke, builtin, Sem.run_bind, Sem.run_pure, Result.andThen_ok, List.map_toArray, List.map_cons, List.map_nil, hs, hx, hr]
theorem run_lit1 {P : Program} {o : Oper} {a : Act} {w : World} (t e : TypeId) (x : Operand) (ho : o.op = .buildSlice t 1 #[(0, x)]) (cs zs : Array Value) (hx : a.eval x = .agg cs) (k : Nat) (hu : P.underlying t = some (.slice e))
    (hi : (P.info? e).map (fun i => (i.zero, i.size)) = some (some (.agg zs), k)) (hk : 0 < k) (hk2 : k ≤ 16777216)
    (hf : Instr.fill (fun i => some (i * k, k)) ((Array.range (1 * k)).map (zs[· % zs.size]!)) [(0, .agg cs)] = some cs) :
    (execOp a.eval o).run P w = .ok (.value (.slice (some ⟨w.heap.size, 0, none⟩) 1 1)) (w.alloc (.cells cs e)) := by
  cases hie : P.info? e with
  | none => simp [hie] at hi
  | some ie =>
    simp only [hie, Option.map_some, Option.some.injEq, Prod.mk.injEq] at hi
    obtain ⟨hz, hs⟩ := hi
    have hrun := run_buildSlice (P := P) w t e 1 #[(0, .agg cs)] cs ie (.agg zs) hu hie hz (by rw [hs]; omega) (by rw [hs]; omega) (by rw [hs]; exact hf)
    unfold execOp
    simp only [ho, List.map_toArray, List.map_cons, List.map_nil, hx, Sem.run_bind, hrun, Result.andThen_ok, Sem.run_pure]
theorem wpLI_lit1 {F : Fence} {n : Nat} {P : Program} {ops : Array Oper} {Q : Exit → Act → World → Prop} {a : Act} {w : World} {rest : List Oper} {o : Oper} (hF : ∀ f, F.fn f) (hgd : o.guard = none) (t e : TypeId) (x : Operand) (ho : o.op = .buildSlice t 1 #[(0, x)]) (cs zs : Array Value) (hx : a.eval x = .agg cs) (k : Nat) (hu : P.underlying t = some (.slice e))
    (hi : (P.info? e).map (fun i => (i.zero, i.size)) = some (some (.agg zs), k)) (hk : 0 < k) (hk2 : k ≤ 16777216)
    (hf : Instr.fill (fun i => some (i * k, k)) ((Array.range (1 * k)).map (zs[· % zs.size]!)) [(0, .agg cs)] = some cs)
    (h : ∀ w1 g, w.heap.size ≤ g → g < w1.heap.size → w1.heap[g]? = some (.cells cs e (0, 0)) → Below w.heap.size w w1 → wpListIn F n P ops Q rest (a.put o.dst (.slice (some ⟨g, 0, none⟩) 1 1)) w1) :
    wpListIn F n P ops Q (o :: rest) a w :=
  wpLI_run hF (by simp [Region.wanted, hgd]) (by rw [ho]; intro c e; cases e) (run_lit1 t e x ho cs zs hx k hu hi hk hk2 hf)
    (h _ _ (Nat.le_refl _) (by simp) (heap_alloc_last w _) ((Below.refl _ _).alloc (Nat.le_refl _) _))
theorem wpL_lit1 {P : Program} {ops : Array Oper} {Q : Exit → Act → World → Prop} {a : Act} {w : World} {rest : List Oper} {o : Oper} (hgd : o.guard = none) (t e : TypeId) (x : Operand) (ho : o.op = .buildSlice t 1 #[(0, x)]) (cs zs : Array Value) (hx : a.eval x = .agg cs) (k : Nat) (hu : P.underlying t = some (.slice e))
    (hi : (P.info? e).map (fun i => (i.zero, i.size)) = some (some (.agg zs), k)) (hk : 0 < k) (hk2 : k ≤ 16777216)
    (hf : Instr.fill (fun i => some (i * k, k)) ((Array.range (1 * k)).map (zs[· % zs.size]!)) [(0, .agg cs)] = some cs)
    (h : ∀ w1 g, w.heap.size ≤ g → g < w1.heap.size → w1.heap[g]? = some (.cells cs e (0, 0)) → Below w.heap.size w w1 → wpList P ops Q rest (a.put o.dst (.slice (some ⟨g, 0, none⟩) 1 1)) w1) :
    wpList P ops Q (o :: rest) a w :=
  wpL_run (by simp [Region.wanted, hgd]) (run_lit1 t e x ho cs zs hx k hu hi hk hk2 hf)
    (h _ _ (Nat.le_refl _) (by simp) (heap_alloc_last w _) ((Below.refl _ _).alloc (Nat.le_refl _) _))
theorem own_other {w w' : World} {b1 b2 : Nat} {e1 e2 : TypeId} {s1 s2 : Nat} {ad1 ad2 : Option Addr} {n1 n2 c1 c2 : Nat} {xs ys : List Value} (h : w.ownsRow b1 e1 s1 (.slice ad1 n1 c1) n1 xs) (k : w.ownsRow b2 e2 s2 (.slice ad2 n2 c2) n2 ys) (hg : w.grownBy w' (Value.ownBlock (.slice ad2 n2 c2))) (hne : e1 ≠ e2) : w'.ownsRow b1 e1 s1 (.slice ad1 n1 c1) n1 xs :=
  own_of h fun g cs hb hh => (hg.block g (lt_of_block hh) (fun e => by
    rcases k.2 with ⟨h0, _⟩ | ⟨r, cap, cur, hv, _, hr, _⟩
    · rw [h0] at e; simp [Value.ownBlock] at e
    · rw [hv] at e
      simp [Value.ownBlock] at e
      subst e
      rw [hr] at hh
      cases hh
      exact hne rfl)).trans hh
theorem hat {W w' : World} {k : Nat} {o : Obj} (hE : Hid (Below W.heap.size W w')) (h : Hid (W.heap[k]? = some o)) : w'.heap[k]? = some o := (hE.out.block k (lt_of_block h.out)).trans h.out
theorem own_write {w w' : World} {base g : Nat} {e ty : TypeId} {size : Nat} {ad : Option Addr} {n c : Nat} {xs : List Value} {cs : Array Value} {fz : Nat × Nat} (h : w.ownsRow base e size (.slice ad n c) n xs) (hg : w.grownBy w' (some g)) (hc : w.heap[g]? = some (.cells cs ty fz)) (hne : ty ≠ e) : w'.ownsRow base e size (.slice ad n c) n xs :=
  own_of h fun k cs' hb hh => (hg.block k (lt_of_block hh) (fun e => by cases e; rw [hc] at hh; cases hh; exact hne rfl)).trans hh
theorem sl_block {w : World} {g : Nat} {cs : List Value} {ty : TypeId} {fz : Nat × Nat} (h : w.heap[g]? = some (.cells cs.toArray ty fz)) : Sl w (some ⟨g, 0, none⟩) 1 1 cs.length cs :=
  ⟨by simp, Nat.le_refl _, by simp [maxLen], (fun e => by cases e), fun j u hj => ⟨_, rfl, by
    have hg := cells_get h j
    unfold Addr.add
    split
    · rename_i e; subst e; rw [hg]; exact hj
    · simp only [Nat.zero_add]; rw [hg]; exact hj⟩⟩
theorem sl_blockN {w : World} {g n size : Nat} {cs : List Value} {ty : TypeId} {fz : Nat × Nat} (h : w.heap[g]? = some (.cells cs.toArray ty fz)) (hn : cs.length = n * size) (hm : n ≤ maxLen) : Sl w (some ⟨g, 0, none⟩) n n size cs :=
  ⟨hn, Nat.le_refl _, hm, (fun e => by cases e), fun j u hj => ⟨_, rfl, by
    have hg := cells_get h j
    unfold Addr.add
    split
    · rename_i e; subst e; rw [hg]; exact hj
    · simp only [Nat.zero_add]; rw [hg]; exact hj⟩⟩
theorem ownFrom_cells {α : Type} (B R : Nat) (f : α → Array Value) (ty : TypeId) (p : α → Prop) : OwnFrom B (fun s W => p s ∧ W.heap[R]? = some (.cells (f s) ty (0, 0))) :=
  fun s W W' row hs hg hr => ⟨hs.1, (hg.block R (lt_of_block hs.2) (fun e => by
    obtain ⟨_, o, ho, hc⟩ := hr R e.symm
    rw [hs.2] at ho
    cases ho
    simp [Obj.isCells] at hc)).trans hs.2⟩
theorem fold1 (p : Nat) (u : Value) (t : Array Value) : (#[p].zip #[u]).foldl (fun t x => t.setIfInBounds x.1 x.2) t = t.setIfInBounds p u := by simp
end Go.Proofs.Ytaadpldijnegkaa
/-
  A struct built out of parts: laws. Over any program.
-/
namespace Go.Proofs.Ytaadpldijnegkaa
open Go.RowKit Go.Sort
set_option linter.unusedVariables false
set_option linter.unusedSimpArgs false

theorem fold_set : ∀ (vs : List Value) (off k : Nat) (cells : List Value), off + k + vs.length ≤ cells.length →
    (vs.zipIdx k).foldl (fun (cs : Array Value) (x : Value × Nat) => cs.setIfInBounds (off + x.2) x.1) cells.toArray = (cells.take (off + k) ++ (vs ++ cells.drop (off + k + vs.length))).toArray
  | [], off, k, cells, _ => by simp
  | v :: vs, off, k, cells, h => by
    rw [List.zipIdx_cons, List.foldl_cons]
    simp only [List.setIfInBounds_toArray]
    rw [fold_set vs off (k + 1) (cells.set (off + k) v) (by simp at h ⊢; omega)]
    congr 1
    simp only [List.length_cons] at h
    rw [← Nat.add_assoc, List.take_succ_eq_append_getElem (by simp; omega)]
    simp only [List.getElem_set_self, List.append_assoc, List.singleton_append, List.cons_append]
    rw [List.take_set_of_le (Nat.le_refl _), List.drop_set_of_lt (by omega)]
    rw [List.length_cons, show off + k + 1 + vs.length = off + k + (vs.length + 1) by omega]
    rfl
theorem fill_one (place : Nat → Option (Nat × Nat)) (cells : List Value) (i off n : Nat) (v : Value) (vs : List Value) (rest : List (Nat × Value)) (hp : place i = some (off, n)) (hv : v.cells = vs.toArray) (hn : vs.length = n) (hle : off + n ≤ cells.length) :
    Instr.fill place cells.toArray ((i, v) :: rest) = Instr.fill place (cells.take off ++ (vs ++ cells.drop (off + n))).toArray rest := by
  subst hn
  unfold Instr.fill
  rw [hp]
  have h1 : ¬ (off + v.cells.size > cells.toArray.size) := by rw [hv]; simp; omega
  have h2 : v.cells.size = vs.length := by rw [hv]; simp
  simp only [h2, ne_eq, not_true, decide_false, Bool.false_or]
  rw [h2] at h1
  rw [if_neg (by simpa using h1), hv]
  have e := fold_set vs off 0 cells (by omega)
  rw [Nat.add_zero] at e
  rw [← e]
  rw [Instr.fill.eq_def place _ rest]
  simp [← Array.foldl_toList]
theorem fill_nil (place : Nat → Option (Nat × Nat)) (cells : Array Value) : Instr.fill place cells [] = some cells := rfl
theorem wpL_build {P : Program} {ops : Array Oper} {rest : List Oper} {o : Oper} {a : Act} {w : World} {Q : Exit → Act → World → Prop} (hgd : Region.wanted o (yielded ops a.tmps) = true) (T : TypeId) (parts : Array (Nat × Operand)) (ho : o.op = .build T parts)
    (ps : List (Nat × Value)) (hps : (parts.toList.map fun x => (x.1, a.eval x.2)) = ps) (cs : Array Value) (hb : P.built T ps = some cs) (h : wpList P ops Q rest (a.put o.dst (.agg cs)) w) : wpList P ops Q (o :: rest) a w := by
  refine wpL_run hgd ?_ h
  have hb' : P.built T (parts.map fun x => (x.1, a.eval x.2)).toList = some cs := by rw [Array.toList_map, hps]; exact hb
  unfold execOp
  simp only [ho, Sem.run_bind, run_build (P := P) w T _ cs hb', Result.andThen_ok, Sem.run_pure]
theorem yields_build {P : Program} {ops : Array Oper} {S : World → Prop} {o : Oper} {a : Act} (hgd : Region.wanted o (yielded ops a.tmps) = true) (T : TypeId) (parts : Array (Nat × Operand)) (ho : o.op = .build T parts)
    (ps : List (Nat × Value)) (hps : (parts.toList.map fun x => (x.1, a.eval x.2)) = ps) (cs : Array Value) (hb : P.built T ps = some cs) : YieldsIf P ops S o (.agg cs) a :=
  .inl ⟨hgd, fun w _ => by
    have hb' : P.built T (parts.map fun x => (x.1, a.eval x.2)).toList = some cs := by rw [Array.toList_map, hps]; exact hb
    unfold execOp
    simp only [ho, Sem.run_bind, run_build (P := P) w T _ cs hb', Result.andThen_ok, Sem.run_pure]⟩
end Go.Proofs.Ytaadpldijnegkaa
/-
  What came in, opened: structs, arrays of bytes, by their cells. Over any program.
-/
namespace Go.Proofs.Ytaadpldijnegkaa
open Go.RowKit Go.Sort
set_option linter.unusedVariables false
set_option linter.unusedSimpArgs false

theorem mapM_each {α β : Type} {f : α → Option β} : ∀ {l : List α} {ys : List β}, l.mapM f = some ys → ∀ x ∈ l, ∃ y, f x = some y
  | [], _, _, x, hx => by cases hx
  | a :: l, ys, h, x, hx => by
    rw [List.mapM_cons] at h
    obtain ⟨y, hy, h⟩ := Option.bind_eq_some_iff.1 h
    obtain ⟨zs, hz, _⟩ := Option.bind_eq_some_iff.1 h
    rcases List.mem_cons.1 hx with rfl | hx
    · exact ⟨y, hy⟩
    · exact mapM_each hz x hx

section
variable {H : Type} {enc : TypeId × Value → H} {P : Program} {w : World} {base : Nat} {spare : Nat → Bool} {held : Bool}

theorem trod_struct {t : TypeId} {fs : Array Field} {fuel : Nat} {cs : List Value} {x : DataW H × List MemPlace} (ht : P.underlying t = some (.struct fs)) (h : DataW.trod enc P w base spare held fuel t cs = some x) :
    cs.length = P.cellsOf t ∧ ∃ fuel', ∀ f ∈ fs.toList, ∃ y, DataW.trod enc P w base spare held fuel' f.type ((cs.drop f.offset).take (P.cellsOf f.type)) = some y := by
  cases fuel with
  | zero => simp [DataW.trod] at h
  | succ f =>
    simp only [DataW.trod, ht] at h
    split at h
    · rename_i hl
      obtain ⟨xs, hxs, _⟩ := Option.map_eq_some_iff.1 h
      exact ⟨hl, f, mapM_each hxs⟩
    · cases h
theorem trod_int {k : IntKind} {t : TypeId} {fuel : Nat} {c : Value} {x : DataW H × List MemPlace} (ht : P.underlying t = some (.int k)) (h : DataW.trod enc P w base spare held fuel t [c] = some x) : ∃ n, c = .int k n ∧ (Lit.int k n).wf = true := by
  cases fuel with
  | zero => simp [DataW.trod] at h
  | succ f =>
    simp only [DataW.trod, ht] at h
    split at h <;> simp_all
theorem trod_bool {t : TypeId} {fuel : Nat} {c : Value} {x : DataW H × List MemPlace} (ht : P.underlying t = some .bool) (h : DataW.trod enc P w base spare held fuel t [c] = some x) : ∃ b, c = .bool b := by
  cases fuel with
  | zero => simp [DataW.trod] at h
  | succ f =>
    simp only [DataW.trod, ht] at h
    split at h <;> simp_all
theorem trod_bytes {t e : TypeId} {n : Nat} {fuel : Nat} {cs : List Value} {x : DataW H × List MemPlace} (ht : P.underlying t = some (.array n e)) (he : P.underlying e = some (.int .u8)) (hce : P.cellsOf e = 1) (hct : P.cellsOf t = n)
    (h : DataW.trod enc P w base spare held fuel t cs = some x) : ∃ l : List UInt8, l.length = n ∧ cs = BV l := by
  cases fuel with
  | zero => simp [DataW.trod] at h
  | succ f =>
    simp only [DataW.trod, ht] at h
    split at h
    · rename_i hl
      obtain ⟨xs, hxs, _⟩ := Option.map_eq_some_iff.1 h
      rw [List.range_eq_range'] at hxs
      obtain ⟨zs, h1, h2, h3⟩ := mapM_ints he hce n 0 xs (by omega) hxs
      rw [List.drop_zero, List.take_of_length_le (by omega)] at h2
      exact ⟨ofInts zs, by simp [ofInts, h1], by rw [h2, BV_ofInts h3]⟩
    · cases h
end
theorem take_one_of {cs : List Value} {k : Nat} (h : k < cs.length) : (cs.drop k).take 1 = [cs[k]] := by
  rw [List.drop_eq_getElem_cons h, List.take_succ_cons, List.take_zero]
end Go.Proofs.Ytaadpldijnegkaa
/-
  SipHash's words: what turns, sums and differences of words are; the rounds.
-/
namespace Go.Proofs.Ytaadpldijnegkaa
open Go.RowKit Go.Sort
set_option linter.unusedVariables false
set_option linter.unusedSimpArgs false

def M64 : Nat := 18446744073709551616
def orN (a b : Nat) : Nat := (a % 18446744073709551616) ||| (b % 18446744073709551616)
def xorN (a b : Nat) : Nat := (a % 18446744073709551616) ^^^ (b % 18446744073709551616)
def addN (a b : Nat) : Nat := (a + b) % 18446744073709551616
def turnN (n k : Nat) : Nat := orN (n * 2 ^ k % 18446744073709551616) (n / 2 ^ (64 - k))
theorem orN_lt (a b : Nat) : orN a b < 18446744073709551616 := Nat.or_lt_two_pow (n := 64) (Nat.mod_lt _ (by decide)) (Nat.mod_lt _ (by decide))
theorem xorN_lt (a b : Nat) : xorN a b < 18446744073709551616 := Nat.xor_lt_two_pow (n := 64) (Nat.mod_lt _ (by decide)) (Nat.mod_lt _ (by decide))
theorem addN_lt (a b : Nat) : addN a b < 18446744073709551616 := Nat.mod_lt _ (by decide)
theorem turnN_lt (n k : Nat) : turnN n k < 18446744073709551616 := orN_lt _ _
theorem bits_or (a b : Nat) : bits BinOp.or .u64 (a : Int) (b : Int) = ((orN a b : Nat) : Int) := by
  show IntKind.u64.wrap ((BitVec.ofInt 64 (a : Int) ||| BitVec.ofInt 64 (b : Int)).toNat : Int) = _
  have e (a : Nat) : (BitVec.ofInt 64 (a : Int)).toNat = a % 18446744073709551616 := by rw [BitVec.toNat_ofInt]; show ((a : Int) % 18446744073709551616).toNat = _; omega
  rw [BitVec.toNat_or, e, e]
  exact u64_wrap_nat _ (orN_lt a b)
theorem bits_xor (a b : Nat) : bits BinOp.xor .u64 (a : Int) (b : Int) = ((xorN a b : Nat) : Int) := by
  show IntKind.u64.wrap ((BitVec.ofInt 64 (a : Int) ^^^ BitVec.ofInt 64 (b : Int)).toNat : Int) = _
  have e (a : Nat) : (BitVec.ofInt 64 (a : Int)).toNat = a % 18446744073709551616 := by rw [BitVec.toNat_ofInt]; show ((a : Int) % 18446744073709551616).toNat = _; omega
  rw [BitVec.toNat_xor, e, e]
  exact u64_wrap_nat _ (xorN_lt a b)
theorem wrap_add (a b : Nat) : IntKind.u64.wrap ((a : Int) + (b : Int)) = ((addN a b : Nat) : Int) := by
  rw [IntKind.wrap_u64]; unfold addN; omega

theorem turn_bits (n A B : Nat) (a b : Int) (ha : a = A) (hb : b = B) :
    Ending.returned (.int .u64 (bits BinOp.or .u64 (IntKind.u64.wrap ((n : Int) * a)) ((n : Int) / b))) = Ending.returned (.int .u64 ((orN (n * A % 18446744073709551616) (n / B) : Nat) : Int)) := by
  subst ha hb
  rw [show IntKind.u64.wrap ((n : Int) * (A : Int)) = ((n * A % 18446744073709551616 : Nat) : Int) by rw [IntKind.wrap_u64]; omega, show (n : Int) / (B : Int) = ((n / B : Nat) : Int) by omega, bits_or]

set_option maxRecDepth 100000 in
theorem rot_any (n : Nat) (k : Int) (w : World) (hn : n < 18446744073709551616) (hk : k = 13 ∨ k = 16 ∨ k = 17 ∨ k = 21 ∨ k = 32) :
    Calls Try.prog 63 #[.int .u64 n, .int .i64 k] w fun e w' => e = .returned (.int .u64 (turnN n k.toNat)) ∧ w = w' := by
  have a13 : bits BinOp.and .u64 13 63 = 13 := by rfl
  have a16 : bits BinOp.and .u64 16 63 = 16 := by rfl
  have a17 : bits BinOp.and .u64 17 63 = 17 := by rfl
  have a21 : bits BinOp.and .u64 21 63 = 21 := by rfl
  have a32 : bits BinOp.and .u64 32 63 = 32 := by rfl
  rcases hk with rfl | rfl | rfl | rfl | rfl
  all_goals
    go_enter Try.func63, Try.ntmps63
    go_wp2_with fail
    go_ret
    exact ⟨turn_bits n _ _ _ _ (by rfl) (by rfl), rfl⟩

set_option maxRecDepth 100000 in
theorem turn_any15 (n : Nat) (k : Int) (w : World) (hn : n < 18446744073709551616) (hk : k = 13 ∨ k = 16 ∨ k = 17 ∨ k = 21 ∨ k = 32) :
    Calls Try.prog 56 #[.int .u64 n, .int .i64 k] w fun e w' => e = .returned (.int .u64 (turnN n k.toNat)) ∧ w = w' := by
  rcases hk with rfl | rfl | rfl | rfl | rfl
  all_goals
    go_enter Try.func56, Try.ntmps56
    go_wp2_with fail
    go_ret
    exact ⟨turn_bits n _ _ _ _ (by rfl) (by rfl), rfl⟩

/-- a round of the four words -/
def roundN (s : Nat × Nat × Nat × Nat) : Nat × Nat × Nat × Nat :=
  let a1 := addN s.1 s.2.1
  let b1 := xorN (turnN s.2.1 13) a1
  let a2 := turnN a1 32
  let c1 := addN s.2.2.1 s.2.2.2
  let d1 := xorN (turnN s.2.2.2 16) c1
  let a3 := addN a2 d1
  let d2 := xorN (turnN d1 21) a3
  let c2 := addN c1 b1
  let b2 := xorN (turnN b1 17) c2
  let c3 := turnN c2 32
  (a3, b2, c3, d2)
/-- words all -/
def Okw (s : Nat × Nat × Nat × Nat) : Prop := s.1 < 18446744073709551616 ∧ s.2.1 < 18446744073709551616 ∧ s.2.2.1 < 18446744073709551616 ∧ s.2.2.2 < 18446744073709551616
theorem Okw.round {s : Nat × Nat × Nat × Nat} (h : Okw s) : Okw (roundN s) := ⟨addN_lt _ _, xorN_lt _ _, turnN_lt _ _, xorN_lt _ _⟩
def aggN (s : Nat × Nat × Nat × Nat) : Value := .agg #[.int .u64 s.1, .int .u64 s.2.1, .int .u64 s.2.2.1, .int .u64 s.2.2.2]

set_option maxRecDepth 100000 in
set_option maxHeartbeats 1000000 in
theorem refRound_any (a b c d : Nat) (w : World) (h : Okw (a, b, c, d)) :
    Calls Try.prog 44 #[aggN (a, b, c, d)] w fun e w' => e = .returned (aggN (roundN (a, b, c, d))) ∧ Below w.heap.size w w' := by
  have hadd := wrap_add
  have hxor := bits_xor
  obtain ⟨ha, hb, hc, hd⟩ := h
  simp only at ha hb hc hd
  obtain ⟨a1, e1⟩ : ∃ x, x = addN a b := ⟨_, rfl⟩
  obtain ⟨tb, e2⟩ : ∃ x, x = turnN b (Int.toNat 13) := ⟨_, rfl⟩
  obtain ⟨b1, e3⟩ : ∃ x, x = xorN tb a1 := ⟨_, rfl⟩
  obtain ⟨a2, e4⟩ : ∃ x, x = turnN a1 (Int.toNat 32) := ⟨_, rfl⟩
  obtain ⟨c1, e5⟩ : ∃ x, x = addN c d := ⟨_, rfl⟩
  obtain ⟨td, e6⟩ : ∃ x, x = turnN d (Int.toNat 16) := ⟨_, rfl⟩
  obtain ⟨d1, e7⟩ : ∃ x, x = xorN td c1 := ⟨_, rfl⟩
  obtain ⟨a3, e8⟩ : ∃ x, x = addN a2 d1 := ⟨_, rfl⟩
  obtain ⟨td1, e9⟩ : ∃ x, x = turnN d1 (Int.toNat 21) := ⟨_, rfl⟩
  obtain ⟨d2, e10⟩ : ∃ x, x = xorN td1 a3 := ⟨_, rfl⟩
  obtain ⟨c2, e11⟩ : ∃ x, x = addN c1 b1 := ⟨_, rfl⟩
  obtain ⟨tb1, e12⟩ : ∃ x, x = turnN b1 (Int.toNat 17) := ⟨_, rfl⟩
  obtain ⟨b2, e13⟩ : ∃ x, x = xorN tb1 c2 := ⟨_, rfl⟩
  obtain ⟨c3, e14⟩ : ∃ x, x = turnN c2 (Int.toNat 32) := ⟨_, rfl⟩
  have hR : roundN (a, b, c, d) = (a3, b2, c3, d2) := by subst e1 e2 e3 e4 e5 e6 e7 e8 e9 e10 e11 e12 e13 e14; rfl
  have l1 : a1 < 18446744073709551616 := by rw [e1]; exact addN_lt _ _
  have l3 : b1 < 18446744073709551616 := by rw [e3]; exact xorN_lt _ _
  have l5 : c1 < 18446744073709551616 := by rw [e5]; exact addN_lt _ _
  have l7 : d1 < 18446744073709551616 := by rw [e7]; exact xorN_lt _ _
  have l11 : c2 < 18446744073709551616 := by rw [e11]; exact addN_lt _ _
  have f1 := hadd a b; rw [← e1] at f1
  have f3 := hxor tb a1; rw [← e3] at f3
  have f5 := hadd c d; rw [← e5] at f5
  have f7 := hxor td c1; rw [← e7] at f7
  have f8 := hadd a2 d1; rw [← e8] at f8
  have f10 := hxor td1 a3; rw [← e10] at f10
  have f11 := hadd c1 b1; rw [← e11] at f11
  have f13 := hxor tb1 c2; rw [← e13] at f13
  have E2 := Lib.hid e2
  have E4 := Lib.hid e4
  have E6 := Lib.hid e6
  have E9 := Lib.hid e9
  have E12 := Lib.hid e12
  have E14 := Lib.hid e14
  rw [hR]
  clear hadd hxor e1 e2 e3 e4 e5 e6 e7 e8 e9 e10 e11 e12 e13 e14 hR
  unfold aggN
  go_enter Try.func44, Try.ntmps44
  go_wp2_with (first
    | (go_at_call 56; (with_reducible show Calls _ _ #[.int .u64 b, _] _ _); refine (turn_any15 b 13 _ hb (by omega)).mono ?_; rw [← E2.out]; rintro e w' ⟨rfl, rfl⟩)
    | (go_at_call 56; (with_reducible show Calls _ _ #[.int .u64 a1, _] _ _); refine (turn_any15 a1 32 _ l1 (by omega)).mono ?_; rw [← E4.out]; rintro e w' ⟨rfl, rfl⟩)
    | (go_at_call 56; (with_reducible show Calls _ _ #[.int .u64 d, _] _ _); refine (turn_any15 d 16 _ hd (by omega)).mono ?_; rw [← E6.out]; rintro e w' ⟨rfl, rfl⟩)
    | (go_at_call 56; (with_reducible show Calls _ _ #[.int .u64 d1, _] _ _); refine (turn_any15 d1 21 _ l7 (by omega)).mono ?_; rw [← E9.out]; rintro e w' ⟨rfl, rfl⟩)
    | (go_at_call 56; (with_reducible show Calls _ _ #[.int .u64 b1, _] _ _); refine (turn_any15 b1 17 _ l3 (by omega)).mono ?_; rw [← E12.out]; rintro e w' ⟨rfl, rfl⟩)
    | (go_at_call 56; (with_reducible show Calls _ _ #[.int .u64 c2, _] _ _); refine (turn_any15 c2 32 _ l11 (by omega)).mono ?_; rw [← E14.out]; rintro e w' ⟨rfl, rfl⟩))
  refine bodyPost_ret (results_cell_row (p := 2) (ty := 77) rfl _ _ (w.heap.size + 1) _ _ _ _ rfl (heap_alloc2_new _ _ _) Try.underlying77 rfl (by kernel_rfl)) rfl ⟨rfl, ?_⟩
  exact ((Below.refl _ _).alloc (Nat.le_refl _) _).alloc (by simp) _
end Go.Proofs.Ytaadpldijnegkaa
/-
  SipHash's state in memory: the rounds, and a word taken in.
-/
namespace Go.Proofs.Ytaadpldijnegkaa
open Go.RowKit Go.Sort
set_option linter.unusedVariables false
set_option linter.unusedSimpArgs false

set_option maxRecDepth 100000 in
theorem rotS (n t : Nat) (k : Int) (ht : t = turnN n k.toNat) (hn : n < 18446744073709551616) (hk : k = 13 ∨ k = 16 ∨ k = 17 ∨ k = 21 ∨ k = 32) (w : World) :
    Calls Try.prog 63 #[.int .u64 n, .int .i64 k] w fun e w'' => e = .returned (.int .u64 t) ∧ w'' = w :=
  (rot_any n k w hn hk).mono fun e w' h => ⟨by rw [h.1, ht], h.2.symm⟩

/-- the four words lie in block g -/
def StAt (w : World) (g : Nat) (a b c d : Nat) : Prop := w.heap[g]? = some (.cells #[.int .u64 a, .int .u64 b, .int .u64 c, .int .u64 d] 87 (0, 0))
theorem StAt.cells {w : World} {g a b c d : Nat} (h : StAt w g a b c d) : w.cell? ⟨g, 0, none⟩ = some (.int .u64 a) ∧ w.cell? ⟨g, 1, none⟩ = some (.int .u64 b) ∧ w.cell? ⟨g, 2, none⟩ = some (.int .u64 c) ∧ w.cell? ⟨g, 3, none⟩ = some (.int .u64 d) ∧
    w.frozen? ⟨g, 0, none⟩ = false ∧ w.frozen? ⟨g, 1, none⟩ = false ∧ w.frozen? ⟨g, 2, none⟩ = false ∧ w.frozen? ⟨g, 3, none⟩ = false := by
  unfold StAt at h
  simp [World.cell?, World.frozen?, h]
theorem StAt.drew {w : World} {g a b c d : Nat} (h : StAt w g a b c d) : StAt w.drew g a b c d := h
theorem StAt.set {w : World} {g a b c d : Nat} (h : StAt w g a b c d) (k x : Nat) : (w.setCell ⟨g, k, none⟩ (.int .u64 x)).heap[g]? = some (.cells (#[.int .u64 a, .int .u64 b, .int .u64 c, .int .u64 d].setIfInBounds k (.int .u64 x)) 87 (0, 0)) := by
  unfold StAt at h
  have hlt := lt_of_block h
  have h' : w.heap[g] = .cells #[.int .u64 a, .int .u64 b, .int .u64 c, .int .u64 d] 87 (0, 0) := by simpa [Array.getElem?_eq_getElem hlt] using h
  show (w.heap.modify g _)[g]? = _
  rw [Array.getElem?_eq_getElem (by simpa using hlt), Array.getElem_modify_self, h']
  rfl
theorem grown_set (w : World) (g k : Nat) (v : Value) : w.grownBy (w.setCell ⟨g, k, none⟩ v) (some g) :=
  ⟨rfl, rfl, rfl, by simp [World.setCell], fun i hi hne => Below.heap_setCell _ _ _ _ (by intro h; exact hne (by rw [h]))⟩

set_option maxRecDepth 100000 in
set_option maxHeartbeats 1000000 in
theorem rounds_any (g : Nat) (n : Nat) (a b c d : Nat) (w : World) (hn : n ≤ 4) (h : Okw (a, b, c, d)) (hs : StAt w g a b c d) :
    Calls Try.prog 52 #[.pointer (some ⟨g, 0, none⟩), .int .i64 n] w fun e w' => e = .returned (.tuple #[]) ∧ (∃ a' b' c' d', (a', b', c', d') = Nat.repeat roundN n (a, b, c, d) ∧ Okw (a', b', c', d') ∧ StAt w' g a' b' c' d') ∧ w.grownBy w' (some g) := by
  have HS := Lib.hid hs
  have HO := Lib.hid h
  clear hs h
  go_enter Try.func52, Try.ntmps52
  go_wp2
  go_loopw [5] (fun i wr => ∃ k : Nat, k ≤ n ∧ i = .int .i64 k ∧ ∃ a' b' c' d', (a', b', c', d') = Nat.repeat roundN k (a, b, c, d) ∧ Okw (a', b', c', d') ∧ StAt wr g a' b' c' d' ∧ w.grownBy wr (some g)) (fun i _ => n - (intOf i).toNat)
  case atStart => exact ⟨0, Nat.zero_le _, rfl, a, b, c, d, rfl, HO.out, HS.out, World.grownBy.refl _ _⟩
  case round =>
    obtain ⟨k, hk, rfl, a1, b1, c1, d1, he, ho, hst, hg⟩ := hrel
    have HE := Lib.hid he
    have HST := Lib.hid hst
    have HG := Lib.hid hg
    clear he hst hg HS HO
    by_cases hlt : k < n
    · have la1 := ho.1; have lb1 := ho.2.1; have lc1 := ho.2.2.1; have ld1 := ho.2.2.2
      simp only at la1 lb1 lc1 ld1
      obtain ⟨x0, hx0⟩ : ∃ x, x = addN a1 b1 := ⟨_, rfl⟩
      have lx0 : x0 < 18446744073709551616 := by rw [hx0]; exact addN_lt _ _
      have fx0 := wrap_add a1 b1; rw [← hx0] at fx0
      obtain ⟨t1, ht1⟩ : ∃ x, x = turnN b1 (Int.toNat 13) := ⟨_, rfl⟩
      obtain ⟨x1, hx1⟩ : ∃ x, x = xorN t1 x0 := ⟨_, rfl⟩
      have lx1 : x1 < 18446744073709551616 := by rw [hx1]; exact xorN_lt _ _
      have fx1 := bits_xor t1 x0; rw [← hx1] at fx1
      have Fx1 := Lib.hid (rotS b1 t1 13 ht1 lb1 (by omega))
      obtain ⟨x2, hx2⟩ : ∃ x, x = turnN x0 (Int.toNat 32) := ⟨_, rfl⟩
      have lx2 : x2 < 18446744073709551616 := by rw [hx2]; exact turnN_lt _ _
      have Fx2 := Lib.hid (rotS x0 x2 32 hx2 lx0 (by omega))
      obtain ⟨x3, hx3⟩ : ∃ x, x = addN c1 d1 := ⟨_, rfl⟩
      have lx3 : x3 < 18446744073709551616 := by rw [hx3]; exact addN_lt _ _
      have fx3 := wrap_add c1 d1; rw [← hx3] at fx3
      obtain ⟨t4, ht4⟩ : ∃ x, x = turnN d1 (Int.toNat 16) := ⟨_, rfl⟩
      obtain ⟨x4, hx4⟩ : ∃ x, x = xorN t4 x3 := ⟨_, rfl⟩
      have lx4 : x4 < 18446744073709551616 := by rw [hx4]; exact xorN_lt _ _
      have fx4 := bits_xor t4 x3; rw [← hx4] at fx4
      have Fx4 := Lib.hid (rotS d1 t4 16 ht4 ld1 (by omega))
      obtain ⟨x5, hx5⟩ : ∃ x, x = addN x2 x4 := ⟨_, rfl⟩
      have lx5 : x5 < 18446744073709551616 := by rw [hx5]; exact addN_lt _ _
      have fx5 := wrap_add x2 x4; rw [← hx5] at fx5
      obtain ⟨t6, ht6⟩ : ∃ x, x = turnN x4 (Int.toNat 21) := ⟨_, rfl⟩
      obtain ⟨x6, hx6⟩ : ∃ x, x = xorN t6 x5 := ⟨_, rfl⟩
      have lx6 : x6 < 18446744073709551616 := by rw [hx6]; exact xorN_lt _ _
      have fx6 := bits_xor t6 x5; rw [← hx6] at fx6
      have Fx6 := Lib.hid (rotS x4 t6 21 ht6 lx4 (by omega))
      obtain ⟨x7, hx7⟩ : ∃ x, x = addN x3 x1 := ⟨_, rfl⟩
      have lx7 : x7 < 18446744073709551616 := by rw [hx7]; exact addN_lt _ _
      have fx7 := wrap_add x3 x1; rw [← hx7] at fx7
      obtain ⟨t8, ht8⟩ : ∃ x, x = turnN x1 (Int.toNat 17) := ⟨_, rfl⟩
      obtain ⟨x8, hx8⟩ : ∃ x, x = xorN t8 x7 := ⟨_, rfl⟩
      have lx8 : x8 < 18446744073709551616 := by rw [hx8]; exact xorN_lt _ _
      have fx8 := bits_xor t8 x7; rw [← hx8] at fx8
      have Fx8 := Lib.hid (rotS x1 t8 17 ht8 lx1 (by omega))
      obtain ⟨x9, hx9⟩ : ∃ x, x = turnN x7 (Int.toNat 32) := ⟨_, rfl⟩
      have lx9 : x9 < 18446744073709551616 := by rw [hx9]; exact turnN_lt _ _
      have Fx9 := Lib.hid (rotS x7 x9 32 hx9 lx7 (by omega))
      have HR : Hid ((x5, x8, x9, x6) = Nat.repeat roundN (k + 1) (a, b, c, d)) := Lib.hid (by show _ = roundN (Nat.repeat roundN k (a, b, c, d)); rw [← HE.out]; subst hx9 hx8 hx7 hx6 hx5 hx4 hx3 hx2 hx1 hx0; subst ht1 ht4 ht6 ht8; rfl)
      clear hx0 hx1 hx2 hx3 hx4 hx5 hx6 hx7 hx8 hx9 ht1 ht4 ht6 ht8
      obtain ⟨p0, p1, p2, p3, q0, q1, q2, q3⟩ := HST.out.cells
      go_wp2_with fail
      go_still_tail 11, (by kernel_rfl)
      change wpList _ _ _ _ _ wr.drew
      have hD := HST.out.drew; have hGD := HG.out.trans (grown_drew wr (some g))
      generalize wr.drew = v0 at hD hGD ⊢
      clear p0 p1 p2 p3 q0 q1 q2 q3 HST HG
      obtain ⟨p0, p1, p2, p3, q0, q1, q2, q3⟩ := hD.cells
      have HD := Lib.hid hD; have HGD := Lib.hid hGD; clear hD hGD
      go_wp2_with fail
      have hS : StAt (v0.setCell ⟨g, 0, none⟩ (.int .u64 x0)) g x0 b1 c1 d1 := HD.out.set 0 x0
      have hGS := HGD.out.trans (grown_set v0 g 0 (.int .u64 x0))
      generalize v0.setCell ⟨g, 0, none⟩ (.int .u64 x0) = w0 at hS hGS ⊢
      have HST := Lib.hid hS; have HG := Lib.hid hGS; clear hS hGS HD HGD p0 p1 p2 p3 q0 q1 q2 q3
      obtain ⟨p0, p1, p2, p3, q0, q1, q2, q3⟩ := HST.out.cells
      go_still_tail 13, (by kernel_rfl)
      still_call (Fx1.out _)
      repeat still_step
      refine wpStill_nil ?_
      change wpList _ _ _ _ _ w0.drew
      have hD := HST.out.drew; have hGD := HG.out.trans (grown_drew w0 (some g))
      generalize w0.drew = v1 at hD hGD ⊢
      clear p0 p1 p2 p3 q0 q1 q2 q3 HST HG
      obtain ⟨p0, p1, p2, p3, q0, q1, q2, q3⟩ := hD.cells
      have HD := Lib.hid hD; have HGD := Lib.hid hGD; clear hD hGD
      go_wp2_with fail
      have hS : StAt (v1.setCell ⟨g, 1, none⟩ (.int .u64 x1)) g x0 x1 c1 d1 := HD.out.set 1 x1
      have hGS := HGD.out.trans (grown_set v1 g 1 (.int .u64 x1))
      generalize v1.setCell ⟨g, 1, none⟩ (.int .u64 x1) = w1 at hS hGS ⊢
      have HST := Lib.hid hS; have HG := Lib.hid hGS; clear hS hGS HD HGD p0 p1 p2 p3 q0 q1 q2 q3
      obtain ⟨p0, p1, p2, p3, q0, q1, q2, q3⟩ := HST.out.cells
      have HD := HST; have HGD := HG; clear HST HG
      go_wp2_with (go_at_call 63; refine (Fx2.out _).mono ?_; rintro e w' ⟨rfl, hw⟩; obtain rfl := hw.symm)
      have hS : StAt (w1.setCell ⟨g, 0, none⟩ (.int .u64 x2)) g x2 x1 c1 d1 := HD.out.set 0 x2
      have hGS := HGD.out.trans (grown_set w1 g 0 (.int .u64 x2))
      generalize w1.setCell ⟨g, 0, none⟩ (.int .u64 x2) = w2 at hS hGS ⊢
      have HST := Lib.hid hS; have HG := Lib.hid hGS; clear hS hGS HD HGD p0 p1 p2 p3 q0 q1 q2 q3
      obtain ⟨p0, p1, p2, p3, q0, q1, q2, q3⟩ := HST.out.cells
      go_still_tail 11, (by kernel_rfl)
      change wpList _ _ _ _ _ w2.drew
      have hD := HST.out.drew; have hGD := HG.out.trans (grown_drew w2 (some g))
      generalize w2.drew = v3 at hD hGD ⊢
      clear p0 p1 p2 p3 q0 q1 q2 q3 HST HG
      obtain ⟨p0, p1, p2, p3, q0, q1, q2, q3⟩ := hD.cells
      have HD := Lib.hid hD; have HGD := Lib.hid hGD; clear hD hGD
      go_wp2_with fail
      have hS : StAt (v3.setCell ⟨g, 2, none⟩ (.int .u64 x3)) g x2 x1 x3 d1 := HD.out.set 2 x3
      have hGS := HGD.out.trans (grown_set v3 g 2 (.int .u64 x3))
      generalize v3.setCell ⟨g, 2, none⟩ (.int .u64 x3) = w3 at hS hGS ⊢
      have HST := Lib.hid hS; have HG := Lib.hid hGS; clear hS hGS HD HGD p0 p1 p2 p3 q0 q1 q2 q3
      obtain ⟨p0, p1, p2, p3, q0, q1, q2, q3⟩ := HST.out.cells
      go_still_tail 13, (by kernel_rfl)
      still_call (Fx4.out _)
      repeat still_step
      refine wpStill_nil ?_
      change wpList _ _ _ _ _ w3.drew
      have hD := HST.out.drew; have hGD := HG.out.trans (grown_drew w3 (some g))
      generalize w3.drew = v4 at hD hGD ⊢
      clear p0 p1 p2 p3 q0 q1 q2 q3 HST HG
      obtain ⟨p0, p1, p2, p3, q0, q1, q2, q3⟩ := hD.cells
      have HD := Lib.hid hD; have HGD := Lib.hid hGD; clear hD hGD
      go_wp2_with fail
      have hS : StAt (v4.setCell ⟨g, 3, none⟩ (.int .u64 x4)) g x2 x1 x3 x4 := HD.out.set 3 x4
      have hGS := HGD.out.trans (grown_set v4 g 3 (.int .u64 x4))
      generalize v4.setCell ⟨g, 3, none⟩ (.int .u64 x4) = w4 at hS hGS ⊢
      have HST := Lib.hid hS; have HG := Lib.hid hGS; clear hS hGS HD HGD p0 p1 p2 p3 q0 q1 q2 q3
      obtain ⟨p0, p1, p2, p3, q0, q1, q2, q3⟩ := HST.out.cells
      go_still_tail 11, (by kernel_rfl)
      change wpList _ _ _ _ _ w4.drew
      have hD := HST.out.drew; have hGD := HG.out.trans (grown_drew w4 (some g))
      generalize w4.drew = v5 at hD hGD ⊢
      clear p0 p1 p2 p3 q0 q1 q2 q3 HST HG
      obtain ⟨p0, p1, p2, p3, q0, q1, q2, q3⟩ := hD.cells
      have HD := Lib.hid hD; have HGD := Lib.hid hGD; clear hD hGD
      go_wp2_with fail
      have hS : StAt (v5.setCell ⟨g, 0, none⟩ (.int .u64 x5)) g x5 x1 x3 x4 := HD.out.set 0 x5
      have hGS := HGD.out.trans (grown_set v5 g 0 (.int .u64 x5))
      generalize v5.setCell ⟨g, 0, none⟩ (.int .u64 x5) = w5 at hS hGS ⊢
      have HST := Lib.hid hS; have HG := Lib.hid hGS; clear hS hGS HD HGD p0 p1 p2 p3 q0 q1 q2 q3
      obtain ⟨p0, p1, p2, p3, q0, q1, q2, q3⟩ := HST.out.cells
      go_still_tail 13, (by kernel_rfl)
      still_call (Fx6.out _)
      repeat still_step
      refine wpStill_nil ?_
      change wpList _ _ _ _ _ w5.drew
      have hD := HST.out.drew; have hGD := HG.out.trans (grown_drew w5 (some g))
      generalize w5.drew = v6 at hD hGD ⊢
      clear p0 p1 p2 p3 q0 q1 q2 q3 HST HG
      obtain ⟨p0, p1, p2, p3, q0, q1, q2, q3⟩ := hD.cells
      have HD := Lib.hid hD; have HGD := Lib.hid hGD; clear hD hGD
      go_wp2_with fail
      have hS : StAt (v6.setCell ⟨g, 3, none⟩ (.int .u64 x6)) g x5 x1 x3 x6 := HD.out.set 3 x6
      have hGS := HGD.out.trans (grown_set v6 g 3 (.int .u64 x6))
      generalize v6.setCell ⟨g, 3, none⟩ (.int .u64 x6) = w6 at hS hGS ⊢
      have HST := Lib.hid hS; have HG := Lib.hid hGS; clear hS hGS HD HGD p0 p1 p2 p3 q0 q1 q2 q3
      obtain ⟨p0, p1, p2, p3, q0, q1, q2, q3⟩ := HST.out.cells
      go_still_tail 11, (by kernel_rfl)
      change wpList _ _ _ _ _ w6.drew
      have hD := HST.out.drew; have hGD := HG.out.trans (grown_drew w6 (some g))
      generalize w6.drew = v7 at hD hGD ⊢
      clear p0 p1 p2 p3 q0 q1 q2 q3 HST HG
      obtain ⟨p0, p1, p2, p3, q0, q1, q2, q3⟩ := hD.cells
      have HD := Lib.hid hD; have HGD := Lib.hid hGD; clear hD hGD
      go_wp2_with fail
      have hS : StAt (v7.setCell ⟨g, 2, none⟩ (.int .u64 x7)) g x5 x1 x7 x6 := HD.out.set 2 x7
      have hGS := HGD.out.trans (grown_set v7 g 2 (.int .u64 x7))
      generalize v7.setCell ⟨g, 2, none⟩ (.int .u64 x7) = w7 at hS hGS ⊢
      have HST := Lib.hid hS; have HG := Lib.hid hGS; clear hS hGS HD HGD p0 p1 p2 p3 q0 q1 q2 q3
      obtain ⟨p0, p1, p2, p3, q0, q1, q2, q3⟩ := HST.out.cells
      go_still_tail 13, (by kernel_rfl)
      still_call (Fx8.out _)
      repeat still_step
      refine wpStill_nil ?_
      change wpList _ _ _ _ _ w7.drew
      have hD := HST.out.drew; have hGD := HG.out.trans (grown_drew w7 (some g))
      generalize w7.drew = v8 at hD hGD ⊢
      clear p0 p1 p2 p3 q0 q1 q2 q3 HST HG
      obtain ⟨p0, p1, p2, p3, q0, q1, q2, q3⟩ := hD.cells
      have HD := Lib.hid hD; have HGD := Lib.hid hGD; clear hD hGD
      go_wp2_with fail
      have hS : StAt (v8.setCell ⟨g, 1, none⟩ (.int .u64 x8)) g x5 x8 x7 x6 := HD.out.set 1 x8
      have hGS := HGD.out.trans (grown_set v8 g 1 (.int .u64 x8))
      generalize v8.setCell ⟨g, 1, none⟩ (.int .u64 x8) = w8 at hS hGS ⊢
      have HST := Lib.hid hS; have HG := Lib.hid hGS; clear hS hGS HD HGD p0 p1 p2 p3 q0 q1 q2 q3
      obtain ⟨p0, p1, p2, p3, q0, q1, q2, q3⟩ := HST.out.cells
      have HD := HST; have HGD := HG; clear HST HG
      go_wp2_with (go_at_call 63; refine (Fx9.out _).mono ?_; rintro e w' ⟨rfl, hw⟩; obtain rfl := hw.symm)
      have hS : StAt (w8.setCell ⟨g, 2, none⟩ (.int .u64 x9)) g x5 x8 x9 x6 := HD.out.set 2 x9
      have hGS := HGD.out.trans (grown_set w8 g 2 (.int .u64 x9))
      generalize w8.setCell ⟨g, 2, none⟩ (.int .u64 x9) = w9 at hS hGS ⊢
      have HST := Lib.hid hS; have HG := Lib.hid hGS; clear hS hGS HD HGD p0 p1 p2 p3 q0 q1 q2 q3
      go_roundw
      case rel => exact ⟨k + 1, by omega, by go_num, x5, x8, x9, x6, HR.out, ⟨lx5, lx8, lx9, lx6⟩, HST.out, HG.out⟩
      case measure => simp [intOf]; omega
    · obtain rfl : k = n := by omega
      go_wp2_with fail
      go_end0
      exact ⟨rfl, ⟨a1, b1, c1, d1, HE.out, ho, HST.out⟩, HG.out⟩
end Go.Proofs.Ytaadpldijnegkaa
/-
  SipHash: a word taken in.
-/
namespace Go.Proofs.Ytaadpldijnegkaa
open Go.RowKit Go.Sort
set_option linter.unusedVariables false
set_option linter.unusedSimpArgs false

/-- a word taken in -/
def wordN (s : Nat × Nat × Nat × Nat) (n : Nat) : Nat × Nat × Nat × Nat :=
  let r := roundN (roundN (s.1, s.2.1, s.2.2.1, xorN s.2.2.2 n))
  (xorN r.1 n, r.2.1, r.2.2.1, r.2.2.2)

set_option maxRecDepth 100000 in
set_option maxHeartbeats 1000000 in
theorem word_any (g : Nat) (n : Nat) (a b c d : Nat) (w : World) (h : Okw (a, b, c, d)) (hs : StAt w g a b c d) :
    Calls Try.prog 51 #[.pointer (some ⟨g, 0, none⟩), .int .u64 n] w fun e w' => e = .returned (.tuple #[]) ∧ (∃ a' b' c' d', (a', b', c', d') = wordN (a, b, c, d) n ∧ Okw (a', b', c', d') ∧ StAt w' g a' b' c' d') ∧ w.grownBy w' (some g) := by
  have HST := Lib.hid hs
  obtain ⟨x, hx⟩ : ∃ x, x = xorN d n := ⟨_, rfl⟩
  have fx := bits_xor d n
  rw [← hx] at fx
  have lx : x < 18446744073709551616 := by rw [hx]; exact xorN_lt _ _
  have ho : Okw (a, b, c, x) := ⟨h.1, h.2.1, h.2.2.1, lx⟩
  have HX := Lib.hid hx
  have HO := Lib.hid ho
  clear hs h hx ho
  obtain ⟨p0, p1, p2, p3, q0, q1, q2, q3⟩ := HST.out.cells
  go_enter Try.func51, Try.ntmps51
  go_wp2_with fail
  have hS : StAt (w.setCell ⟨g, 3, none⟩ (.int .u64 x)) g a b c x := HST.out.set 3 x
  have hG := grown_set w g 3 (.int .u64 x)
  generalize w.setCell ⟨g, 3, none⟩ (.int .u64 x) = w1 at hS hG ⊢
  have HS := Lib.hid hS
  have HG := Lib.hid hG
  clear hS hG HST p0 p1 p2 p3 q0 q1 q2 q3
  have R := rounds_any g 2 a b c x w1 (by omega) HO.out HS.out
  have HR := Lib.hid R
  clear R
  go_wp2_with (go_at_call 52; refine HR.out.mono ?_; rintro e w2 ⟨rfl, ⟨a2, b2, c2, d2, he2, ho2, hs2⟩, hg2⟩; have HE2 := Lib.hid he2; have HO2 := Lib.hid ho2; have HS2 := Lib.hid hs2; have HG2 := Lib.hid hg2; clear he2 ho2 hs2 hg2; obtain ⟨p0, p1, p2, p3, q0, q1, q2, q3⟩ := HS2.out.cells; have fy := bits_xor a2 n)
  have hS : StAt (w2.setCell ⟨g, 0, none⟩ (.int .u64 (xorN a2 n))) g (xorN a2 n) b2 c2 d2 := HS2.out.set 0 (xorN a2 n)
  have hG := grown_set w2 g 0 (.int .u64 (xorN a2 n))
  go_end0
  refine ⟨rfl, ⟨_, _, _, _, ?_, ⟨xorN_lt _ _, HO2.out.2.1, HO2.out.2.2.1, HO2.out.2.2.2⟩, hS⟩, HG.out.trans (HG2.out.trans hG)⟩
  have e := HE2.out
  have e' : (a2, b2, c2, d2) = roundN (roundN (a, b, c, x)) := e
  unfold wordN
  rw [show xorN (a, b, c, d).2.2.2 n = x from HX.out.symm]
  show _ = (xorN (roundN (roundN (a, b, c, x))).1 n, (roundN (roundN (a, b, c, x))).2.1, (roundN (roundN (a, b, c, x))).2.2.1, (roundN (roundN (a, b, c, x))).2.2.2)
  rw [← e']
  rfl
end Go.Proofs.Ytaadpldijnegkaa
/-
  slices.Grow of nil, slices.Concat: of bytes.
-/
namespace Go.Proofs.Ytaadpldijnegkaa
open Go.RowKit Go.Sort
set_option linter.unusedVariables false
set_option linter.unusedSimpArgs false

set_option maxRecDepth 100000 in
set_option maxHeartbeats 1000000 in
theorem grow_nil (n : Nat) (w : World) (hn : n ≤ 140737488351232) :
    Calls Try.prog 62 #[.slice none 0 0, .int .i64 n] w fun e w' => ∃ ad c, e = .returned (.slice ad 0 c) ∧ w'.ownsRow w.heap.size 5 1 (.slice ad 0 c) 0 [] ∧ Below w.heap.size w w' := by
  by_cases h0 : n = 0
  · subst h0
    go_enter Try.func62, Try.ntmps62
    go_wp2
    go_ret
    exact ⟨none, 0, rfl, World.ownsRow_nil _ _ _ _, Below.refl _ _⟩
  · obtain ⟨i, hi, hz, hsize, hby⟩ := info_parts elB.info
    have hpos : (0 : Int) < n := by omega
    have hr := fun ty => Lib.run_append_nil_zeros (P := Try.prog) w 62 3 ty 5 i _ .i64 .i64 elB.ht Try.underlying3 hi hz n (by omega) (by omega) (by omega) (by rw [hby]; omega)
    have HR := Lib.hid hr
    clear hr
    go_enter Try.func62, Try.ntmps62
    go_wp2_with (first
      | ((with_reducible refine sl 22 ?_); go_must (refine Lib.wpList_append_run _ rfl _ _ _ _ rfl _ _ rfl rfl _ _ (HR.out _) ?_)))
    go_ret
    have hge := grownCap_ge w n 0 5
    refine ⟨some ⟨w.heap.size, 0, none⟩, grownCap w n 0 5, rfl, ⟨by simp, .inr ⟨w.heap.size, _, _, rfl, Nat.le_refl _, heap_alloc_new _ _, Nat.zero_le _, grownCap_le_maxLen _ _ _ _ (by unfold maxLen; omega), ?_, by simp⟩⟩, ((Below.refl _ _).alloc (Nat.le_refl _) _).drew⟩
    simp [Builtin.zeroCells]
    omega

/-- parts of bytes, one behind the other in a slice of slices -/
def Pts (w : World) (ad : Option Addr) (m c : Nat) (ps : List (Option Addr × Nat × Nat × List UInt8)) : Prop :=
  Sl w ad m c 1 (ps.map fun p => .slice p.1 p.2.1 p.2.2.1) ∧ ∀ p ∈ ps, Bs w p.1 p.2.1 p.2.2.1 p.2.2.2
/-- all bytes of parts -/
def flat (ps : List (Option Addr × Nat × Nat × List UInt8)) : List UInt8 := (ps.map (·.2.2.2)).flatten
theorem flat_snoc (ps : List (Option Addr × Nat × Nat × List UInt8)) (p : Option Addr × Nat × Nat × List UInt8) : flat (ps ++ [p]) = flat ps ++ p.2.2.2 := by simp [flat]
theorem flat_take (ps : List (Option Addr × Nat × Nat × List UInt8)) (k : Nat) (h : k < ps.length) : flat (ps.take (k + 1)) = flat (ps.take k) ++ ps[k].2.2.2 := by
  rw [List.take_add_one, List.getElem?_eq_getElem h, Option.toList_some, flat_snoc]
theorem flat_take_le (ps : List (Option Addr × Nat × Nat × List UInt8)) (k : Nat) : (flat (ps.take k)).length ≤ (flat ps).length := by
  have : flat ps = flat (ps.take k) ++ flat (ps.drop k) := by
    unfold flat
    rw [← List.flatten_append, ← List.map_append, List.take_append_drop]
  rw [this, List.length_append]
  omega
theorem Pts.below {w w' : World} {ad : Option Addr} {m c : Nat} {ps : List (Option Addr × Nat × Nat × List UInt8)} (h : Pts w ad m c ps) (hb : Below w.heap.size w w') : Pts w' ad m c ps :=
  ⟨h.1.below hb, fun p hp => (h.2 p hp).below hb⟩

set_option maxRecDepth 100000 in
set_option maxHeartbeats 1000000 in
theorem concat_any (ad : Option Addr) (m c : Nat) (ps : List (Option Addr × Nat × Nat × List UInt8)) (w : World) (hp : Pts w ad m c ps) (hsz : (flat ps).length ≤ 140737488351232) :
    Calls Try.prog 50 #[.slice ad m c] w (RetB 5 (flat ps) w) := by
  have hm : m = ps.length := by have := hp.1.len; simp at this; omega
  have hmc := hp.1.le
  have hcm : c ≤ 9223372036854775807 := by have := hp.1.2.2.1; simp [maxLen] at this; omega
  have HP := Lib.hid hp
  have HM := Lib.hid hm
  clear hp hm
  go_enter Try.func50, Try.ntmps50
  go_wp2
  go_loop [3, 11] (fun n i => ∃ k : Nat, k ≤ m ∧ i = .int .i64 k ∧ n = .int .i64 ((flat (ps.take k)).length : Nat)) (fun _ i => m - (intOf i).toNat)
  case atStart => exact ⟨0, Nat.zero_le _, rfl, by simp [flat]⟩
  case round =>
    obtain ⟨k, hk, rfl, rfl⟩ := hrel
    by_cases hlt : k < m
    · have hk2 : k < ps.length := by have := HM.out; omega
      obtain ⟨b, off, rfl, _, hcc⟩ := HP.out.1.at (j := k) (by simpa using hk2)
      have hcx := hcc k (by simpa using hk2)
      simp only [List.getElem_map] at hcx
      have hl := (HP.out.2 ps[k] (List.getElem_mem hk2)).len
      have hst := flat_take ps k hk2
      have hle := flat_take_le ps (k + 1)
      generalize ps[k] = p at *
      obtain ⟨pa, pn, pc, pl⟩ := p
      simp only at hcx hl hst
      rw [hst, List.length_append, ← hl] at hle
      have HST := Lib.hid hst
      have HL := Lib.hid hl
      generalize hq : (flat (ps.take k)).length = q at *
      have HQ := Lib.hid hq
      clear hst hcc hl hq
      go_wp2_with fail
      go_round
      case rel => exact ⟨k + 1, by omega, by go_num, by rw [HST.out, List.length_append, ← HL.out, HQ.out]; go_num⟩
      case measure => simp [intOf]; omega
    · obtain rfl : k = m := by omega
      have hall : flat (ps.take k) = flat ps := by rw [List.take_of_length_le (by have := HM.out; omega)]
      rw [hall]
      have HF := Lib.hid hsz
      clear hall
      go_wp2_with (go_at_call 62; refine (grow_nil _ _ hsz).mono ?_; rintro e w1 ⟨ad1, c1, rfl, ho1, hb1⟩; have HO1 := Lib.hid ho1; have HB1 := Lib.hid hb1; clear ho1 hb1)
      go_loopw [6, 27] (fun v i wr => ∃ (j : Nat) (ad' : Option Addr) (c' : Nat), j ≤ k ∧ i = .int .i64 j ∧ v = .slice ad' (flat (ps.take j)).length c' ∧ wr.ownsRow w.heap.size 5 1 (.slice ad' (flat (ps.take j)).length c') (flat (ps.take j)).length (BV (flat (ps.take j))) ∧ Below w.heap.size w wr) (fun _ i _ => k - (intOf i).toNat)
      case atStart => exact ⟨0, ad1, c1, Nat.zero_le _, rfl, by simp [flat], by simpa [flat, BV] using HO1.out, HB1.out⟩
      case round =>
        obtain ⟨j, ad2, c2, hj, rfl, rfl, ho, hb⟩ := hrel
        have HO := Lib.hid ho
        have HB := Lib.hid hb
        clear HO1 HB1
        by_cases hlt2 : j < k
        · have hk2 : j < ps.length := by have := HM.out; omega
          have HP2 := Lib.hid (HP.out.below hb)
          obtain ⟨b, off, rfl, _, hcc⟩ := HP2.out.1.at (j := j) (by simpa using hk2)
          have hcx := hcc j (by simpa using hk2)
          simp only [List.getElem_map] at hcx
          have hbs := HP2.out.2 ps[j] (List.getElem_mem hk2)
          have hl := hbs.len
          have hst := flat_take ps j hk2
          have hle := flat_take_le ps (j + 1)
          generalize ps[j] = p at *
          obtain ⟨pa, pn, pc, pl⟩ := p
          simp only at hcx hl hst hbs
          rw [hst, List.length_append, ← hl] at hle
          have HST := Lib.hid hst
          have HL := Lib.hid hl
          have HBS := Lib.hid hbs
          have HLE := Lib.hid hle
          obtain ⟨F, hF⟩ : ∃ F, F = flat (ps.take j) := ⟨_, rfl⟩
          rw [← hF] at HO HST HLE ⊢
          clear hst hcc hl hbs hle ho hb hF
          go_wp2_with (((with_reducible refine sl 33 ?_); go_must (refine wpL_append elB rfl (.tmp 31) (.tmp 32) rfl w.heap.size rfl HO.out rfl HBS.out (BV_one _) (by have := HLE.out; unfold maxLen; omega) (by have := HLE.out; omega) HB.out.size ?_)))
          intro ad3 c3 w3 hown3 hgrow3 hat3 hnil3
          have HO3 := Lib.hid hown3
          have HB3 : Hid (Below w.heap.size w w3) := Lib.hid (HB.out.grown hgrow3 HB.out.size (ownBlock_ge HO.out))
          clear hown3 hgrow3 hat3 hnil3
          go_wp2_with fail
          go_roundw
          case rel => exact ⟨j + 1, ad3, c3, by omega, by go_num, by rw [HST.out, List.length_append, ← HL.out], by rw [HST.out, List.length_append, ← HL.out, BV_append]; exact HO3.out, HB3.out⟩
          case measure => simp [intOf]; omega
        · obtain rfl : j = k := by omega
          have hall : flat (ps.take j) = flat ps := by rw [List.take_of_length_le (by have := HM.out; omega)]
          rw [hall] at HO ⊢
          clear ho hb hall
          go_wp2_with fail
          go_ret
          exact ⟨ad2, c2, rfl, HO.out, HB.out⟩
end Go.Proofs.Ytaadpldijnegkaa
/-
  SipHash: the hash of a key and of parts.
-/
namespace Go.Proofs.Ytaadpldijnegkaa
open Go.RowKit Go.Sort
set_option linter.unusedVariables false
set_option linter.unusedSimpArgs false

/-- the four words at the beginning -/
def sip0 (kb : List UInt8) : Nat × Nat × Nat × Nat :=
  let k := getN (kb.take 8) false
  let l := getN (kb.drop 8) false
  (xorN k 8317987319222330741, xorN l 7237128888997146477, xorN k 7816392313619706465, xorN l 8387220255154660723)
/-- behind i whole words -/
def sipI (kb l : List UInt8) : Nat → Nat × Nat × Nat × Nat
  | 0 => sip0 kb
  | i + 1 => wordN (sipI kb l i) (getN (l.drop (8 * i)) false)
def sipLast (l : List UInt8) : Nat := orN (l.length * 72057594037927936 % 18446744073709551616) (getN (l.drop (8 * (l.length / 8))) false)
def sipEnd (s : Nat × Nat × Nat × Nat) : Nat :=
  let r := Nat.repeat roundN 4 (s.1, s.2.1, xorN s.2.2.1 255, s.2.2.2)
  xorN (xorN (xorN r.1 r.2.1) r.2.2.1) r.2.2.2
/-- the hash -/
def sipN (kb l : List UInt8) : Nat := sipEnd (wordN (sipI kb l (l.length / 8)) (sipLast l))

theorem xorC (a : Nat) (z : Int) (n : Nat) (h : z = n) : bits BinOp.xor .u64 (a : Int) z = ((xorN a n : Nat) : Int) := by rw [h]; exact bits_xor a n

theorem Bs.drop8 {w : World} {ad : Option Addr} {n c : Nat} {l : List UInt8} (h : Bs w ad n c l) (k : Nat) (hk : k ≤ n) : Bs w (subAd ad c k 1) (n - k) (c - k) (l.drop k) := by
  have := Sl.sub h (l := k) (h := n) hk (Nat.le_refl _)
  have e : ((BV l).drop (k * 1)).take ((n - k) * 1) = BV (l.drop k) := by
    have hn := h.len
    simp only [Nat.mul_one]
    unfold BV
    rw [← List.map_drop, List.take_of_length_le (by simp; omega)]
  rw [e] at this
  exact this

set_option maxRecDepth 100000 in
set_option maxHeartbeats 600000 in
theorem of_any (kb : List UInt8) (hkb : kb.length = 16) (ad : Option Addr) (m c : Nat) (ps : List (Option Addr × Nat × Nat × List UInt8)) (w : World) (hp : Pts w ad m c ps) (hsz : (flat ps).length ≤ 140737488351232) :
    Calls Try.prog 39 #[.agg (BV kb).toArray, .slice ad m c] w fun e w' => e = .returned (.int .u64 (sipN kb (flat ps))) ∧ Below w.heap.size w w' := by
  have HP := Lib.hid hp
  have HK := Lib.hid (Below.refl w.heap.size w)
  have hall : Sl (w.alloc (.cells (BV kb).toArray 22)) (some ⟨w.heap.size, 0, none⟩) 16 16 1 (BV kb) := Sl.lit w (BV kb).toArray _ 16 1 (by simp [BV_length, hkb]) (by simp [maxLen])
  have h1 : Bs (w.alloc (.cells (BV kb).toArray 22)) (some ⟨w.heap.size, 0, none⟩) 8 16 (kb.take 8) := by
    have := Sl.sub hall (l := 0) (h := 8) (by omega) (by omega)
    have e : ((BV kb).drop (0 * 1)).take ((8 - 0) * 1) = BV (kb.take 8) := by simp [BV, List.map_take]
    rw [e] at this
    exact this
  have h2 : Bs (w.alloc (.cells (BV kb).toArray 22)) (some ⟨w.heap.size, 8, none⟩) 8 8 (kb.drop 8) := by
    have := Sl.sub hall (l := 8) (h := 16) (by omega) (by omega)
    have e : ((BV kb).drop (8 * 1)).take ((16 - 8) * 1) = BV (kb.drop 8) := by
      show ((BV kb).drop 8).take 8 = _
      rw [List.take_of_length_le (by simp [BV, hkb])]
      simp [BV, List.map_drop]
    rw [e] at this
    have e2 : subAd (some (⟨w.heap.size, 0, none⟩ : Addr)) 16 8 1 = some ⟨w.heap.size, 8, none⟩ := by simp [subAd, Addr.add]
    rw [e2] at this
    exact this
  have H1 := Lib.hid h1
  have H2 := Lib.hid h2
  have H0 := Lib.hid ((Below.refl w.heap.size w).alloc (Nat.le_refl _) (.cells (BV kb).toArray 22))
  clear h1 h2
  have HP1 := Lib.hid (hp.below H0.out)
  clear hp
  obtain ⟨K, hK⟩ : ∃ K, K = getN (kb.take 8) false := ⟨_, rfl⟩
  obtain ⟨L, hL⟩ : ∃ L, L = getN (kb.drop 8) false := ⟨_, rfl⟩
  obtain ⟨x0, hx0⟩ : ∃ x, x = xorN K 8317987319222330741 := ⟨_, rfl⟩
  obtain ⟨x1, hx1⟩ : ∃ x, x = xorN L 7237128888997146477 := ⟨_, rfl⟩
  obtain ⟨x2, hx2⟩ : ∃ x, x = xorN K 7816392313619706465 := ⟨_, rfl⟩
  obtain ⟨x3, hx3⟩ : ∃ x, x = xorN L 8387220255154660723 := ⟨_, rfl⟩
  have c0 := xorC K 8317987319222330741 _ rfl
  have c1 := xorC L 7237128888997146477 _ rfl
  have c2 := xorC K 7816392313619706465 _ rfl
  have c3 := xorC L 8387220255154660723 _ rfl
  rw [← hx0] at c0
  rw [← hx1] at c1
  rw [← hx2] at c2
  rw [← hx3] at c3
  have hs0 : sip0 kb = (x0, x1, x2, x3) := by rw [hx0, hx1, hx2, hx3, hK, hL]; rfl
  have ho0 : Okw (x0, x1, x2, x3) := by rw [hx0, hx1, hx2, hx3]; exact ⟨xorN_lt _ _, xorN_lt _ _, xorN_lt _ _, xorN_lt _ _⟩
  have HS0 := Lib.hid hs0
  have HO0 := Lib.hid ho0
  obtain ⟨F, hF⟩ : ∃ F, F = flat ps := ⟨_, rfl⟩
  have hFl : F.length ≤ 140737488351232 := by rw [hF]; exact hsz
  rw [← hF]
  have HF := Lib.hid hF
  obtain ⟨E, hE⟩ : ∃ E, E = F.length * 72057594037927936 % 18446744073709551616 := ⟨_, rfl⟩
  have fE : IntKind.u64.wrap ((F.length : Int) * 72057594037927936) = (E : Int) := by rw [IntKind.wrap_u64, hE]; omega
  have HE := Lib.hid hE
  clear hE
  clear hx0 hx1 hx2 hx3 hs0 ho0 hF
  have HKK := Lib.hid hK
  have HLL := Lib.hid hL
  clear hK hL
  go_enter Try.func39, Try.ntmps39
  go_wp2_with fail
  generalize w.alloc (.cells (BV kb).toArray 22) = w1 at *
  go_region_with (first
    | (go_at_call 49; have t1 := H1; refine (get_any _ _ _ _ _ _ (H1.out.below bup)).mono ?_; intro e w2 hr2; rw [← HKK.out] at hr2; obtain ⟨rfl, hb2⟩ := hr2; replace H0 := ckk H0 bup hb2; replace H2 := ckk H2 bup hb2; have HP2 := Lib.hid (HP1.out.below (Below.trans (bup) hb2)); clear hb2 H1 t1 HP1)
    | (go_at_call 49; refine (get_any _ _ _ _ _ _ (H2.out.below bup)).mono ?_; intro e w3 hr3; rw [← HLL.out] at hr3; obtain ⟨rfl, hb3⟩ := hr3; replace H0 := ckk H0 bup hb3; have HP3 := Lib.hid (HP2.out.below hb3); clear hb3 H2 HP2))
  go_wp2_with (first
    | (go_at_call 50; refine (concat_any _ _ _ ps _ (HP3.out.below bup) hsz).mono ?_; intro e w4 hr4; unfold RetB at hr4; rw [← HF.out] at hr4; obtain ⟨ad4, c4, rfl, ho4, hb4⟩ := hr4; have hg4 : w4.heap[w3.heap.size]? = some (.cells #[.int .u64 x0, .int .u64 x1, .int .u64 x2, .int .u64 x3] 87 (0, 0)) := (hb4.block w3.heap.size (by simp)).trans (heap_alloc_new _ _); have HG0 := Lib.hid H0.out.size; have HST := Lib.hid (show StAt w4 w3.heap.size x0 x1 x2 x3 from hg4); replace H0 := ckk H0 bup hb4; have HBB := Lib.hid (own_form ho4); have H4 := Lib.hid (Bs.of_own ho4); clear hb4 ho4 hg4 HP3))
  have hne : ∀ x, ad4 = some x → w3.heap.size < x.block := by
    intro x hx
    rcases HBB.out with ⟨h, _⟩ | ⟨g, h, h2, _⟩
    · rw [h] at hx; cases hx
    · rw [h] at hx; cases hx; simp at h2; show w3.heap.size < g; omega
  have HNE := Lib.hid hne
  clear hne HBB
  generalize w3.heap.size = g at *
  go_loopw [8] (fun v wr => ∃ (i : Nat) (ad' : Option Addr) (n' c' : Nat), 8 * i ≤ F.length ∧ v = .slice ad' n' c' ∧ Bs wr ad' n' c' (F.drop (8 * i)) ∧ (∀ x, ad' = some x → g < x.block) ∧ (∃ a b c d, (a, b, c, d) = sipI kb F i ∧ Okw (a, b, c, d) ∧ StAt wr g a b c d) ∧ Below w.heap.size w wr) (fun v _ => lenV v)
  case atStart => exact ⟨0, ad4, _, c4, by omega, rfl, by simpa using H4.out, HNE.out, ⟨x0, x1, x2, x3, HS0.out.symm, HO0.out, HST.out⟩, H0.out⟩
  case round =>
    obtain ⟨i, ad5, n5, c5, hi, rfl, hbs, hne5, ⟨a, b, c, d, hs, ho, hst⟩, hb⟩ := hrel
    have hn5 := hbs.len
    have hc5 := hbs.le
    rw [List.length_drop] at hn5
    have HSB := Lib.hid hbs
    have HS := Lib.hid hs
    have HO := Lib.hid ho
    have HT := Lib.hid hst
    have HB := Lib.hid hb
    have HN5 := Lib.hid hn5
    have HNE5 := Lib.hid hne5
    clear hbs hs ho hst hb H4 HST H0 hne5 HNE
    by_cases h8 : (8 : Int) ≤ n5
    · obtain ⟨G, hG⟩ : ∃ G, G = getN (F.drop (8 * i)) false := ⟨_, rfl⟩
      have HG := Lib.hid hG
      clear hG hn5
      have h8n : 8 ≤ n5 := by omega
      have h8c : 8 ≤ c5 := by omega
      go_wp2_with (first
        | (go_at_call 49; refine (get_any _ _ _ _ _ _ HSB.out).mono ?_; intro e w6 hr6; rw [← HG.out] at hr6; obtain ⟨rfl, hb6⟩ := hr6; have HT6 : Hid (StAt w6 g a b c d) := Lib.hid ((hb6.block g (lt_of_block HT.out)).trans HT.out); replace HSB := ckk HSB bup hb6; have HB6 := Lib.hid (Below.next HB.out HB.out.size (Below.refl _ _) hb6); clear hb6 HB HT)
        | (go_at_call 51; refine (word_any g G a b c d _ HO.out HT6.out).mono ?_; rintro e w7 ⟨rfl, ⟨a7, b7, c7, d7, he7, ho7, hs7⟩, hg7⟩; have HE7 := Lib.hid he7; have HO7 := Lib.hid ho7; have HS7 := Lib.hid hs7; have HB7 := Lib.hid (HB6.out.grown hg7 HB6.out.size (fun k e => by cases e; exact HG0.out)); have HSB7 := Lib.hid (Sl.grown HSB.out hg7 (fun x hx e => by have := HNE5.out x hx; cases e; omega)); clear he7 ho7 hs7 hg7 HSB HB6)
        | ((with_reducible refine sl 34 ?_); go_must (refine wpL_slice elB rfl (.tmp 33) (some (.const (.int .i64 8))) none rfl rfl 8 n5 (.inr ⟨.i64, rfl⟩) (.inl ⟨rfl, rfl⟩) h8n (by omega) ?_)))
      intro ad6 had6
      have HB6 := HB7
      have hb6 : Bs w7 ad6 (n5 - 8) (c5 - 8) (F.drop (8 * (i + 1))) := by
        have h := Bs.drop8 HSB7.out 8 h8n
        rw [List.drop_drop, ← had6.out, show 8 * i + 8 = 8 * (i + 1) by omega] at h
        exact h
      have HB8 := Lib.hid hb6
      clear hb6
      go_wp2_with fail
      go_roundw
      case rel =>
        refine ⟨i + 1, ad6, n5 - 8, c5 - 8, by have := HN5.out; omega, rfl, HB8.out, ?_, ⟨a7, b7, c7, d7, ?_, HO7.out, HS7.out⟩, HB7.out⟩
        · intro x hx
          rw [had6.out] at hx
          obtain ⟨y, hy, hxy⟩ := subAd_block hx
          rw [hxy]
          exact HNE5.out y hy
        · rw [HE7.out, HS.out, HG.out]
          rfl
      case measure => simp only [lenV]; omega
    · have hi8 : i = F.length / 8 := by have := HN5.out; omega
      obtain ⟨G, hG⟩ : ∃ G, G = getN (F.drop (8 * i)) false := ⟨_, rfl⟩
      obtain ⟨z, hz⟩ : ∃ z, z = orN E G := ⟨_, rfl⟩
      have fz := bits_or E G
      rw [← hz] at fz
      have hzl : z = sipLast F := by
        rw [hz, HE.out, hG, hi8]
        rfl
      have HG := Lib.hid hG
      have HZ := Lib.hid hzl
      clear hG hn5 hz hzl
      go_wp2_with (first
        | (go_at_call 49; refine (get_any _ _ _ _ _ _ HSB.out).mono ?_; intro e w6 hr6; rw [← HG.out] at hr6; obtain ⟨rfl, hb6⟩ := hr6; have HT6 : Hid (StAt w6 g a b c d) := Lib.hid ((hb6.block g (lt_of_block HT.out)).trans HT.out); have HB6 := Lib.hid (Below.next HB.out HB.out.size (Below.refl _ _) hb6); clear hb6 HB HT)
        | (go_at_call 51; refine (word_any g z a b c d _ HO.out HT6.out).mono ?_; rintro e w7 ⟨rfl, ⟨a7, b7, c7, d7, he7, ho7, hs7⟩, hg7⟩; have HE7 := Lib.hid he7; have HO7 := Lib.hid ho7; have HS7 := Lib.hid hs7; have HB7 := Lib.hid (HB6.out.grown hg7 HB6.out.size (fun k e => by cases e; exact HG0.out)); obtain ⟨p0, p1, p2, p3, q0, q1, q2, q3⟩ := hs7.cells; have cx := xorC c7 255 _ rfl; clear he7 ho7 hs7 hg7 HB6))
      have hS8 : StAt (w7.setCell ⟨g, 2, none⟩ (.int .u64 (xorN c7 255))) g a7 b7 (xorN c7 255) d7 := HS7.out.set 2 _
      have hG8 := grown_set w7 g 2 (.int .u64 (xorN c7 255))
      have hB8 := HB7.out.grown hG8 HB7.out.size (fun k e => by cases e; exact HG0.out)
      generalize w7.setCell ⟨g, 2, none⟩ (.int .u64 (xorN c7 255)) = w8 at hS8 hG8 hB8 ⊢
      have ho8 : Okw (a7, b7, xorN c7 255, d7) := ⟨HO7.out.1, HO7.out.2.1, xorN_lt _ _, HO7.out.2.2.2⟩
      have HR := Lib.hid (rounds_any g 4 a7 b7 (xorN c7 255) d7 w8 (by omega) ho8 hS8)
      have HB8 := Lib.hid hB8
      clear hS8 hG8 hB8 ho8 p0 p1 p2 p3 q0 q1 q2 q3
      go_wp2_with (first
        | (go_at_call 52; refine HR.out.mono ?_; rintro e w9 ⟨rfl, ⟨a9, b9, c9, d9, he9, ho9, hs9⟩, hg9⟩; have HE9 := Lib.hid he9; have HB9 := Lib.hid (HB8.out.grown hg9 HB8.out.size (fun k e => by cases e; exact HG0.out)); obtain ⟨p0, p1, p2, p3, q0, q1, q2, q3⟩ := hs9.cells; clear he9 ho9 hs9 hg9))
      have y1 := bits_xor a9 b9
      have y2 := bits_xor (xorN a9 b9) c9
      have y3 := bits_xor (xorN (xorN a9 b9) c9) d9
      have hfin : xorN (xorN (xorN a9 b9) c9) d9 = sipN kb F := by
        have e9 : (a9, b9, c9, d9) = Nat.repeat roundN 4 (a7, b7, xorN c7 255, d7) := HE9.out
        have e7 : (a7, b7, c7, d7) = wordN (sipI kb F (F.length / 8)) (sipLast F) := by rw [HE7.out, HS.out, HZ.out, hi8]
        unfold sipN sipEnd
        rw [← e7]
        show _ = xorN (xorN (xorN (Nat.repeat roundN 4 (a7, b7, xorN c7 255, d7)).1 (Nat.repeat roundN 4 (a7, b7, xorN c7 255, d7)).2.1) (Nat.repeat roundN 4 (a7, b7, xorN c7 255, d7)).2.2.1) (Nat.repeat roundN 4 (a7, b7, xorN c7 255, d7)).2.2.2
        rw [← e9]
      have HFIN := Lib.hid hfin
      clear hfin
      go_quiet (fail)
      go_wp2_with fail
      go_ret
      exact ⟨by rw [← HFIN.out]; rfl, HB9.out.trans ⟨rfl, rfl, rfl, Nat.le_refl _, fun _ _ => rfl⟩⟩
end Go.Proofs.Ytaadpldijnegkaa
/-
  Plain laws of numbers as bytes.
-/
namespace Go.Proofs.Ytaadpldijnegkaa
open Go.RowKit Go.Sort
set_option linter.unusedVariables false
set_option linter.unusedSimpArgs false

theorem numBE_from (a : Nat) (m : List UInt8) : m.foldl (fun n b => n * 256 + b.toNat) a = a * 256 ^ m.length + numBE m := by
  induction m generalizing a with
  | nil => simp [numBE]
  | cons b m ih =>
    have e : numBE (b :: m) = b.toNat * 256 ^ m.length + numBE m := by
      unfold numBE
      rw [List.foldl_cons, ih (0 * 256 + b.toNat)]
      simp [numBE]
    rw [List.foldl_cons, ih, e, List.length_cons, Nat.pow_succ, Nat.add_mul, Nat.mul_assoc, Nat.mul_comm 256, Nat.add_assoc]
theorem numBE_cons (b : UInt8) (m : List UInt8) : numBE (b :: m) = b.toNat * 256 ^ m.length + numBE m := by
  unfold numBE
  rw [List.foldl_cons, numBE_from]
  simp [numBE]
theorem numBE_append (l m : List UInt8) : numBE (l ++ m) = numBE l * 256 ^ m.length + numBE m := by
  unfold numBE
  rw [List.foldl_append, numBE_from]
  rfl
theorem pow256 (k : Nat) : 2 ^ (8 * k) = 256 ^ k := by rw [show (256 : Nat) = 2 ^ 8 from rfl, ← Nat.pow_mul]
theorem numBE_putLE (n k : Nat) : numBE (putLE n k).reverse = n % 256 ^ k := by
  induction k with
  | zero => simp [putLE, numBE, Nat.mod_one]
  | succ k ih =>
    rw [putLE_succ, List.reverse_append, List.reverse_cons, List.reverse_nil, List.nil_append, List.cons_append, List.nil_append, numBE_cons, ih, List.length_reverse, putLE_length, byteAt_toNat, pow256, Nat.mod_pow_succ, Nat.mul_comm]
    omega
theorem getN_putL (n : Nat) (size : Int) (big : Bool) : getN (putL n size big) big = n % 256 ^ sizeOf8 size := by
  have h8 : sizeOf8 size ≤ 8 := by unfold sizeOf8; omega
  unfold getN putL
  cases big
  · simp only [Bool.false_eq_true, if_false]
    rw [List.take_of_length_le (by rw [putLE_length]; exact h8), numBE_putLE]
  · simp only [if_true]
    rw [List.take_of_length_le (by rw [List.length_reverse, putLE_length]; exact h8), numBE_putLE]
theorem byteAt_first (n : Nat) (b : UInt8) : byteAt (n * 256 + b.toNat) 0 = b := by
  have := b.toNat_lt
  apply UInt8.toNat_inj.1
  rw [byteAt_toNat]
  simp
theorem byteAt_next (n i : Nat) (b : UInt8) : byteAt (n * 256 + b.toNat) (i + 1) = byteAt n i := by
  have := b.toNat_lt
  apply UInt8.toNat_inj.1
  rw [byteAt_toNat, byteAt_toNat, show 8 * (i + 1) = 8 + 8 * i by omega, Nat.pow_add, ← Nat.div_div_eq_div_mul]
  congr 2
  omega
theorem putLE_numBE (m : List UInt8) : putLE (numBE m.reverse) m.length = m := by
  induction m with
  | nil => rfl
  | cons b m ih =>
    rw [List.reverse_cons, numBE_snoc, List.length_cons]
    unfold putLE
    rw [List.range_succ_eq_map, List.map_cons, byteAt_first, List.map_map]
    congr 1
    refine Eq.trans ?_ ih
    unfold putLE
    refine List.map_congr_left fun i _ => ?_
    exact byteAt_next _ _ _
theorem putL_getN (l : List UInt8) (big : Bool) (h : l.length ≤ 8) : putL (getN l big) (l.length : Int) big = l := by
  have e : sizeOf8 (l.length : Int) = l.length := by unfold sizeOf8; omega
  unfold putL getN
  rw [e, List.take_of_length_le h]
  cases big
  · simp only [Bool.false_eq_true, if_false]
    exact putLE_numBE l
  · simp only [if_true]
    have := putLE_numBE l.reverse
    rw [List.reverse_reverse, List.length_reverse] at this
    rw [this, List.reverse_reverse]
theorem putL_turn (n : Nat) (size : Int) : putL n size true = (putL n size false).reverse := by unfold putL; simp
theorem getN_turn (l : List UInt8) (h : l.length ≤ 8) : getN l true = getN l.reverse false := by
  unfold getN
  rw [List.take_of_length_le h, List.take_of_length_le (by simpa using h)]
  simp
/-- two of four bytes are one of eight -/
theorem parts_big (a b : Nat) (ha : a < 4294967296) (hb : b < 4294967296) : getN (putL a 4 true ++ putL b 4 true) true = a * 4294967296 + b := by
  unfold getN
  simp only [if_true]
  have l4 : ∀ n, (putL n 4 true).length = 4 := fun n => putL_length n 4 true
  have v4 : ∀ n, n < 4294967296 → numBE (putL n 4 true) = n := fun n h => by
    unfold putL
    simp only [if_true]
    rw [numBE_putLE]
    exact Nat.mod_eq_of_lt h
  rw [List.take_of_length_le (by rw [List.length_append, l4, l4]; omega), numBE_append, l4, v4 a ha, v4 b hb]
theorem parts_small (a b : Nat) (ha : a < 4294967296) (hb : b < 4294967296) : getN (putL b 4 false ++ putL a 4 false) false = a * 4294967296 + b := by
  have e : ∀ n, (putL n 4 false) = (putL n 4 true).reverse := fun n => by rw [putL_turn, List.reverse_reverse]
  have l4 : ∀ n, (putL n 4 true).length = 4 := fun n => putL_length n 4 true
  rw [e, e, ← List.reverse_append, ← getN_turn _ (by rw [List.length_append, l4, l4]; omega), parts_big a b ha hb]
end Go.Proofs.Ytaadpldijnegkaa
/-
  Plain laws of SipHash's words: the words in a list are the words that are taken in.
-/
namespace Go.Proofs.Ytaadpldijnegkaa
open Go.RowKit Go.Sort
set_option linter.unusedVariables false
set_option linter.unusedSimpArgs false

/-- how many noughts -/
def pad7 (n : Nat) : Nat := (15 - n % 8) % 8
/-- the bytes with noughts and the last one -/
def allOf (l : List UInt8) : List UInt8 := l ++ List.replicate (pad7 l.length) 0 ++ [UInt8.ofNat (l.length % 256)]
theorem allOf_length (l : List UInt8) : (allOf l).length = 8 * (l.length / 8 + 1) := by
  simp [allOf, pad7]
  omega
def wordAt (l : List UInt8) (i : Nat) : Nat := getN ((allOf l).drop (8 * i)) false
def wordsOf (l : List UInt8) : List Nat := (List.range (l.length / 8 + 1)).map (wordAt l)
theorem wordAt_in (l : List UInt8) (i : Nat) (h : i < l.length / 8) : wordAt l i = getN (l.drop (8 * i)) false := by
  unfold wordAt getN allOf
  simp only [Bool.false_eq_true, if_false]
  congr 2
  rw [List.append_assoc, List.drop_append_of_le_length (by omega), List.take_append_of_le_length (by rw [List.length_drop]; omega)]
theorem wordAt_last (l : List UInt8) : wordAt l (l.length / 8) = sipLast l := by
  unfold wordAt sipLast getN allOf
  simp only [Bool.false_eq_true, if_false]
  obtain ⟨r, hr⟩ : ∃ r, r = l.drop (8 * (l.length / 8)) := ⟨_, rfl⟩
  have hrl : r.length = l.length % 8 := by rw [hr, List.length_drop]; omega
  rw [List.append_assoc, List.drop_append_of_le_length (by omega), ← hr, List.take_of_length_le (by simp [pad7]; omega), List.take_of_length_le (show r.length ≤ 8 by omega)]
  have hp : pad7 l.length = 7 - r.length := by unfold pad7; omega
  have hz : ∀ k, numBE (List.replicate k (0 : UInt8)) = 0 := by
    intro k
    induction k with
    | zero => rfl
    | succ k ih => rw [List.replicate_succ, numBE_cons, ih]; simp
  have hr7 := numBE_lt r.reverse
  rw [List.length_reverse] at hr7
  have hr8 : numBE r.reverse < 72057594037927936 := Nat.lt_of_lt_of_le hr7 (show 256 ^ r.length ≤ 256 ^ 7 from Nat.pow_le_pow_right (by omega) (by omega))
  rw [List.reverse_append, List.reverse_append, List.reverse_cons, List.reverse_nil, List.nil_append, List.reverse_replicate, List.append_assoc, numBE_append, numBE_append, hz, Nat.zero_mul, Nat.zero_add]
  have e1 : numBE [UInt8.ofNat (l.length % 256)] = l.length % 256 := by simp [numBE]
  rw [e1, List.length_append, List.length_replicate, List.length_reverse, hp, show 7 - r.length + r.length = 7 by omega]
  unfold orN
  have e2 : l.length * 72057594037927936 % 18446744073709551616 = l.length % 256 * 72057594037927936 := by omega
  rw [e2, Nat.mod_eq_of_lt (show l.length % 256 * 72057594037927936 < 18446744073709551616 by omega), Nat.mod_eq_of_lt (show numBE r.reverse < 18446744073709551616 by omega)]
  have := Nat.two_pow_add_eq_or_of_lt (i := 56) (b := numBE r.reverse) hr8 (l.length % 256)
  rw [Nat.mul_comm] at this
  exact this
/-- taken in one behind the other -/
def eatN (s : Nat × Nat × Nat × Nat) (ws : List Nat) : Nat × Nat × Nat × Nat := ws.foldl wordN s
theorem eat_some (kb l : List UInt8) (i : Nat) (h : i ≤ l.length / 8) : eatN (sip0 kb) ((List.range i).map (wordAt l)) = sipI kb l i := by
  induction i with
  | zero => rfl
  | succ i ih =>
    rw [List.range_succ, List.map_append, List.map_cons, List.map_nil]
    unfold eatN at *
    rw [List.foldl_append, ih (by omega), List.foldl_cons, List.foldl_nil, wordAt_in l i (by omega)]
    rfl
theorem eat_all (kb l : List UInt8) : sipEnd (eatN (sip0 kb) (wordsOf l)) = sipN kb l := by
  unfold wordsOf
  rw [List.range_succ, List.map_append, List.map_cons, List.map_nil]
  have := eat_some kb l (l.length / 8) (Nat.le_refl _)
  unfold eatN at *
  rw [List.foldl_append, this, List.foldl_cons, List.foldl_nil, wordAt_last]
  rfl
end Go.Proofs.Ytaadpldijnegkaa
/-
  The document's words of bytes.
-/
namespace Go.Proofs.Ytaadpldijnegkaa
open Go.RowKit Go.Sort
set_option linter.unusedVariables false
set_option linter.unusedSimpArgs false

theorem elW : Elem Try.prog 78 24 1 8 (.int .u64 0) := ⟨Try.underlying78, by kernel_rfl, rfl, by omega⟩
/-- the cells of words -/
def WV (l : List Nat) : List Value := l.map fun n : Nat => Value.int .u64 (n : Int)
theorem WV_one (l : List Nat) : ∀ u ∈ WV l, u.oneCell' = true := by
  intro u hu
  obtain ⟨x, _, rfl⟩ := List.mem_map.1 hu
  rfl
theorem getN_take (l : List UInt8) (k : Nat) (h : 8 ≤ k) (big : Bool) : getN (l.take k) big = getN l big := by
  unfold getN
  rw [List.take_take, Nat.min_eq_left h]
theorem Bs.part {w : World} {ad : Option Addr} {n c : Nat} {l : List UInt8} (h : Bs w ad n c l) (i j : Nat) (hij : i ≤ j) (hj : j ≤ n) : Bs w (subAd ad c i 1) (j - i) (c - i) ((l.drop i).take (j - i)) := by
  have := Sl.sub h (l := i) (h := j) hij hj
  have e : ((BV l).drop (i * 1)).take ((j - i) * 1) = BV ((l.drop i).take (j - i)) := by
    simp only [Nat.mul_one]
    unfold BV
    rw [List.map_take, List.map_drop]
  rw [e] at this
  exact this

set_option maxRecDepth 100000 in
set_option maxHeartbeats 600000 in
theorem words_any (ad : Option Addr) (n c : Nat) (l : List UInt8) (w : World) (hs : Bs w ad n c l) (hsz : n ≤ 1000000) :
    Calls Try.prog 43 #[.slice ad n c] w fun e w' => ∃ ad' c', e = .returned (.slice ad' (l.length / 8 + 1) c') ∧ w'.ownsRow w.heap.size 24 1 (.slice ad' (l.length / 8 + 1) c') (l.length / 8 + 1) (WV (wordsOf l)) ∧ Below w.heap.size w w' := by
  have hn := hs.len
  subst hn
  have HS := Lib.hid hs
  obtain ⟨bl, hbl⟩ : ∃ b, b = UInt8.ofNat (l.length % 256) := ⟨_, rfl⟩
  have fb : ((l.length : Nat) : Int) % 256 = (bl.toNat : Int) := by rw [hbl]; simp
  have HBL := Lib.hid hbl
  have hb255 := bl.toNat_lt
  have hp7 : pad7 l.length ≤ 7 := by unfold pad7; omega
  clear hs hbl
  go_enter Try.func43, Try.ntmps43
  go_wp2_with ((with_reducible refine sl 8 ?_); go_must (refine wpL_append elB rfl (.tmp 6) (.tmp 7) rfl w.heap.size rfl (World.ownsRow_lit (size := 1) (e := 5) w #[] 0 (Nat.le_refl _) (by simp [maxLen]) rfl) rfl (HS.out.below ((Below.refl _ _).alloc (Nat.le_refl _) _)) (BV_one _) (by unfold maxLen; omega) (by omega) (by simp) ?_))
  intro ad1 c1 w1 hown1 hgrow1 hat1 hnil1
  try simp only [Nat.zero_add, List.nil_append] at hown1
  have hb1 : Below w.heap.size w w1 := ((Below.refl w.heap.size w).alloc (Nat.le_refl _) _).grown hgrow1 (by simp) (fun k e => by simp [Value.ownBlock] at e; omega)
  have HO1 := Lib.hid hown1
  have HB1 := Lib.hid hb1
  clear hown1 hgrow1 hat1 hnil1 hb1
  go_wp2_with fail
  go_loopw [3] (fun v wr => ∃ (k : Nat) (ad' : Option Addr) (c' : Nat), k ≤ pad7 l.length ∧ v = .slice ad' (l.length + k) c' ∧ wr.ownsRow w.heap.size 5 1 (.slice ad' (l.length + k) c') (l.length + k) (BV (padTo l k)) ∧ Below w.heap.size w wr) (fun v _ => l.length + pad7 l.length - lenV v)
  case atStart => exact ⟨0, ad1, c1, Nat.zero_le _, by simp, by rw [padTo_zero]; exact HO1.out, HB1.out⟩
  case round =>
    obtain ⟨k, ad2, c2, hk, rfl, ho, hb⟩ := hrel
    have HO := Lib.hid ho
    have HB := Lib.hid hb
    have H1 : Hid ((l.length + k) % 8 = 7 → k = pad7 l.length) := Lib.hid (by unfold pad7 at *; omega)
    have H2 : Hid (¬ (l.length + k) % 8 = 7 → k < pad7 l.length) := Lib.hid (by unfold pad7 at *; omega)
    clear ho hb HO1 HB1
    by_cases h4 : (l.length + k) % 8 = 7
    · have hkk := H1.out h4
      have h5 : (((l.length + k : Nat) : Int)) % 8 = 7 := by omega
      subst hkk
      go_wp2_with ((with_reducible refine sl 22 ?_); go_must (refine wpL_append elB rfl (.tmp 16) (.tmp 21) rfl w.heap.size rfl (HO.out.alloc _) rfl (Bs.one _ _ bl) (BV_one [bl]) (by unfold maxLen; omega) (by omega) (by have := HB.out.size; simp; omega) ?_))
      intro ad4 c4 w4 hown4 hgrow4 hat4 hnil4
      have HB4 : Hid (Below w.heap.size w w4) := Lib.hid ((HB.out.alloc HB.out.size _).grown hgrow4 (by have := HB.out.size; simp; omega) (ownBlock_ge HO.out))
      have hN : l.length + pad7 l.length + 1 = 8 * (l.length / 8 + 1) := by have := allOf_length l; simp [allOf] at this; omega
      have H4 : Hid (Bs w4 ad4 (l.length + pad7 l.length + 1) c4 (allOf l)) := Lib.hid (by
        have e : allOf l = padTo l (pad7 l.length) ++ [bl] := by rw [HBL.out]; rfl
        rw [e]
        unfold Bs
        rw [BV_append]
        exact Sl.of_own hown4)
      obtain ⟨N, hNN⟩ : ∃ N, N = l.length + pad7 l.length + 1 := ⟨_, rfl⟩
      rw [← hNN] at H4 hN ⊢
      clear hown4 hgrow4 hat4 hnil4 h5 HO HB H1 H2 fb HS
      have hNc := H4.out.le
      go_wp2_with fail
      go_loopw [4, 5] (fun v i wr => ∃ (j : Nat) (ad' : Option Addr) (c' : Nat), j ≤ l.length / 8 + 1 ∧ i = .int .i64 ((8 * j : Nat) : Int) ∧ v = .slice ad' j c' ∧ wr.ownsRow w4.heap.size 24 1 (.slice ad' j c') j (WV ((List.range j).map (wordAt l))) ∧ Below w4.heap.size w4 wr) (fun v _ _ => l.length / 8 + 1 - lenV v)
      case atStart => exact ⟨0, none, 0, Nat.zero_le _, rfl, rfl, World.ownsRow_nil _ _ _ _, Below.refl _ _⟩
      case round =>
        obtain ⟨j, ad5, c5, hj, rfl, rfl, ho, hb⟩ := hrel
        have HO := Lib.hid ho
        have HB := Lib.hid hb
        have H5 := Lib.hid (H4.out.below hb)
        clear ho hb
        by_cases hlt : j < l.length / 8 + 1
        · have hjN : 8 * j + 8 ≤ N := by omega
          have hp := Bs.part H5.out (8 * j) (8 * j + 8) (by omega) hjN
          have e8 : 8 * j + 8 - 8 * j = 8 := by omega
          rw [e8] at hp
          have HPT := Lib.hid hp
          obtain ⟨G, hG⟩ : ∃ G, G = wordAt l j := ⟨_, rfl⟩
          have hGG : Hid (G = getN (((allOf l).drop (8 * j)).take 8) false) := Lib.hid (by rw [getN_take _ _ (by omega), hG]; rfl)
          have HG := Lib.hid hG
          clear hG hN hNN hp
          go_wp2_with (first
            | ((with_reducible refine sl 34 ?_); go_must (refine wpL_slice elB rfl (.tmp 30) (some (.tmp 31)) (some (.tmp 33)) rfl rfl (8 * j) (8 * j + 8) (.inr ⟨.i64, rfl⟩) (.inr ⟨.i64, rfl⟩) (by omega) (by omega) ?_)))
          intro adp hadp
          rw [← hadp.out] at HPT
          try rw [e8]
          clear e8
          go_wp2_with (first
            | (go_at_call 42; refine (refGet_any _ _ _ _ _ _ HPT.out).mono ?_; rw [← hGG.out]; rintro e w' ⟨rfl, rfl⟩)
            | ((with_reducible refine sl 37 ?_); go_must (refine wpL_append elW rfl (.tmp 29) (.tmp 36) rfl w4.heap.size rfl (HO.out.alloc _) rfl (Sl.lit _ #[.int .u64 (G : Int)] _ 1 1 rfl (by simp [maxLen])) (WV_one [G]) (by unfold maxLen; omega) (by omega) (by have := HB.out.size; simp; omega) ?_)))
          intro ad7 c7 w7 hown7 hgrow7 hat7 hnil7
          have HO7 := Lib.hid hown7
          have HB7 : Hid (Below w4.heap.size w4 w7) := Lib.hid ((HB.out.alloc HB.out.size _).grown hgrow7 (by have := HB.out.size; simp; omega) (ownBlock_ge HO.out))
          clear hown7 hgrow7 hat7 hnil7
          go_wp2_with fail
          go_roundw
          case rel =>
            refine ⟨j + 1, ad7, c7, by omega, by go_num, rfl, ?_, HB7.out⟩
            have := HO7.out
            rw [List.range_succ, List.map_append, List.map_cons, List.map_nil, ← HG.out]
            unfold WV at *
            rw [List.map_append]
            exact this
          case measure => simp only [lenV]; omega
        · obtain rfl : j = l.length / 8 + 1 := by omega
          have hx : ¬ (8 * ((l.length : Int) / 8 + 1) < (N : Int)) := by omega
          clear hN hNN
          go_wp2_with fail
          go_ret
          exact ⟨ad5, c5, rfl, own_base HO.out HB4.out.size, HB4.out.trans (HB.out.mono HB4.out.size)⟩
    · have hlt := H2.out h4
      have h5 : (((l.length + k : Nat) : Int)) % 8 ≠ 7 := by omega
      go_wp2_with ((with_reducible refine sl 15 ?_); go_must (refine wpL_append elB rfl (.tmp 13) (.tmp 14) rfl w.heap.size rfl (HO.out.alloc _) rfl (Bs.one _ _ 0) (BV_one [0]) (by unfold maxLen; omega) (by omega) (by have := HB.out.size; simp; omega) ?_))
      intro ad3 c3 w3 hown3 hgrow3 hat3 hnil3
      have HO3 := Lib.hid hown3
      have HB3 : Hid (Below w.heap.size w w3) := Lib.hid ((HB.out.alloc HB.out.size _).grown hgrow3 (by have := HB.out.size; simp; omega) (ownBlock_ge HO.out))
      clear hown3 hgrow3 hat3 hnil3
      go_wp2_with fail
      go_roundw
      case rel => exact ⟨k + 1, ad3, c3, by omega, rfl, by rw [padTo_succ, BV_append]; exact HO3.out, HB3.out⟩
      case measure => simp only [lenV]; omega
end Go.Proofs.Ytaadpldijnegkaa
/-
  The document's hash.
-/
namespace Go.Proofs.Ytaadpldijnegkaa
open Go.RowKit Go.Sort
set_option linter.unusedVariables false
set_option linter.unusedSimpArgs false

/-- the four words of an array of words in block g -/
def VAt (w : World) (g : Nat) (a b c d : Nat) : Prop := w.heap[g]? = some (.cells #[.int .u64 a, .int .u64 b, .int .u64 c, .int .u64 d] 77 (0, 0))

theorem VAt.cells {w : World} {g a b c d : Nat} (h : VAt w g a b c d) : w.cell? ⟨g, 0, none⟩ = some (.int .u64 a) ∧ w.cell? ⟨g, 1, none⟩ = some (.int .u64 b) ∧ w.cell? ⟨g, 2, none⟩ = some (.int .u64 c) ∧ w.cell? ⟨g, 3, none⟩ = some (.int .u64 d) ∧
    w.frozen? ⟨g, 0, none⟩ = false ∧ w.frozen? ⟨g, 1, none⟩ = false ∧ w.frozen? ⟨g, 2, none⟩ = false ∧ w.frozen? ⟨g, 3, none⟩ = false := by
  unfold VAt at h
  simp [World.cell?, World.frozen?, h]
theorem VAt.drew {w : World} {g a b c d : Nat} (h : VAt w g a b c d) : VAt w.drew g a b c d := h
theorem VAt.set {w : World} {g a b c d : Nat} (h : VAt w g a b c d) (k x : Nat) : (w.setCell ⟨g, k, none⟩ (.int .u64 x)).heap[g]? = some (.cells (#[.int .u64 a, .int .u64 b, .int .u64 c, .int .u64 d].setIfInBounds k (.int .u64 x)) 77 (0, 0)) := by
  unfold VAt at h
  have hlt := lt_of_block h
  have h' : w.heap[g] = .cells #[.int .u64 a, .int .u64 b, .int .u64 c, .int .u64 d] 77 (0, 0) := by simpa [Array.getElem?_eq_getElem hlt] using h
  show (w.heap.modify g _)[g]? = _
  rw [Array.getElem?_eq_getElem (by simpa using hlt), Array.getElem_modify_self, h']
  rfl

set_option maxRecDepth 100000 in
theorem refRound_ex (a b c d : Nat) (h : Okw (a, b, c, d)) : ∃ a' b' c' d', (a', b', c', d') = roundN (a, b, c, d) ∧ Okw (a', b', c', d') ∧ ∀ w : World, Calls Try.prog 44 #[.agg #[.int .u64 a, .int .u64 b, .int .u64 c, .int .u64 d]] w fun e w' => e = .returned (.agg #[.int .u64 a', .int .u64 b', .int .u64 c', .int .u64 d']) ∧ Below w.heap.size w w' :=
  ⟨(roundN (a, b, c, d)).1, (roundN (a, b, c, d)).2.1, (roundN (a, b, c, d)).2.2.1, (roundN (a, b, c, d)).2.2.2, rfl, h.round, fun w => refRound_any a b c d w h⟩

set_option maxRecDepth 100000 in
set_option maxHeartbeats 600000 in
theorem refOf_any (kb : List UInt8) (hkb : kb.length = 16) (ad : Option Addr) (n c : Nat) (l : List UInt8) (w : World) (hs : Bs w ad n c l) (hsz : n ≤ 1000000) :
    Calls Try.prog 33 #[.agg (BV kb).toArray, .slice ad n c] w fun e w' => e = .returned (.int .u64 (sipN kb l)) ∧ Below w.heap.size w w' := by
  have HS := Lib.hid hs
  have hlb : l.length ≤ 1000000 := by have := hs.len; omega
  have H0 := Lib.hid ((Below.refl w.heap.size w).alloc (Nat.le_refl _) (.cells (BV kb).toArray 22))
  have hall : Sl (w.alloc (.cells (BV kb).toArray 22)) (some ⟨w.heap.size, 0, none⟩) 16 16 1 (BV kb) := Sl.lit w (BV kb).toArray _ 16 1 (by simp [BV_length, hkb]) (by simp [maxLen])
  have HA := Lib.hid (show Bs (w.alloc (.cells (BV kb).toArray 22)) (some ⟨w.heap.size, 0, none⟩) 16 16 kb from hall)
  clear hs hall
  go_enter Try.func33, Try.ntmps33
  go_wp2_with fail
  generalize w.alloc (.cells (BV kb).toArray 22) = w1 at *
  go_loopw [5, 6] (fun v i wr => ∃ (j : Nat) (ad' : Option Addr) (c' : Nat), j ≤ 16 ∧ i = .int .i64 j ∧ v = .slice ad' j c' ∧ wr.ownsRow w1.heap.size 5 1 (.slice ad' j c') j (BV (kb.take j)) ∧ Below w1.heap.size w1 wr) (fun v _ _ => 16 - lenV v)
  case atStart => exact ⟨0, none, 0, Nat.zero_le _, rfl, rfl, World.ownsRow_nil _ _ _ _, Below.refl _ _⟩
  case round =>
    obtain ⟨j, ad2, c2, hj, rfl, rfl, ho, hb⟩ := hrel
    have HO := Lib.hid ho
    have HB := Lib.hid hb
    by_cases hlt : (j : Int) < 16
    · have hjl : j < kb.length := by omega
      obtain ⟨b, off, hbo, _, hcc⟩ := (HA.out.below hb).at (j := j) hjl
      cases hbo
      have hcx := hcc j hjl
      simp only [Nat.zero_add] at hcx
      have hst := take_snoc8 kb j hjl
      obtain ⟨by8, hby⟩ : ∃ by8, by8 = at8 kb j := ⟨_, rfl⟩
      rw [← hby] at hcx hst
      have HST := Lib.hid hst
      clear hst hby hcc ho hb
      go_wp2_with ((with_reducible refine sl 21 ?_); go_must (refine wpL_append elB rfl (.tmp 16) (.tmp 20) rfl w1.heap.size rfl (HO.out.alloc _) rfl (Bs.one _ _ by8) (BV_one [by8]) (by unfold maxLen; omega) (by omega) (by have := HB.out.size; simp; omega) ?_))
      intro ad3 c3 w3 hown3 hgrow3 hat3 hnil3
      have HO3 := Lib.hid hown3
      have HB3 : Hid (Below w1.heap.size w1 w3) := Lib.hid ((HB.out.alloc HB.out.size _).grown hgrow3 (by have := HB.out.size; simp; omega) (ownBlock_ge HO.out))
      clear hown3 hgrow3 hat3 hnil3
      go_wp2_with fail
      go_roundw
      case rel => exact ⟨j + 1, ad3, c3, by omega, by go_num, rfl, by rw [HST.out, BV_append]; exact HO3.out, HB3.out⟩
      case measure => simp only [lenV]; omega
    · obtain rfl : j = 16 := by omega
      have hkk : kb.take 16 = kb := List.take_of_length_le (by omega)
      rw [hkk] at HO
      have HB2 := Lib.hid (Below.next H0.out H0.out.size (Below.refl _ _) hb)
      have HS2 := Lib.hid ((HS.out.below H0.out).below hb)
      have HA2 := Lib.hid (Bs.of_own HO.out)
      clear ho hb hkk HO HB HS HA H0
      have hc2 := HA2.out.le
      have hp1 : Bs wr (subAd ad2 c2 0 1) 8 c2 (kb.take 8) := Bs.part HA2.out 0 8 (by omega) (by omega)
      have hp2 : Bs wr (subAd ad2 c2 8 1) 8 (c2 - 8) (kb.drop 8) := Bs.drop8 HA2.out 8 (by omega)
      obtain ⟨K, hK⟩ : ∃ K, K = getN (kb.take 8) false := ⟨_, rfl⟩
      obtain ⟨L, hL⟩ : ∃ L, L = getN (kb.drop 8) false := ⟨_, rfl⟩
      obtain ⟨x0, hx0⟩ : ∃ x, x = xorN K 8317987319222330741 := ⟨_, rfl⟩
      obtain ⟨x1, hx1⟩ : ∃ x, x = xorN L 7237128888997146477 := ⟨_, rfl⟩
      obtain ⟨x2, hx2⟩ : ∃ x, x = xorN K 7816392313619706465 := ⟨_, rfl⟩
      obtain ⟨x3, hx3⟩ : ∃ x, x = xorN L 8387220255154660723 := ⟨_, rfl⟩
      have c0 := xorC K 8317987319222330741 _ rfl
      have c1 := xorC L 7237128888997146477 _ rfl
      have c2' := xorC K 7816392313619706465 _ rfl
      have c3 := xorC L 8387220255154660723 _ rfl
      rw [← hx0] at c0
      rw [← hx1] at c1
      rw [← hx2] at c2'
      rw [← hx3] at c3
      have hs0 : sip0 kb = (x0, x1, x2, x3) := by rw [hx0, hx1, hx2, hx3, hK, hL]; rfl
      have ho0 : Okw (x0, x1, x2, x3) := by rw [hx0, hx1, hx2, hx3]; exact ⟨xorN_lt _ _, xorN_lt _ _, xorN_lt _ _, xorN_lt _ _⟩
      have HS0 := Lib.hid hs0
      have HO0 := Lib.hid ho0
      clear hx0 hx1 hx2 hx3 hs0 ho0
      have HKK := Lib.hid hK
      have HLL := Lib.hid hL
      have HP1 := Lib.hid hp1
      have HP2 := Lib.hid hp2
      clear hK hL hp1 hp2
      go_wp2_with (first
        | ((with_reducible refine sl 23 ?_); go_must (refine wpL_slice elB rfl (.tmp 22) none (some (.const (.int .i64 8))) rfl rfl 0 8 (.inl ⟨rfl, rfl⟩) (.inr ⟨.i64, rfl⟩) (by omega) (by omega) ?_); intro adp hadp; rw [← hadp.out] at HP1)
        | ((with_reducible refine sl 26 ?_); go_must (refine wpL_slice elB rfl (.tmp 25) (some (.const (.int .i64 8))) none rfl rfl 8 16 (.inr ⟨.i64, rfl⟩) (.inl ⟨rfl, rfl⟩) (by omega) (by omega) ?_); intro adq hadq; rw [← hadq.out] at HP2)
        | (go_at_call 42; have t1 := HP1; refine (refGet_any _ _ _ _ _ _ t1.out).mono ?_; clear t1 HP1; rw [← HKK.out]; rintro e w' ⟨rfl, hw⟩; obtain rfl := hw)
        | (go_at_call 42; refine (refGet_any _ _ _ _ _ _ HP2.out).mono ?_; rw [← HLL.out]; rintro e w' ⟨rfl, hw⟩; obtain rfl := hw)
        | (go_at_call 43; refine (words_any _ _ _ l _ (HS2.out.below bup) hsz).mono ?_; rintro e w4 ⟨ad4, c4, rfl, ho4, hb4⟩; have hg4 : w4.heap[wr.heap.size]? = some (.cells #[.int .u64 x0, .int .u64 x1, .int .u64 x2, .int .u64 x3] 77 (0, 0)) := (hb4.block wr.heap.size (by simp)).trans (heap_alloc_new _ _); have HV := Lib.hid (show VAt w4 wr.heap.size x0 x1 x2 x3 from hg4); have HG0 := Lib.hid HB2.out.size; have hE__ := cU HB2 bup hb4; replace HB2 := ck HB2 hE__; clear hE__; have HW := Lib.hid ho4; clear hb4 ho4 hg4))
      have hf4 := own_form HW.out
      have hne : ∀ x, ad4 = some x → wr.heap.size < x.block := by
        intro x hx
        rcases hf4 with ⟨h, _⟩ | ⟨g, h, h2, _⟩
        · rw [h] at hx; cases hx
        · rw [h] at hx; cases hx; simp at h2; show wr.heap.size < g; omega
      have HNE := Lib.hid hne
      have HSL := Lib.hid (Sl.of_own HW.out)
      clear hne hf4 HW
      generalize wr.heap.size = g at *
      obtain ⟨ws, hws⟩ : ∃ ws, ws = wordsOf l := ⟨_, rfl⟩
      have hwl : ws.length = l.length / 8 + 1 := by rw [hws]; simp [wordsOf]
      rw [← hws] at HSL
      have HWS := Lib.hid hws
      generalize hq : l.length / 8 + 1 = q at *
      have hqb : q ≤ 1000001 := by omega
      clear hws hq
      have HWL := Lib.hid hwl
      clear hwl
      go_loopw [11] (fun i wr => ∃ j : Nat, j ≤ q ∧ i = .int .i64 j ∧ (∃ a b c d, (a, b, c, d) = eatN (sip0 kb) (ws.take j) ∧ Okw (a, b, c, d) ∧ VAt wr g a b c d) ∧ Sl wr ad4 q c4 1 (WV ws) ∧ Below w.heap.size w wr) (fun i _ => q - (intOf i).toNat)
      case atStart => exact ⟨0, Nat.zero_le _, rfl, ⟨x0, x1, x2, x3, HS0.out.symm, HO0.out, HV.out⟩, HSL.out, HB2.out⟩
      case round =>
        obtain ⟨j, hj, rfl, ⟨a, b, c, d, he, ho, hv⟩, hsl, hb⟩ := hrel
        have HE := Lib.hid he
        have HO := Lib.hid ho
        have HV2 := Lib.hid hv
        have HL2 := Lib.hid hsl
        have HB3 := Lib.hid hb
        obtain ⟨p0, p1, p2, p3, q0, q1, q2, q3⟩ := hv.cells
        clear he ho hv hb HV HSL HB2
        by_cases hlt : j < q
        · have hjw : j < ws.length := by have := HWL.out; omega
          obtain ⟨b5, off5, hb5, _, hcc⟩ := hsl.at (j := j) (by simpa [WV] using hjw)
          have hcx := hcc j (by simpa [WV] using hjw)
          simp only [WV, List.getElem_map] at hcx
          obtain ⟨x, hx⟩ : ∃ x, x = ws[j] := ⟨_, rfl⟩
          rw [← hx] at hcx
          subst hb5
          clear hcc hsl
          obtain ⟨y, hy⟩ : ∃ y, y = xorN d x := ⟨_, rfl⟩
          have fy := bits_xor d x
          rw [← hy] at fy
          have hoy : Okw (a, b, c, y) := ⟨HO.out.1, HO.out.2.1, HO.out.2.2.1, by rw [hy]; exact xorN_lt _ _⟩
          have HX := Lib.hid hx
          have HY := Lib.hid hy
          obtain ⟨a1, b1, c1, d1, hr1, ho1, R1⟩ := refRound_ex a b c y hoy
          obtain ⟨a2, b2, c2, d2, hr2, ho2, R2⟩ := refRound_ex a1 b1 c1 d1 ho1
          have HR1 := Lib.hid hr1
          have HR2 := Lib.hid hr2
          have HO2 := Lib.hid ho2
          have RR1 := Lib.hid R1
          have RR2 := Lib.hid R2
          clear hx hy hoy hr1 ho1 R1 hr2 ho2 R2
          go_wp2_with fail
          go_still_tail 8, (by kernel_rfl)
          change wpList _ _ _ _ _ wr.drew
          have hD := HV2.out.drew
          have hSD : Sl wr.drew (some ⟨b5, off5, none⟩) q c4 1 (WV ws) := HL2.out.below ((Below.refl _ _).drew)
          have hBD := HB3.out.drew
          generalize wr.drew = v1 at hD hSD hBD ⊢
          clear p0 p1 p2 p3 q0 q1 q2 q3 hcx HV2 HL2 HB3
          obtain ⟨p0, p1, p2, p3, q0, q1, q2, q3⟩ := hD.cells
          have HD := Lib.hid hD
          have HSD := Lib.hid hSD
          have HBD := Lib.hid hBD
          clear hD hSD hBD
          have hgb : g < b5 := HNE.out _ rfl
          go_wp2_with fail
          (go_at_call 44; have t1 := RR1; refine (t1.out _).mono ?_; clear t1 RR1; rintro e w5 ⟨rfl, hbb⟩; have hS : VAt (v1.setCell ⟨g, 3, none⟩ (.int .u64 y)) g a b c y := HD.out.set 3 y; have hG := grown_set v1 g 3 (.int .u64 y); have HV5 := Lib.hid (show VAt w5 g a b c y from (hbb.block g (lt_of_block hS)).trans hS); have HS5 := Lib.hid ((HSD.out.grown hG (fun x hx e => by cases hx; injection e with e; have e2 : g = b5 := e; omega)).below hbb); have HB5 := Lib.hid (Below.next (HBD.out.grown hG HBD.out.size (fun k e => by cases e; exact HG0.out)) (Nat.le_trans HBD.out.size hG.size) (Below.refl _ _) hbb); clear hbb hS hG HD HSD HBD)
          go_wp2_with (go_at_call 44; have t2 := RR2; refine (t2.out _).mono ?_; clear t2 RR2; rintro e w6 ⟨rfl, hbb⟩; have HV6 := Lib.hid (show VAt w6 g a b c y from (hbb.block g (lt_of_block HV5.out)).trans HV5.out); have HS6 := Lib.hid (HS5.out.below hbb); have HB6 := Lib.hid (Below.next HB5.out HB5.out.size (Below.refl _ _) hbb); clear hbb HV5 HS5 HB5 p0 p1 p2 p3 q0 q1 q2 q3; obtain ⟨p0, p1, p2, p3, q0, q1, q2, q3⟩ := HV6.out.cells)
          have hG : w6.grownBy ((((w6.setCell ⟨g, 0, none⟩ (.int .u64 a2)).setCell ⟨g, 1, none⟩ (.int .u64 b2)).setCell ⟨g, 2, none⟩ (.int .u64 c2)).setCell ⟨g, 3, none⟩ (.int .u64 d2)) (some g) :=
            (grown_set _ _ _ _).trans ((grown_set _ _ _ _).trans ((grown_set _ _ _ _).trans (grown_set _ _ _ _)))
          have hS : VAt ((((w6.setCell ⟨g, 0, none⟩ (.int .u64 a2)).setCell ⟨g, 1, none⟩ (.int .u64 b2)).setCell ⟨g, 2, none⟩ (.int .u64 c2)).setCell ⟨g, 3, none⟩ (.int .u64 d2)) g a2 b2 c2 d2 :=
            VAt.set (VAt.set (VAt.set (VAt.set HV6.out 0 a2) 1 b2) 2 c2) 3 d2
          generalize (((w6.setCell ⟨g, 0, none⟩ (.int .u64 a2)).setCell ⟨g, 1, none⟩ (.int .u64 b2)).setCell ⟨g, 2, none⟩ (.int .u64 c2)).setCell ⟨g, 3, none⟩ (.int .u64 d2) = v2 at hG hS ⊢
          have HS7 : Hid (Sl v2 (some { block := b5, off := off5 }) q c4 1 (WV ws)) := Lib.hid (HS6.out.grown hG (fun x hx e => by cases hx; injection e with e; have e2 : g = b5 := e; omega))
          have HB7 : Hid (Below w.heap.size w v2) := Lib.hid (HB6.out.grown hG HB6.out.size (fun k e => by cases e; exact HG0.out))
          have HV7 := Lib.hid hS
          clear p0 p1 p2 p3 q0 q1 q2 q3 hG hS HV6 HS6 HB6
          obtain ⟨p0, p1, p2, p3, q0, q1, q2, q3⟩ := HV7.out.cells
          obtain ⟨b6, off6, hb6, _, hcc⟩ := HS7.out.at (j := j) (by simpa [WV] using hjw)
          cases hb6
          have hcx := hcc j (by simpa [WV] using hjw)
          simp only [WV, List.getElem_map] at hcx
          rw [← HX.out] at hcx
          clear hcc
          have fy2 := bits_xor a2 x
          go_still_tail 8, (by kernel_rfl)
          change wpList _ _ _ _ _ v2.drew
          have hG8 : v2.grownBy v2.drew (some g) := grown_drew v2 _
          have hS8 : VAt v2.drew g a2 b2 c2 d2 := HV7.out.drew
          generalize v2.drew = v3 at hG8 hS8 ⊢
          clear p0 p1 p2 p3 q0 q1 q2 q3 hcx
          obtain ⟨p0, p1, p2, p3, q0, q1, q2, q3⟩ := hS8.cells
          have hS9 : VAt (v3.setCell ⟨g, 0, none⟩ (.int .u64 (xorN a2 x))) g (xorN a2 x) b2 c2 d2 := VAt.set hS8 0 _
          have hG9 : v2.grownBy (v3.setCell ⟨g, 0, none⟩ (.int .u64 (xorN a2 x))) (some g) := hG8.trans (grown_set _ _ _ _)
          have HS9 : Hid (Sl (v3.setCell ⟨g, 0, none⟩ (.int .u64 (xorN a2 x))) (some { block := b5, off := off5 }) q c4 1 (WV ws)) := Lib.hid (HS7.out.grown hG9 (fun x hx e => by cases hx; injection e with e; have e2 : g = b5 := e; omega))
          have HB9 : Hid (Below w.heap.size w (v3.setCell ⟨g, 0, none⟩ (.int .u64 (xorN a2 x)))) := Lib.hid (HB7.out.grown hG9 HB7.out.size (fun k e => by cases e; exact HG0.out))
          have HV9 := Lib.hid hS9
          clear hS8 hS9 hG8 hG9
          have ho9 : Okw (xorN a2 x, b2, c2, d2) := ⟨xorN_lt _ _, HO2.out.2.1, HO2.out.2.2.1, HO2.out.2.2.2⟩
          have he9 : (xorN a2 x, b2, c2, d2) = eatN (sip0 kb) (ws.take (j + 1)) := by
            rw [List.take_add_one, List.getElem?_eq_getElem hjw]
            unfold eatN
            rw [List.foldl_append]
            show _ = wordN (eatN (sip0 kb) (ws.take j)) ws[j]
            rw [← HE.out, ← HX.out]
            have e1 : (a2, b2, c2, d2) = roundN (roundN (a, b, c, xorN d x)) := by rw [← HY.out, ← HR1.out]; exact HR2.out
            unfold wordN
            show _ = (xorN (roundN (roundN (a, b, c, xorN d x))).1 x, (roundN (roundN (a, b, c, xorN d x))).2.1, (roundN (roundN (a, b, c, xorN d x))).2.2.1, (roundN (roundN (a, b, c, xorN d x))).2.2.2)
            rw [← e1]
          have HE9 := Lib.hid he9
          have HO9 := Lib.hid ho9
          clear he9 ho9 fy fy2
          go_wp2_with fail
          go_roundw
          case rel => exact ⟨j + 1, by omega, by go_num, ⟨_, _, _, _, HE9.out, HO9.out, HV9.out⟩, HS9.out, HB9.out⟩
          case measure => simp [intOf]; omega
        · have hjq : j = q := by omega
          have hej : ws.take j = ws := List.take_of_length_le (by have := HWL.out; omega)
          rw [hej] at HE
          clear hej
          have cx := xorC c 255 _ rfl
          have ho8 : Okw (a, b, xorN c 255, d) := ⟨HO.out.1, HO.out.2.1, xorN_lt _ _, HO.out.2.2.2⟩
          obtain ⟨a1, b1, c1, d1, hr1, ho1, R1⟩ := refRound_ex a b (xorN c 255) d ho8
          obtain ⟨a2, b2, c2, d2, hr2, ho2, R2⟩ := refRound_ex a1 b1 c1 d1 ho1
          obtain ⟨a3, b3, c3, d3, hr3, ho3, R3⟩ := refRound_ex a2 b2 c2 d2 ho2
          obtain ⟨a4, b4, c4, d4, hr4, ho4, R4⟩ := refRound_ex a3 b3 c3 d3 ho3
          have hfin : xorN (xorN (xorN a4 b4) c4) d4 = sipN kb l := by
            rw [← eat_all, ← HWS.out, ← HE.out]
            unfold sipEnd
            show _ = xorN (xorN (xorN (roundN (roundN (roundN (roundN (a, b, xorN c 255, d))))).1 (roundN (roundN (roundN (roundN (a, b, xorN c 255, d))))).2.1) (roundN (roundN (roundN (roundN (a, b, xorN c 255, d))))).2.2.1) (roundN (roundN (roundN (roundN (a, b, xorN c 255, d))))).2.2.2
            rw [← hr1, ← hr2, ← hr3, ← hr4]
          have HFIN := Lib.hid hfin
          have RR1 := Lib.hid R1
          have RR2 := Lib.hid R2
          have RR3 := Lib.hid R3
          have RR4 := Lib.hid R4
          clear hr1 hr2 hr3 hr4 ho1 ho2 ho3 ho4 R1 R2 R3 R4 hfin ho8
          have hS : VAt (wr.setCell ⟨g, 2, none⟩ (.int .u64 (xorN c 255))) g a b (xorN c 255) d := VAt.set HV2.out 2 _
          have hG := grown_set wr g 2 (.int .u64 (xorN c 255))
          have HB4 := Lib.hid (HB3.out.grown hG HB3.out.size (fun k e => by cases e; exact HG0.out))
          have HV4 := Lib.hid hS
          clear hS hG
          go_wp2_with fail
          generalize wr.setCell ⟨g, 2, none⟩ (.int .u64 (xorN c 255)) = v1 at HB4 HV4 ⊢
          clear p0 p1 p2 p3 q0 q1 q2 q3 HL2 HB3 HV2
          (go_at_call 44; refine (RR1.out _).mono ?_; rintro e w5 ⟨rfl, hbb⟩; have HV5 := Lib.hid (show VAt w5 g a b (xorN c 255) d from (hbb.block g (lt_of_block HV4.out)).trans HV4.out); have HB5 := Lib.hid (Below.next HB4.out HB4.out.size (Below.refl _ _) hbb); clear hbb HB4 HV4 RR1)
          go_wp2_with fail
          (go_at_call 44; refine (RR2.out _).mono ?_; rintro e w6 ⟨rfl, hbb⟩; have HV6 := Lib.hid (show VAt w6 g a b (xorN c 255) d from (hbb.block g (lt_of_block HV5.out)).trans HV5.out); have HB6 := Lib.hid (Below.next HB5.out HB5.out.size (Below.refl _ _) hbb); clear hbb HB5 HV5 RR2)
          go_wp2_with fail
          (go_at_call 44; refine (RR3.out _).mono ?_; rintro e w7 ⟨rfl, hbb⟩; have HV7 := Lib.hid (show VAt w7 g a b (xorN c 255) d from (hbb.block g (lt_of_block HV6.out)).trans HV6.out); have HB7 := Lib.hid (Below.next HB6.out HB6.out.size (Below.refl _ _) hbb); clear hbb HB6 HV6 RR3)
          go_wp2_with fail
          (go_at_call 44; refine (RR4.out _).mono ?_; rintro e w8 ⟨rfl, hbb⟩; have HV8 := Lib.hid (show VAt w8 g a b (xorN c 255) d from (hbb.block g (lt_of_block HV7.out)).trans HV7.out); have HB8 := Lib.hid (Below.next HB7.out HB7.out.size (Below.refl _ _) hbb); clear hbb HB7 HV7 RR4)
          obtain ⟨p0, p1, p2, p3, q0, q1, q2, q3⟩ := HV8.out.cells
          go_wp2_with fail
          have hG : w8.grownBy ((((w8.setCell ⟨g, 0, none⟩ (.int .u64 a4)).setCell ⟨g, 1, none⟩ (.int .u64 b4)).setCell ⟨g, 2, none⟩ (.int .u64 c4)).setCell ⟨g, 3, none⟩ (.int .u64 d4)) (some g) :=
            (grown_set _ _ _ _).trans ((grown_set _ _ _ _).trans ((grown_set _ _ _ _).trans (grown_set _ _ _ _)))
          have hS : VAt ((((w8.setCell ⟨g, 0, none⟩ (.int .u64 a4)).setCell ⟨g, 1, none⟩ (.int .u64 b4)).setCell ⟨g, 2, none⟩ (.int .u64 c4)).setCell ⟨g, 3, none⟩ (.int .u64 d4)) g a4 b4 c4 d4 :=
            VAt.set (VAt.set (VAt.set (VAt.set HV8.out 0 a4) 1 b4) 2 c4) 3 d4
          generalize (((w8.setCell ⟨g, 0, none⟩ (.int .u64 a4)).setCell ⟨g, 1, none⟩ (.int .u64 b4)).setCell ⟨g, 2, none⟩ (.int .u64 c4)).setCell ⟨g, 3, none⟩ (.int .u64 d4) = v2 at hG hS ⊢
          have HB9 : Hid (Below w.heap.size w v2) := Lib.hid (HB8.out.grown hG HB8.out.size (fun k e => by cases e; exact HG0.out))
          clear p0 p1 p2 p3 q0 q1 q2 q3 HV8 hG cx
          obtain ⟨p0, p1, p2, p3, q0, q1, q2, q3⟩ := hS.cells
          have y1 := bits_xor a4 b4
          have y2 := bits_xor (xorN a4 b4) c4
          have y3 := bits_xor (xorN (xorN a4 b4) c4) d4
          clear hS
          go_ret
          rw [y1, y2, y3, HFIN.out] at *
          exact ⟨rfl, HB9.out⟩
end Go.Proofs.Ytaadpldijnegkaa
/-
  The hash of parts, at hand.
-/
namespace Go.Proofs.Ytaadpldijnegkaa
open Go.RowKit Go.Sort
set_option linter.unusedVariables false
set_option linter.unusedSimpArgs false

theorem one_at {v W : World} {b : Nat} {e : TypeId} (hb : b = v.heap.size) (x : UInt8) (hW : Below (v.alloc (.cells #[.int .u8 (x.toNat : Int)] e)).heap.size (v.alloc (.cells #[.int .u8 (x.toNat : Int)] e)) W) : Bs W (some ⟨b, 0, none⟩) 1 1 [x] := by
  subst hb
  exact (Bs.one v e x).below hW
theorem pts_at {v W : World} {b m : Nat} {e : TypeId} (cs : Array Value) (ps : List (Option Addr × Nat × Nat × List UInt8)) (hb : b = v.heap.size) (hcs : cs.toList = ps.map fun p => Value.slice p.1 p.2.1 p.2.2.1) (hm : ps.length = m) (hle : m ≤ maxLen)
    (hp : ∀ p ∈ ps, Bs v p.1 p.2.1 p.2.2.1 p.2.2.2) (hW : Below (v.alloc (.cells cs e)).heap.size (v.alloc (.cells cs e)) W) : Pts W (some ⟨b, 0, none⟩) m m ps := by
  subst hb
  refine Pts.below ⟨?_, fun p hq => (hp p hq).below ((Below.refl _ _).alloc (Nat.le_refl _) _)⟩ hW
  rw [← hcs]
  exact Sl.lit v cs e m 1 (by rw [← Array.length_toList, hcs, List.length_map, hm]; omega) hle

set_option maxRecDepth 100000 in
/-- 'Of' of a known answer -/
theorem of_eq (kb : List UInt8) (hkb : kb.length = 16) (ad : Option Addr) (m c : Nat) (ps : List (Option Addr × Nat × Nat × List UInt8)) (w : World) (hp : Pts w ad m c ps) (l : List UInt8) (hl : flat ps = l) (hsz : l.length ≤ 140737488351232) (r : Int) (hr : ((sipN kb l : Nat) : Int) = r) :
    Calls Try.prog 39 #[.agg (BV kb).toArray, .slice ad m c] w fun e w' => e = .returned (.int .u64 r) ∧ Below w.heap.size w w' := by
  subst hl
  subst hr
  exact of_any kb hkb ad m c ps w hp hsz

theorem cP {w a w' : World} {ad : Option Addr} {m c : Nat} {ps : List (Option Addr × Nat × Nat × List UInt8)} (h : Hid (Pts w ad m c ps)) (hu : Below w.heap.size w a) (hb : Below a.heap.size a w') : Hid (Pts w' ad m c ps) :=
  Lib.hid ((h.out.below hu).below hb)
end Go.Proofs.Ytaadpldijnegkaa
/-
  Plain laws of chapter 16: primes, the next one, the choices.
-/
namespace Go.Proofs.Ytaadpldijnegkaa
set_option linter.unusedVariables false
set_option linter.unusedSimpArgs false

def noDiv (n : Nat) : Nat → Nat → Bool
  | 0, _ => true
  | f + 1, d => if n < d * d then true else if n % d = 0 then false else noDiv n f (d + 1)
/-- a prime? -/
def pr (n : Nat) : Bool := decide (2 ≤ n) && noDiv n n 2

theorem noDiv_iff (n : Nat) : ∀ (f d : Nat), n < (d + f) * (d + f) → (noDiv n f d = true ↔ ∀ e, d ≤ e → e * e ≤ n → n % e ≠ 0)
  | 0, d, h => by
    simp only [noDiv, true_iff]
    intro e h1 h2
    have : d * d ≤ e * e := Nat.mul_le_mul h1 h1
    simp at h
    omega
  | f + 1, d, h => by
    simp only [noDiv]
    split
    · rename_i hlt
      simp only [true_iff]
      intro e h1 h2
      have : d * d ≤ e * e := Nat.mul_le_mul h1 h1
      omega
    · rename_i hge
      split
      · rename_i h0
        constructor
        · intro h; cases h
        · intro hh; exact absurd h0 (hh d (Nat.le_refl _) (by omega))
      · rename_i h0
        rw [noDiv_iff n f (d + 1) (by rw [show d + 1 + f = d + (f + 1) by omega]; exact h)]
        constructor
        · intro hh e h1 h2
          by_cases e1 : e = d
          · rw [e1]; exact h0
          · exact hh e (by omega) h2
        · intro hh e h1 h2
          exact hh e (by omega) h2

theorem pr_iff (n : Nat) : pr n = true ↔ 2 ≤ n ∧ ∀ e, 2 ≤ e → e * e ≤ n → n % e ≠ 0 := by
  unfold pr
  rw [Bool.and_eq_true, decide_eq_true_iff, noDiv_iff n n 2 (by
    have : (2 + n) * (2 + n) = 4 + 4 * n + n * n := by rw [Nat.add_mul, Nat.mul_add, Nat.mul_add]; omega
    omega)]
theorem pr_false {n e : Nat} (h1 : 2 ≤ e) (h2 : e * e ≤ n) (h3 : n % e = 0) : pr n = false := by
  cases h : pr n
  · rfl
  · exact absurd h3 (((pr_iff n).1 h).2 e h1 h2)
theorem pr_small {n : Nat} (h : n < 2) : pr n = false := by
  unfold pr
  rw [show decide (2 ≤ n) = false by simpa using h]
  rfl
theorem pr_dvd {p d : Nat} (h : pr p = true) (hd : d ∣ p) : d = 1 ∨ d = p := by
  obtain ⟨h2, hp⟩ := (pr_iff p).1 h
  obtain ⟨c, hc⟩ := hd
  have hd0 : d ≠ 0 := by rintro rfl; simp at hc; omega
  have hc0 : c ≠ 0 := by rintro rfl; simp at hc; omega
  by_cases d1 : d = 1
  · exact .inl d1
  · by_cases c1 : c = 1
    · right; rw [hc, c1, Nat.mul_one]
    · exfalso
      rcases Nat.le_total d c with hle | hle
      · exact hp d (by omega) (by rw [hc]; exact Nat.mul_le_mul_left d hle) (by rw [hc]; exact Nat.mul_mod_right d c)
      · exact hp c (by omega) (by rw [hc]; exact Nat.mul_le_mul_right c hle) (by rw [hc]; exact Nat.mul_mod_left d c)
theorem pr_mul {a b : Nat} (ha : 2 ≤ a) (hb : 2 ≤ b) : pr (a * b) = false := by
  rcases Nat.le_total a b with hle | hle
  · exact pr_false (e := a) ha (Nat.mul_le_mul_left a hle) (Nat.mul_mod_right a b)
  · exact pr_false (e := b) hb (Nat.mul_le_mul_right b hle) (Nat.mul_mod_left a b)
theorem pr65537 : pr 65537 = true := by decide +kernel

/-- the first prime from p on, among f numbers; 0: none -/
def nxt : Nat → Nat → Nat
  | 0, _ => 0
  | f + 1, p => if pr p then p else nxt f (p + 1)
def low (n : Int) : Nat := (max n 2).toNat
/-- the next prime up to 65537 -/
def nextP (n : Int) : Nat := nxt (65538 - low n) (low n)
theorem nxt_spec : ∀ (f p : Nat), 2 ≤ p → (nxt f p = 0 ∧ ∀ q, p ≤ q → q < p + f → pr q = false) ∨ (pr (nxt f p) = true ∧ p ≤ nxt f p ∧ nxt f p < p + f ∧ ∀ q, p ≤ q → q < nxt f p → pr q = false)
  | 0, p, _ => .inl ⟨rfl, fun q h1 h2 => by omega⟩
  | f + 1, p, hp => by
    simp only [nxt]
    cases h : pr p
    · simp only [Bool.false_eq_true, if_false]
      rcases nxt_spec f (p + 1) (by omega) with ⟨h0, h1⟩ | ⟨h0, h1, h2, h3⟩
      · refine .inl ⟨h0, fun q a b => ?_⟩
        by_cases e : q = p
        · rw [e]; exact h
        · exact h1 q (by omega) (by omega)
      · refine .inr ⟨h0, by omega, by omega, fun q a b => ?_⟩
        by_cases e : q = p
        · rw [e]; exact h
        · exact h3 q (by omega) b
    · simp only [if_true]
      exact .inr ⟨h, Nat.le_refl _, by omega, fun q a b => by omega⟩
theorem low_le (n : Int) : 2 ≤ low n ∧ n ≤ low n ∧ (2 ≤ n → (low n : Int) = n) ∧ (n ≤ 2 → low n = 2) := by unfold low; omega
theorem nextP_spec (n : Int) (h : n ≤ 65537) : pr (nextP n) = true ∧ low n ≤ nextP n ∧ nextP n ≤ 65537 ∧ ∀ q, low n ≤ q → q < nextP n → pr q = false := by
  have hl := low_le n
  have h65 : low n ≤ 65537 := by rcases Int.le_total n 2 with h2 | h2 <;> omega
  unfold nextP
  rcases nxt_spec (65538 - low n) (low n) hl.1 with ⟨h0, h1⟩ | ⟨h0, h1, h2, h3⟩
  · have := h1 65537 h65 (by omega)
    rw [pr65537] at this
    cases this
  · exact ⟨h0, h1, by omega, h3⟩

/-! ### the choices -/
def choiceN (off skip size i : Nat) : Nat := (off + i % size * skip) % size
theorem coprime_lt {p s : Nat} (hp : pr p = true) (h0 : 0 < s) (h1 : s < p) : Nat.Coprime p s := by
  rcases pr_dvd hp (Nat.gcd_dvd_left p s) with h | h
  · exact h
  · have := Nat.le_of_dvd h0 (Nat.gcd_dvd_right p s)
    omega
theorem choice_inj {off skip size i j : Nat} (hp : pr size = true) (h0 : 0 < skip) (h1 : skip < size) (hi : i < j) (hj : j < size) : choiceN off skip size i ≠ choiceN off skip size j := by
  intro h
  unfold choiceN at h
  rw [Nat.mod_eq_of_lt (show i < size by omega), Nat.mod_eq_of_lt hj] at h
  have h2 : (off + j * skip - (off + i * skip)) % size = 0 := Nat.sub_mod_eq_zero_of_mod_eq h.symm
  have h3 : off + j * skip - (off + i * skip) = (j - i) * skip := by rw [Nat.sub_mul]; omega
  rw [h3] at h2
  have h4 : size ∣ (j - i) := (coprime_lt hp h0 h1).dvd_of_dvd_mul_right (Nat.dvd_of_mod_eq_zero h2)
  have := Nat.le_of_dvd (by omega) h4
  omega
end Go.Proofs.Ytaadpldijnegkaa
/-
  Chapter 16: primes and the next one, walked.
-/
namespace Go.Proofs.Ytaadpldijnegkaa
open Go.RowKit Go.Sort
set_option linter.unusedVariables false
set_option linter.unusedSimpArgs false

set_option maxRecDepth 100000 in
theorem prime_nat (m : Nat) (h2 : 2 ≤ m) (hm : m ≤ 4611686018427387904) (w : World) :
    Calls Try.prog 26 #[.int .i64 (m : Int)] w fun e w' => e = .returned (.bool (pr m)) ∧ w = w' := by
  go_enter Try.func26, Try.ntmps26
  have h2' : ¬ ((m : Int) < 2) := by omega
  go_wp2
  go_loop [3] (fun i => ∃ d : Nat, 2 ≤ d ∧ d ≤ m ∧ i = .int .i64 d ∧ Hid (∀ e, 2 ≤ e → e < d → m % e ≠ 0)) (fun i => m + 1 - (intOf i).toNat)
  case atStart => exact ⟨2, Nat.le_refl _, h2, rfl, Lib.hid (fun e a b => by omega)⟩
  case round =>
    obtain ⟨d, hd2, hdm, rfl, hno⟩ := hrel
    have hd0 : (0 : Int) < d := by omega
    obtain ⟨q, hqn⟩ : ∃ q, q = m / d := ⟨_, rfl⟩
    have hqe : (m : Int) / (d : Int) = (q : Int) := by rw [hqn]; exact (Int.natCast_ediv m d).symm
    have hqm : q ≤ m := by rw [hqn]; exact Nat.div_le_self m d
    have hiff : d ≤ q ↔ d * d ≤ m := by rw [hqn]; exact Nat.le_div_iff_mul_le (by omega)
    have HQ := Lib.hid hiff
    clear hiff hqn
    by_cases hq : d ≤ q
    · have hdd := HQ.out.1 hq
      have hlt : d + 1 ≤ m := by
        have : d * 2 ≤ d * d := Nat.mul_le_mul_left d hd2
        omega
      by_cases h0 : m % d = 0
      · have hz : (m : Int) % d = 0 := by rw [← Int.natCast_emod, h0]; rfl
        have hp := Lib.hid (pr_false hd2 hdd h0)
        clear h0 hdd
        go_wp2
        go_ret
        exact ⟨by rw [hp.out]; rfl, rfl⟩
      · have hz : ¬ ((m : Int) % d = 0) := by rw [← Int.natCast_emod]; intro h; exact h0 (by omega)
        have hn2 : Hid (∀ e, 2 ≤ e → e < d + 1 → m % e ≠ 0) := Lib.hid (fun e a b => by
          by_cases e1 : e = d
          · rw [e1]; exact h0
          · exact hno.out e a (by omega))
        clear h0 hdd hno
        go_wp2
        go_round
        case rel => exact ⟨d + 1, by omega, hlt, by go_num, hn2⟩
        case measure => simp [intOf]; omega
    · have hdd : ¬ d * d ≤ m := fun h => hq (HQ.out.2 h)
      have hp : Hid (pr m = true) := Lib.hid ((pr_iff m).2 ⟨h2, fun e a b => hno.out e a (by
        rcases Nat.lt_or_ge e d with h | h
        · exact h
        · have := Nat.mul_le_mul h h; omega)⟩)
      clear hdd hno
      go_wp2
      go_ret
      exact ⟨by rw [hp.out]; rfl, rfl⟩
set_option maxRecDepth 100000 in
theorem prime_eq (n : Int) (b : Bool) (hb : pr n.toNat = b) (hn : n ≤ 4611686018427387904) (hn2 : -9223372036854775808 ≤ n) (w : World) :
    Calls Try.prog 26 #[.int .i64 n] w fun e w' => e = .returned (.bool b) ∧ w = w' := by
  subst hb
  by_cases h2 : n < 2
  · have hp := Lib.hid (pr_small (show n.toNat < 2 by omega))
    go_enter Try.func26, Try.ntmps26
    go_wp2
    go_ret
    exact ⟨by rw [hp.out]; rfl, rfl⟩
  · have := prime_nat n.toNat (by omega) (by omega) w
    rwa [Int.toNat_of_nonneg (by omega)] at this

set_option maxRecDepth 100000 in
theorem refPrime_nat (m : Nat) (h2 : 2 ≤ m) (hm : m ≤ 1152921504606846976) (w : World) :
    Calls Try.prog 13 #[.int .i64 (m : Int)] w fun e w' => e = .returned (.bool (pr m)) ∧ w = w' := by
  go_enter Try.func13, Try.ntmps13
  have h2' : ¬ ((m : Int) < 2) := by omega
  go_wp2
  go_loop [3] (fun i => ∃ d : Nat, 2 ≤ d ∧ d ≤ m ∧ d ≤ 1073741825 ∧ i = .int .i64 d ∧ Hid (∀ e, 2 ≤ e → e < d → m % e ≠ 0)) (fun i => m + 1 - (intOf i).toNat)
  case atStart => exact ⟨2, Nat.le_refl _, h2, by omega, rfl, Lib.hid (fun e a b => by omega)⟩
  case round =>
    obtain ⟨d, hd2, hdm, hd3, rfl, hno⟩ := hrel
    have hd0 : (0 : Int) < d := by omega
    obtain ⟨s, hs⟩ : ∃ s, s = d * d := ⟨_, rfl⟩
    have hsi : (d : Int) * (d : Int) = (s : Int) := by rw [hs, Int.natCast_mul]
    have hsb : s ≤ 1152921506754330625 := by rw [hs]; exact Nat.mul_le_mul hd3 hd3
    by_cases hdd : s ≤ m
    · have hlt : d + 1 ≤ m := by
        have : d * 2 ≤ d * d := Nat.mul_le_mul_left d hd2
        omega
      have hd4 : d + 1 ≤ 1073741825 := by
        rcases Nat.lt_or_ge d 1073741825 with h | h
        · exact h
        · have := Nat.mul_le_mul h h; omega
      by_cases h0 : m % d = 0
      · have hz : (m : Int) % d = 0 := by rw [← Int.natCast_emod, h0]; rfl
        have hp := Lib.hid (pr_false hd2 (by rw [← hs]; exact hdd) h0)
        clear h0 hs
        go_wp2
        go_ret
        exact ⟨by rw [hp.out]; rfl, rfl⟩
      · have hz : ¬ ((m : Int) % d = 0) := by rw [← Int.natCast_emod]; intro h; exact h0 (by omega)
        have hn2 : Hid (∀ e, 2 ≤ e → e < d + 1 → m % e ≠ 0) := Lib.hid (fun e a b => by
          by_cases e1 : e = d
          · rw [e1]; exact h0
          · exact hno.out e a (by omega))
        clear h0 hs hno
        go_wp2
        go_round
        case rel => exact ⟨d + 1, by omega, hlt, hd4, by go_num, hn2⟩
        case measure => simp [intOf]; omega
    · have hp : Hid (pr m = true) := Lib.hid ((pr_iff m).2 ⟨h2, fun e a b => hno.out e a (by
        rcases Nat.lt_or_ge e d with h | h
        · exact h
        · have := Nat.mul_le_mul h h; omega)⟩)
      clear hs hno
      go_wp2
      go_ret
      exact ⟨by rw [hp.out]; rfl, rfl⟩
set_option maxRecDepth 100000 in
theorem refPrime_eq (n : Int) (b : Bool) (hb : pr n.toNat = b) (hn : n ≤ 1152921504606846976) (hn2 : -9223372036854775808 ≤ n) (w : World) :
    Calls Try.prog 13 #[.int .i64 n] w fun e w' => e = .returned (.bool b) ∧ w = w' := by
  subst hb
  by_cases h2 : n < 2
  · have hp := Lib.hid (pr_small (show n.toNat < 2 by omega))
    go_enter Try.func13, Try.ntmps13
    go_wp2
    go_ret
    exact ⟨by rw [hp.out]; rfl, rfl⟩
  · have := refPrime_nat n.toNat (by omega) (by omega) w
    rwa [Int.toNat_of_nonneg (by omega)] at this
end Go.Proofs.Ytaadpldijnegkaa
/-
  Chapter 16: the next prime, a choice, walked.
-/
namespace Go.Proofs.Ytaadpldijnegkaa
open Go.RowKit Go.Sort
set_option linter.unusedVariables false
set_option linter.unusedSimpArgs false

theorem nxt_hit {p : Nat} (h : p ≤ 65537) (hp : pr p = true) : nxt (65538 - p) p = p := by
  obtain ⟨f, hf⟩ : ∃ f, 65538 - p = f + 1 := ⟨65537 - p, by omega⟩
  rw [hf, nxt, if_pos hp]
theorem nxt_miss {p : Nat} (h : p ≤ 65537) (hp : pr p = false) : nxt (65538 - p) p = nxt (65538 - (p + 1)) (p + 1) := by
  obtain ⟨f, hf⟩ : ∃ f, 65538 - p = f + 1 := ⟨65537 - p, by omega⟩
  rw [hf, nxt, hp, show 65538 - (p + 1) = f by omega]
  rfl
theorem nxt_out {p : Nat} (h : ¬ p ≤ 65537) : nxt (65538 - p) p = 0 := by
  rw [show 65538 - p = 0 by omega]
  rfl

set_option maxHeartbeats 1000000 in
set_option maxRecDepth 100000 in
theorem refNext_any (n : Int) (h1 : -4611686018427387904 ≤ n) (h2 : n ≤ 4611686018427387904) (w : World) :
    Calls Try.prog 19 #[.int .i64 n] w fun e w' => e = .returned (.int .i64 ((nextP n : Nat) : Int)) ∧ w = w' := by
  have hl := low_le n
  obtain ⟨X, hX⟩ : ∃ X, X = nextP n := ⟨_, rfl⟩
  have hX0 : Hid (X = nxt (65538 - low n) (low n)) := Lib.hid hX
  rw [← hX]
  have hc : (n < 2 ∧ low n = 2) ∨ (2 ≤ n ∧ (low n : Int) = n) := by omega
  have hlb : low n ≤ 4611686018427387904 ∧ 2 ≤ low n := by omega
  clear hX hl
  generalize low n = p0 at *
  obtain ⟨hb1, hb2⟩ := hlb
  go_enter Try.func19, Try.ntmps19
  rcases hc with ⟨ha, rfl⟩ | ⟨ha, hb⟩
  all_goals
    (try subst hb)
    go_wp2_with fail
    go_loop [3] (fun i => ∃ p : Nat, 2 ≤ p ∧ p ≤ 4611686018427387904 ∧ i = .int .i64 p ∧ Hid (X = nxt (65538 - p) p)) (fun i => 65538 - (intOf i).toNat)
    case atStart => exact ⟨_, by omega, by omega, by go_num, hX0⟩
    case round =>
      obtain ⟨p, hp2, hpm, rfl, hX⟩ := hrel
      by_cases hle : p ≤ 65537
      · cases hp : pr p
        · have HP := Lib.hid (show pr (p : Int).toNat = false by simpa using hp)
          have HX := Lib.hid (hX.out.trans (nxt_miss hle hp))
          clear hp hX hX0
          go_wp2_with (go_at_call 13; go_must (refine (refPrime_eq _ _ HP.out (by omega) (by omega) _).mono ?_); rintro e w' ⟨rfl, rfl⟩)
          go_round
          case rel => exact ⟨p + 1, by omega, by omega, by go_num, HX⟩
          case measure => simp [intOf]; omega
        · have HP := Lib.hid (show pr (p : Int).toNat = true by simpa using hp)
          have HX := Lib.hid (hX.out.trans (nxt_hit hle hp))
          clear hp hX hX0
          go_wp2_with (go_at_call 13; go_must (refine (refPrime_eq _ _ HP.out (by omega) (by omega) _).mono ?_); rintro e w' ⟨rfl, rfl⟩)
          go_ret
          exact ⟨by rw [HX.out]; rfl, rfl⟩
      · have HX := Lib.hid (hX.out.trans (nxt_out hle))
        clear hX hX0
        go_wp2_with fail
        go_ret
        exact ⟨by rw [HX.out]; rfl, rfl⟩

set_option maxRecDepth 100000 in
theorem choice_any (off skip size i : Nat) (w : World) (ho : off < 65538) (hs : skip < 65538) (h0 : 0 < size) (h1 : size < 65538) (hi : i ≤ 4611686018427387904) :
    Calls Try.prog 55 #[.int .i64 off, .int .i64 skip, .int .i64 size, .int .i64 i] w fun e w' => e = .returned (.int .i64 ((choiceN off skip size i : Nat) : Int)) ∧ w = w' := by
  obtain ⟨r, hr⟩ : ∃ r, r = i % size := ⟨_, rfl⟩
  have hri : (i : Int) % (size : Int) = (r : Int) := by rw [hr, Int.natCast_emod]
  have hrl : r < size := by rw [hr]; exact Nat.mod_lt _ h0
  obtain ⟨q, hq⟩ : ∃ q, q = r * skip := ⟨_, rfl⟩
  have hqi : (r : Int) * (skip : Int) = (q : Int) := by rw [hq, Int.natCast_mul]
  have hqb : q ≤ 4295360521 := by
    rw [hq]
    have := Nat.mul_le_mul (show r ≤ 65538 by omega) (show skip ≤ 65538 by omega)
    omega
  obtain ⟨z, hz⟩ : ∃ z, z = (off + q) % size := ⟨_, rfl⟩
  have hzi : ((off : Int) + (q : Int)) % (size : Int) = (z : Int) := by rw [hz, Int.natCast_emod, Int.natCast_add]
  have hf : Hid (choiceN off skip size i = z) := Lib.hid (by unfold choiceN; rw [← hr, ← hq, hz])
  have hzl : z < size := by rw [hz]; exact Nat.mod_lt _ h0
  clear hr hq hz
  go_enter Try.func55, Try.ntmps55
  go_wp2_with fail
  go_ret
  exact ⟨by rw [hf.out, ← hzi]; rfl, rfl⟩
end Go.Proofs.Ytaadpldijnegkaa
/-
  Chapter 16: the offset and the skip, walked.
-/
namespace Go.Proofs.Ytaadpldijnegkaa
open Go.RowKit Go.Sort
set_option linter.unusedVariables false
set_option linter.unusedSimpArgs false

/-- the hash of a name and a tag -/
def tagN (kb : List UInt8) (s : ByteArray) (tag : UInt8) : Nat := sipN kb (s.data.toList ++ [tag])

set_option maxRecDepth 100000 in
set_option maxHeartbeats 1000000 in
theorem rest_any (kb : List UInt8) (hkb : kb.length = 16) (s : ByteArray) (hs : s.size ≤ 1000000) (tag : UInt8) (by_ : Nat) (hb0 : 0 < by_) (hb1 : by_ ≤ 65537) (g1 g2 : Nat) (w : World)
    (hr : w.rangeAt g1 0 (BV kb)) (hg1 : g1 < w.heap.size) (hc : w.cell? ⟨g2, 0, none⟩ = some (.string s)) :
    Calls Try.prog 38 #[.int .u8 (tag.toNat : Int), .int .i64 (by_ : Int), .pointer (some ⟨g1, 0, none⟩), .pointer (some ⟨g2, 0, none⟩)] w fun e w' => e = .returned (.int .i64 ((tagN kb s tag % by_ : Nat) : Int)) ∧ Below w.heap.size w w' := by
  have HR := Lib.hid hr
  have HB := Lib.hid (Below.refl w.heap.size w)
  have HI : Hid ((Try.prog.info? 22).map (·.size) = some (BV kb).length) := Lib.hid (by rw [BV_length, hkb]; kernel_rfl)
  have hsl : s.data.toList.length = s.size := Array.length_toList
  obtain ⟨X, hX⟩ : ∃ X : Nat, X = tagN kb s tag := ⟨_, rfl⟩
  have HX : Hid (((sipN kb (s.data.toList ++ [tag]) : Nat) : Int) = (X : Int)) := Lib.hid (by rw [hX]; rfl)
  have HL : Hid ((s.data.toList ++ [tag]).length ≤ 140737488351232) := Lib.hid (by rw [List.length_append, hsl]; simp; omega)
  obtain ⟨z, hz⟩ : ∃ z, z = X % by_ := ⟨_, rfl⟩
  have hzi : (X : Int) % (by_ : Int) = (z : Int) := by rw [hz, Int.natCast_emod]
  have hzl : z < by_ := by rw [hz]; exact Nat.mod_lt _ hb0
  have HF : Hid (tagN kb s tag % by_ = z) := Lib.hid (by rw [hz, hX])
  have hXb : X < 18446744073709551616 := by rw [hX]; exact xorN_lt _ _
  clear hr hX hz hsl
  go_enter Try.func38, Try.ntmps38
  go_wp2_with (first
    | ((with_reducible refine sl 7 ?_); go_must (refine wpL_load rfl 22 (.tmp 2) rfl g1 0 rfl (BV kb) _ HR.out Try.underlying22 rfl HI.out ?_); simp only [PT])
    | ((with_reducible refine sl 9 ?_); go_must (refine wpL_conv s Try.underlying9 Try.underlying62 Try.underlying5 (by omega) rfl (.tmp 8) rfl rfl ?_); intro c1 w1 hf1 hb1; have HF1 := Lib.hid hf1; have hE__ := cU HB bup hb1; replace HB := ck HB hE__; clear hE__; clear hf1 hb1; simp only [PT])
    | (go_at_call 39; go_must (refine (of_eq kb hkb _ 2 2 [(some ⟨w.heap.size, 0, none⟩, s.size, c1, s.data.toList), (some ⟨w1.heap.size, 0, none⟩, 1, 1, [tag])] _ (pts_at _ _ (by simp) (by rfl) rfl (by simp [maxLen]) (by intro p hp; simp only [List.mem_cons, List.not_mem_nil, or_false] at hp; rcases hp with rfl | rfl; exact (HF1.out.bs).below bup; exact one_at rfl tag (Below.refl _ _)) (Below.refl _ _)) (s.data.toList ++ [tag]) (by simp [flat]) HL.out _ HX.out).mono ?_); rintro e w6 ⟨rfl, hb6⟩; have hE__ := cU HB bup hb6; replace HB := ck HB hE__; clear hE__; clear hb6))
  go_ret
  exact ⟨by rw [HF.out, ← hzi]; rfl, HB.out⟩

def offN (kb : List UInt8) (s : ByteArray) (size : Nat) : Nat := tagN kb s 0 % size
def skipN (kb : List UInt8) (s : ByteArray) (size : Nat) : Nat := tagN kb s 1 % (size - 1) + 1

set_option maxRecDepth 100000 in
set_option maxHeartbeats 1000000 in
theorem permOf_any (kb : List UInt8) (hkb : kb.length = 16) (s : ByteArray) (hs : s.size ≤ 1000000) (size : Nat) (h2 : 2 ≤ size) (h3 : size ≤ 65537) (w : World) :
    Calls Try.prog 28 #[.agg (BV kb).toArray, .string s, .int .i64 (size : Int)] w fun e w' => e = .returned (.tuple #[.int .i64 ((offN kb s size : Nat) : Int), .int .i64 ((skipN kb s size : Nat) : Int)]) ∧ Below w.heap.size w w' := by
  obtain ⟨w1, hw1⟩ : ∃ w1, w1 = (w.alloc (.cells (BV kb).toArray 22)).alloc (.cells #[.string s] 9) := ⟨_, rfl⟩
  have HB := Lib.hid (show Below w.heap.size w w1 by rw [hw1]; exact bup)
  have HR := Lib.hid (show w1.rangeAt w.heap.size 0 (BV kb) by rw [hw1]; exact range_below (B := (w.alloc (.cells (BV kb).toArray 22)).heap.size) (range_last rfl) (by simp) bup)
  have HC := Lib.hid (show w1.cell? ⟨w.heap.size + 1, 0, none⟩ = some (.string s) by rw [hw1]; simp)
  have HZ := Lib.hid (show w1.heap.size = w.heap.size + 1 + 1 by rw [hw1]; simp)
  have HW := Lib.hid hw1
  have HB1 := Lib.hid (Below.refl w1.heap.size w1)
  obtain ⟨A, hA⟩ : ∃ A, A = offN kb s size := ⟨_, rfl⟩
  obtain ⟨B, hB⟩ : ∃ B, B = tagN kb s 1 % (size - 1) := ⟨_, rfl⟩
  have hB0 : Hid (skipN kb s size = B + 1) := Lib.hid (by rw [hB]; rfl)
  have hBl : B < size - 1 := by rw [hB]; exact Nat.mod_lt _ (by omega)
  have HA := Lib.hid hA
  have HBB := Lib.hid hB
  have hsz1 : (size : Int) - 1 = ((size - 1 : Nat) : Int) := by omega
  rw [← hA]
  have T1 : True := trivial
  clear hw1 hA hB
  go_enter Try.func28, Try.ntmps28
  go_wp2_with (first
    | (go_at_call 38; have t1 := T1; clear t1 T1; (try rw [← HW.out]); go_must (refine (rest_any kb hkb s hs 0 size (by omega) (by omega) w.heap.size (w.heap.size + 1) _ HR.out (by have := HZ.out; omega) HC.out).mono ?_); rintro e w6 ⟨he, hb6⟩; rw [show tagN kb s 0 % size = offN kb s size from rfl, ← HA.out] at he; subst he; have hE__ := cU HB1 bup hb6; replace HB1 := ck HB1 hE__; clear hE__; clear hb6)
    | (go_at_call 38; go_must (refine (rest_any kb hkb s hs 1 (size - 1) (by omega) (by omega) w.heap.size (w.heap.size + 1) _ (range_below HR.out (by have := HZ.out; omega) HB1.out) (by have := HZ.out; have := HB1.out.size; omega) ((HB1.out.cell (p := ⟨w.heap.size + 1, 0, none⟩) (by have := HZ.out; show w.heap.size + 1 < _; omega)).trans HC.out)).mono ?_); rintro e w6 ⟨he, hb6⟩; rw [← HBB.out] at he; subst he; have hE__ := cU HB1 bup hb6; replace HB1 := ck HB1 hE__; clear hE__; clear hb6))
  go_ret2
  exact ⟨by rw [hB0.out]; rfl, HB.out.trans (HB1.out.mono HB.out.size)⟩
end Go.Proofs.Ytaadpldijnegkaa
