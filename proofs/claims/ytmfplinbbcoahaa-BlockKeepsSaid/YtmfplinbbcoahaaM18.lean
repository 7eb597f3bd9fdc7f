/-
  Joined by program (merge.py): Fld4, LawKit, Awake26.
-/
import Derived.Test.YtmfplinbbcoahaaM13
import Derived.Test.YtmfplinbbcoahaaM17
/-
  Laws for drawn regions: an operation whose run is known; empty literals.
-/
namespace Go.Proofs.Ytmfplinbbcoahaa
open Go.RowKit Go.Sort
set_option linter.unusedVariables false

theorem step_run2 {P : Program} {ops : Array Oper} {o : Oper} {a : Act} {w w' : World} {K : Act → World → Prop} {Q : Exit → Act → World → Prop} {E : Prop} (hgd : Region.wanted o (yielded ops a.tmps) = true) {v : Value}
    (hrun : (execOp a.eval o).run P w = .ok (.value v) w') (h : K (a.put o.dst v) w') : if Region.wanted o (yielded ops a.tmps) = true then Oper.wp P o a w K Q else E := by
  rw [if_pos hgd]
  unfold Oper.wp
  rw [hrun]
  exact h
theorem run_lit0 {o : Oper} {a : Act} {w : World} (ho : o.op = .buildSlice 24 0 #[]) : (execOp a.eval o).run Try.prog w = .ok (.value (.slice (some ⟨w.heap.size, 0, none⟩) 0 0)) (w.alloc (.cells #[] 5)) := by
  obtain ⟨i, hi, hz, hsize, hby⟩ := info_parts elB.info
  have e : (Array.range 0).map (fun _ : Nat => (default : Value)) = #[] := by simp
  simp [execOp, ho, Instr.buildSlice, run_underlying Try.underlying24, sizeOf, typeInfo, hi, newRow, Instr.fill, e]
theorem step_lit0 {ops : Array Oper} {o : Oper} {a : Act} {w : World} {K : Act → World → Prop} {Q : Exit → Act → World → Prop} {E : Prop} (hgd : o.guard = none) (ho : o.op = .buildSlice 24 0 #[])
    (h : ∀ w1 g, w1.ownsRow w.heap.size 5 1 (.slice (some ⟨g, 0, none⟩) ([] : List UInt8).length 0) ([] : List UInt8).length (BV []) → Below w.heap.size w w1 → K (a.put o.dst (.slice (some ⟨g, 0, none⟩) 0 0)) w1) :
    if Region.wanted o (yielded ops a.tmps) = true then Oper.wp Try.prog o a w K Q else E := by
  have hown := World.ownsRow_lit (size := 1) (base := w.heap.size) (e := 5) w #[] 0 (Nat.le_refl _) (by simp [maxLen]) rfl
  exact step_run2 (by simp [Region.wanted, hgd]) (run_lit0 ho) (h _ _ hown ((Below.refl _ _).alloc (Nat.le_refl _) _))
/-- a literal of numbers, by its block -/
theorem wpL_litN {P : Program} {w : World} {ops : Array Oper} {rest : List Oper} {o : Oper} {a : Act} {Q : Exit → Act → World → Prop} (hg : o.guard = none) (t e : TypeId) (len : Nat) (parts : Array (Nat × Operand)) (ho : o.op = .buildSlice t len parts)
    (k : IntKind) (zs : List Int) (hu : P.underlying t = some (.slice e)) (hsz : (P.info? e).map (·.size) = some 1) (hz : ((P.info? e).bind (·.zero)).isSome = true)
    (hlen : len = zs.length) (hpos : 0 < len) (hsmall : len ≤ 2 ^ 24)
    (hparts : parts.toList = (zs.zipIdx 0).map fun x => (x.2, Operand.const (Value.int k x.1)))
    (h : ∀ w1 g, w.heap.size ≤ g → w1.heap[g]? = some (.cells (zs.map (Value.int k)).toArray e (0, 0)) → Below w.heap.size w w1 → wpList P ops Q rest (a.put o.dst (.slice (some ⟨g, 0, none⟩) len len)) w1) : wpList P ops Q (o :: rest) a w :=
  wpList_buildFlat hg t e len parts ho k zs hu hsz hz hlen hpos hsmall hparts (h _ _ (Nat.le_refl _) (heap_alloc_last w _) ((Below.refl _ _).alloc (Nat.le_refl _) _))
end Go.Proofs.Ytmfplinbbcoahaa
/-
  Chapter 26: what the laws' walks share: Get of whatever length, blocks carried, a variable laid with its value.
-/
namespace Go.Proofs.Ytmfplinbbcoahaa
open Go.RowKit Go.Sort
set_option linter.unusedVariables false
set_option linter.unusedSimpArgs false

theorem cY1 {w w' : World} {v : BlkV} (h : Hid (Blk w v)) (hE : Below w.heap.size w w') : Hid (Blk w' v) := Lib.hid (h.out.below hE)
/-- a struct variable laid with its value: 'x := y' -/
theorem wpL_newN {P : Program} {w : World} {ops : Array Oper} {rest : List Oper} {o1 o2 : Oper} {a : Act} {Q : Exit → Act → World → Prop} (hg1 : o1.guard = none) (hg2 : o2.guard = none) (T : TypeId) (ho1 : o1.op = .alloc T) (x y : Operand) (ho2 : o2.op = .store T x y)
    (cs zs : Array Value) (hi : (P.info? T).map (fun i => (i.zero, i.size)) = some (some (.agg zs), cs.size)) (hz : zs.size = cs.size) (h1 : cs.all (·.oneCell') = true)
    (hx : ∀ p, (a.put o1.dst p).eval x = p) (hy : ∀ p, (a.put o1.dst p).eval y = .agg cs)
    (h : ∀ w1 g, w.heap.size ≤ g → g < w1.heap.size → w1.heap[g]? = some (.cells cs T (0, 0)) → Below w.heap.size w w1 → wpList P ops Q rest ((a.put o1.dst (.pointer (some ⟨g, 0, none⟩))).put o2.dst undef) w1) :
    wpList P ops Q (o1 :: o2 :: rest) a w :=
  wpL_newR hg1 hg2 T ho1 x y ho2 cs zs hi hz h1 hx hy fun w1 hg hb => h w1 _ (Nat.le_refl _) (lt_of_block hg) hg hb
theorem blkGet_any (ad : Option Addr) (n c : Nat) (l : List UInt8) (big : Bool) (w : World) (hs : Bs w ad n c l) (hn : n ≤ 1000000000) :
    Calls Try.prog 26 #[.slice ad n c, .bool big] w (GetR (getP big l) w) := by
  by_cases h : n < 12
  · exact get_short ad n c l big w hs hn h
  · exact get_long ad n c l big w hs hn (by omega)
/-- the answers by parts -/
theorem blkGet_at (X : PB) (N : Nat) (E : Int) (ad : Option Addr) (n c : Nat) (l : List UInt8) (big : Bool) (hX : getP big l = (X, N, E)) (w : World) (hs : Bs w ad n c l) (hn : n ≤ 1000000000) :
    Calls Try.prog 26 #[.slice ad n c, .bool big] w fun e w' => ∃ v, e = .returned (.tuple #[.agg v.cells.toArray, .int .i64 (N : Int), .int .i64 E]) ∧ v.val = X ∧ OwnBlk w.heap.size w' v ∧ Below w.heap.size w w' := by
  have := blkGet_any ad n c l big w hs hn
  rw [hX] at this
  exact this
/-- a right block laid; its bytes by name -/
theorem blkPut_right (L : List UInt8) (v : BlkV) (big : Bool) (hL : L = bytesB big v.val) (hr : rightP v.val = true) (w : World) (hv : Blk w v) (hf : SmB v) (hw : wfB v.val) :
    Calls Try.prog 23 #[.agg v.cells.toArray, .bool big] w fun e w' => ∃ ad c, e = .returned (.tuple #[.slice ad L.length c, .int .i64 0]) ∧ w'.ownsRow w.heap.size 5 1 (.slice ad L.length c) L.length (BV L) ∧ Below w.heap.size w w' := by
  subst hL
  refine (blkPut_any v big w hv hf hw).mono fun e w' ⟨hb, h⟩ => ?_
  rcases h with ⟨h, _⟩ | ⟨_, h, _⟩ | ⟨_, ad, c, he, ho⟩
  · simp [rightP, h] at hr
  · simp [rightP, h] at hr
  · exact ⟨ad, c, he, ho, hb⟩
/-- a block that isn't right, and why -/
def whyP (x : PB) : Int := if mayP x then 4 else 1
theorem blkPut_wrong (v : BlkV) (big : Bool) (hr : rightP v.val = false) (w : World) (hv : Blk w v) (hf : SmB v) (hw : wfB v.val) :
    Calls Try.prog 23 #[.agg v.cells.toArray, .bool big] w fun e w' => e = .returned (.tuple #[.slice none 0 0, .int .i64 (whyP v.val)]) ∧ Below w.heap.size w w' := by
  refine (blkPut_any v big w hv hf hw).mono fun e w' ⟨hb, h⟩ => ?_
  rcases h with ⟨h, rfl⟩ | ⟨h, _, rfl⟩ | ⟨h, _⟩
  · simp only [whyP, h]; exact ⟨rfl, hb⟩
  · simp only [whyP, h]; exact ⟨rfl, hb⟩
  · rw [hr] at h; cases h
theorem SmB.of_size {w : World} {v : BlkV} (hv : Blk w v) (h : mayP v.val = true) (hs : sizeB v.val ≤ 70420) : SmB v := by
  obtain ⟨h1, h2, h3⟩ := size_parts v.val h
  have hl := hv.lens.1
  exact ⟨Nat.le_trans h1 hs, Nat.le_trans h2 hs, by rw [hl]; exact Nat.le_trans h3 (by omega)⟩
theorem blkSame_at (B : Bool) (v u : BlkV) (hB : sameP v.val u.val = B) (w : World) (hv : Blk w v) (hu : Blk w u) :
    Calls Try.prog 21 #[.agg v.cells.toArray, .agg u.cells.toArray] w fun e w' => e = .returned (.bool B) ∧ Below w.heap.size w w' := by
  have := blkSame_any v u w hv hu
  rwa [hB] at this
theorem refBSame_at (B : Bool) (v u : BlkV) (hB : sameP v.val u.val = B) (w : World) (hv : Blk w v) (hu : Blk w u) :
    Calls Try.prog 22 #[.agg v.cells.toArray, .agg u.cells.toArray] w fun e w' => e = .returned (.bool B) ∧ Below w.heap.size w w' := by
  have := refBlkSame_any v u w hv hu
  rwa [hB] at this
theorem blkRight_at (B : Bool) (v : BlkV) (hB : rightP v.val = B) (w : World) (hv : Blk w v) (hf : SmB v) (hl : wfB v.val) :
    Calls Try.prog 19 #[.agg v.cells.toArray] w fun e w' => e = .returned (.bool B) ∧ Below w.heap.size w w' := by
  have := blkRight_any v w hv hf hl.2.2.2
  rwa [hB] at this
theorem few_at (B : Bool) (v : BlkV) (hB : fewB v = B) (w : World) (hv : Blk w v) :
    Calls Try.prog 18 #[.agg v.cells.toArray] w fun e w' => e = .returned (.bool B) ∧ Below w.heap.size w w' := by
  have := blkFew_any v w hv
  rwa [hB] at this
theorem step_str {P : Program} {w : World} {ops : Array Oper} {o : Oper} {a : Act} {K : Act → World → Prop} {Q : Exit → Act → World → Prop} {E : Prop} {src dst e : TypeId} (hs : P.underlying src = some (.slice e)) (he : P.underlying e = some (.int .u8)) (hd : P.underlying dst = some .string)
    (hg : Region.wanted o (yielded ops a.tmps) = true) (x : Operand) (hop : o.op = Op.convert src dst x) {ad : Option Addr} {n c : Nat} {l : List UInt8} (hx : a.eval x = .slice ad n c) (hb : Bs w ad n c l)
    (h : K (a.put o.dst (.string (strOf l))) w) : if Region.wanted o (yielded ops a.tmps) = true then Oper.wp P o a w K Q else E := by
  refine step_run2 hg ?_ h
  simp only [execOp, hop, hx, Sem.run_bind, run_str hs he hd hb, Result.andThen_ok, Sem.run_pure]
theorem blkPut_rightS (L : List UInt8) (S : Nat) (v : BlkV) (big : Bool) (hL : L = bytesB big v.val) (hS : L.length = S) (hr : rightP v.val = true) (w : World) (hv : Blk w v) (hf : SmB v) (hw : wfB v.val) :
    Calls Try.prog 23 #[.agg v.cells.toArray, .bool big] w fun e w' => ∃ ad c, e = .returned (.tuple #[.slice ad S c, .int .i64 0]) ∧ w'.ownsRow w.heap.size 5 1 (.slice ad S c) S (BV L) ∧ Below w.heap.size w w' := by
  have := blkPut_right L v big hL hr w hv hf hw
  rwa [hS] at this
theorem own_some {w : World} {base : Nat} {e : TypeId} {size : Nat} {ad : Option Addr} {n c : Nat} {xs : List Value} (h : w.ownsRow base e size (.slice ad n c) n xs) (hn : 0 < n) : ∃ g, ad = some ⟨g, 0, none⟩ ∧ base ≤ g ∧ g < w.heap.size := by
  rcases own_form h with ⟨_, h0, _⟩ | ⟨g, h1, h2, h3⟩
  · omega
  · exact ⟨g, h1, h2, h3⟩
/-- a cell, loaded -/
theorem wpL_loadC {P : Program} {ops : Array Oper} {rest : List Oper} {o : Oper} {a : Act} {w : World} {Q : Exit → Act → World → Prop} (hgd : Region.wanted o (yielded ops a.tmps) = true) (ty : TypeId) (x : Operand) (ho : o.op = .load ty x)
    (g k : Nat) (hx : a.eval x = .pointer (some ⟨g, k, none⟩)) (v : Value) (hc : w.cell? ⟨g, k, none⟩ = some v) {d : TypeDesc} (hu : P.underlying ty = some d) (hd : d.isRow = false)
    (h : wpList P ops Q rest (a.put o.dst v) w) : wpList P ops Q (o :: rest) a w := by
  refine wpL_run hgd ?_ h
  have hagg : (isAgg ty).run P w = .ok false w := by
    unfold isAgg
    rw [Sem.run_bind, run_underlying hu w]
    cases d <;> simp_all
  unfold execOp
  simp [ho, hx, Instr.loadAt, Instr.sureAddr, Sem.run_bind, Sem.run_pure, Result.andThen_ok, loadVar, hagg, load, Sem.run, hc]
/-- a byte of the call's own row, stored -/
theorem wpL_storeB {P : Program} {ops : Array Oper} {rest : List Oper} {o : Oper} {a : Act} {w : World} {Q : Exit → Act → World → Prop} (hgd : o.guard = none) (ty : TypeId) (x y : Operand) (ho : o.op = .store ty x y)
    {base : Nat} {e : TypeId} {g n c : Nat} {L : List UInt8} (hown : w.ownsRow base e 1 (.slice (some ⟨g, 0, none⟩) n c) n (BV L)) (i : Nat) (hi : i < n) (b : UInt8) (hx : a.eval x = .pointer (some ⟨g, i, none⟩)) (hy : a.eval y = .int .u8 (b.toNat : Int)) (hif : (P.info? ty).map (·.size) = some 1)
    (h : ∀ w1, w1.ownsRow base e 1 (.slice (some ⟨g, 0, none⟩) n c) n (BV (L.set i b)) → w.grownBy w1 (some g) → wpList P ops Q rest (a.put o.dst undef) w1) : wpList P ops Q (o :: rest) a w := by
  have hcell := own_cell hown hi
  have hz := hown.frozenAt i
  obtain ⟨o2, g2⟩ := own_store hown i b
  refine wpList_plain hgd fun _ hK => ?_
  have hrun := run_storeCells_cells (P := P) g i [.int .u8 (b.toNat : Int)] 0 w (fun j hj => by
      have : j = 0 := by simpa using hj
      subst this
      simp [hcell]) (fun j hj => by
      have : j = 0 := by simpa using hj
      subst this
      simpa using hz) (fun u hu => by simp at hu; subst hu; rfl)
  cases hq : P.info? ty with
  | none => simp [hq] at hif
  | some q =>
    have hs : q.size = 1 := by simpa [hq] using hif
    simp only [Nat.add_zero] at hrun
    have hst : (Instr.storeAt ty (.pointer (some ⟨g, i, none⟩)) (.int .u8 (b.toNat : Int))).run P w = .ok () (w.setCell ⟨g, i, none⟩ (.int .u8 (b.toNat : Int))) := by
      simp [Instr.storeAt, Instr.sureAddr, storeVar, sizeOf, typeInfo, hq, Value.cells, hs, hrun, World.setCells]
    unfold Oper.wp execOp
    simp only [ho, hx, hy, Sem.run_bind, Sem.run_pure, Result.andThen_ok, hst]
    exact hK _ _ (h _ o2 g2)
theorem xor_any (b c : UInt8) : bits BinOp.xor .u8 ((b.toNat : Nat) : Int) ((c.toNat : Nat) : Int) = ((b ^^^ c).toNat : Int) := by
  have hb := b.toNat_lt
  have hc := c.toNat_lt
  show IntKind.u8.wrap ((BitVec.ofInt 8 ((b.toNat : Nat) : Int) ^^^ BitVec.ofInt 8 ((c.toNat : Nat) : Int)).toNat : Int) = _
  rw [BitVec.toNat_xor, UInt8.toNat_xor]
  have e1 : (BitVec.ofInt 8 ((b.toNat : Nat) : Int)).toNat = b.toNat := by rw [BitVec.toNat_ofInt]; show (((b.toNat : Nat) : Int) % 256).toNat = _; omega
  have e2 : (BitVec.ofInt 8 ((c.toNat : Nat) : Int)).toNat = c.toNat := by rw [BitVec.toNat_ofInt]; show (((c.toNat : Nat) : Int) % 256).toNat = _; omega
  rw [e1, e2]
  have : b.toNat ^^^ c.toNat < 256 := Nat.xor_lt_two_pow (n := 8) hb hc
  rw [IntKind.wrap_u8]
  show ((b.toNat ^^^ c.toNat : Nat) : Int) % 256 = ((b.toNat ^^^ c.toNat : Nat) : Int)
  omega
theorem xor_ne (b c : UInt8) (h : c ≠ 0) : b ^^^ c ≠ b := by
  intro e
  apply h
  have e2 : b ^^^ (b ^^^ c) = b ^^^ b := by rw [e]
  rwa [← UInt8.xor_assoc, UInt8.xor_self, UInt8.zero_xor] at e2
end Go.Proofs.Ytmfplinbbcoahaa
/-
  Chapter 26: the answers that the document fixes, walked (by gen26a.py).
-/
namespace Go.Proofs.Ytmfplinbbcoahaa
open Go.RowKit Go.Sort
set_option linter.unusedVariables false
set_option linter.unusedSimpArgs false

def xV : BlkV := ⟨2, false, 0, 1, 0, 0, 0, 0, none, 0, 0, [], none, 0, 0, [], none, 0, 0, []⟩
def sV : BlkV := ⟨1, true, 0, 0, 0, 0, 0, 0, none, 0, 0, [], none, 0, 0, [], none, 0, 0, []⟩
def eV : BlkV := ⟨8, false, 0, 0, 0, 0, 0, 0, none, 0, 0, [], none, 0, 0, [], none, 0, 0, []⟩
def b1 : List UInt8 := [1, 0, 0, 0, 20, 0, 0, 0, 1, 0, 0, 0, 0, 0, 0, 0, 20, 0, 0, 0]
def b2 : List UInt8 := [10, 13, 13, 10, 0, 0, 0, 28, 26, 43, 60, 77, 0, 1, 0, 0, 255, 255, 255, 255, 255, 255, 255, 255, 0, 0, 0, 28]
theorem blk_none (w : World) (v : BlkV) (h1 : (⟨v.dad, v.dn, v.dc, v.dl⟩ : Option Addr × Nat × Nat × List UInt8) = ⟨none, 0, 0, []⟩) (h2 : (⟨v.nad, v.nn, v.nc, v.ns⟩ : Option Addr × Nat × Nat × List OptV) = ⟨none, 0, 0, []⟩) (h3 : (⟨v.oad, v.on, v.oc, v.os⟩ : Option Addr × Nat × Nat × List OptV) = ⟨none, 0, 0, []⟩) : Blk w v := by
  simp only [Prod.mk.injEq] at h1 h2 h3
  obtain ⟨a1, a2, a3, a4⟩ := h1
  obtain ⟨e1, e2, e3, e4⟩ := h2
  obtain ⟨f1, f2, f3, f4⟩ := h3
  refine ⟨?_, ?_, ?_⟩
  · rw [a1, a2, a3, a4]; exact Sl.nil _ _
  · rw [e1, e2, e3, e4]; exact ⟨Sl.nil _ _, fun o ho => by cases ho⟩
  · rw [f1, f2, f3, f4]; exact ⟨Sl.nil _ _, fun o ho => by cases ho⟩
theorem smNone : SmB noneV := ⟨by decide⟩
theorem smX : SmB xV := ⟨by decide⟩
theorem smS : SmB sV := ⟨by decide⟩
theorem smE : SmB eV := ⟨by decide⟩
theorem wfNone : wfB noneV.val := ⟨by decide, by decide, by decide, by decide⟩
theorem wfX : wfB xV.val := ⟨by decide, by decide, by decide, by decide⟩
theorem wfS : wfB sV.val := ⟨by decide, by decide, by decide, by decide⟩
theorem wfE : wfB eV.val := ⟨by decide, by decide, by decide, by decide⟩
theorem kPut1 : b1 = bytesB false xV.val := by decide +kernel
theorem kPut2 : b2 = bytesB false sV.val := by decide +kernel
theorem kGet1 : getP false b1 = (xV.val, 20, 0) := by kernel_rfl
theorem kGet2 : getP false (b1.take 11) = (noneB, 0, 2) := by kernel_rfl
theorem kGet3 : getP false b2 = (sV.val, 28, 0) := by kernel_rfl
theorem awPut1 (w : World) : Calls Try.prog 23 #[.agg xV.cells.toArray, .bool false] w fun e w' => ∃ ad c, e = .returned (.tuple #[.slice ad 20 c, .int .i64 0]) ∧ Bs w' ad 20 c b1 ∧ Below w.heap.size w w' :=
  (blkPut_right b1 xV false kPut1 (by rfl) w (blk_none _ _ rfl rfl rfl) smX wfX).mono fun e w' ⟨ad, c, h1, h2, h3⟩ => ⟨ad, c, h1, Bs.of_own h2, h3⟩
theorem awPut2 (w : World) : Calls Try.prog 23 #[.agg sV.cells.toArray, .bool false] w fun e w' => ∃ ad c, e = .returned (.tuple #[.slice ad 28 c, .int .i64 0]) ∧ Bs w' ad 28 c b2 ∧ Below w.heap.size w w' :=
  (blkPut_right b2 sV false kPut2 (by rfl) w (blk_none _ _ rfl rfl rfl) smS wfS).mono fun e w' ⟨ad, c, h1, h2, h3⟩ => ⟨ad, c, h1, Bs.of_own h2, h3⟩

set_option maxRecDepth 100000 in
set_option maxHeartbeats 16000000 in
theorem blkAwake_any (w : World) : Calls Try.prog 17 #[] w fun e w' => e = .returned (.bool true) ∧ Below w.heap.size w w' := by
  have HB := Lib.hid (Below.refl w.heap.size w)
  have HBI := Lib.hid blk_info
  have HZI := Lib.hid zero_info
  go_enter Try.func17, Try.ntmps17
  go_wp2_with (first
    | ((with_reducible refine sl 1 ?_); go_must (refine wpL_newN rfl rfl 27 rfl (.tmp 1) (.tmp 18) rfl (xV.cells).toArray _ HZI.out rfl (bcells_all _) (fun _ => rfl) (fun _ => rfl) ?_); intro wn1 g1 le_g1 lt_g1 hg__ hb__; have HG1 := Lib.hid hg__; have hE__ := cU HB bup hb__; replace HB := ck HB hE__; clear hE__; clear hg__ hb__; simp only [PT])
    | ((with_reducible refine sl 20 ?_); go_must (refine wpL_load rfl 27 (.tmp 1) rfl g1 0 rfl (xV.cells) _ (range_block HG1.out) Try.underlying27 rfl HBI.out ?_); simp only [PT])
    | (go_at_call 23; (with_reducible show Calls _ _ #[Value.agg xV.cells.toArray, _] _ _); go_must (refine (awPut1 _).mono ?_); intro e wc1 hr; obtain ⟨ad1, c1, rfl, ho__, hb__⟩ := hr; have H1 := Lib.hid ho__; clear ho__; have hE__ := cU HB bup hb__; replace HB := ck HB hE__; replace HG1 := ck HG1 hE__; clear hE__; clear hb__)
    | (go_at_call 26; (with_reducible show Calls _ _ #[Value.slice ad1 20 _, _] _ _); go_must (refine (blkGet_at xV.val 20 0 ad1 20 c1 b1 false kGet1 _ (H1.out.below bup) (by omega)).mono ?_); intro e wc2 hr; obtain ⟨v1, rfl, hv__, ho__, hb__⟩ := hr; have HY1 := Lib.hid ho__.blk; have HV1 := Lib.hid hv__; clear ho__ hv__; have hE__ := cU HB bup hb__; replace HB := ck HB hE__; replace HG1 := ck HG1 hE__; replace H1 := ck H1 hE__; clear hE__; clear hb__)
    | ((with_reducible refine sl 4 ?_); go_must (refine wpL_newN rfl rfl 27 rfl (.tmp 4) (.tmp 27) rfl (v1.cells).toArray _ HZI.out rfl (bcells_all _) (fun _ => rfl) (fun _ => rfl) ?_); intro wn4 g4 le_g4 lt_g4 hg__ hb__; have HG4 := Lib.hid hg__; have hE__ := cU HB bup hb__; replace HB := ck HB hE__; replace HG1 := ck HG1 hE__; replace H1 := ck H1 hE__; replace HY1 := ck HY1 hE__; clear hE__; clear hg__ hb__; simp only [PT])
    | (go_at_call 23; (with_reducible show Calls _ _ #[Value.agg #[_, _, _, _, _, _, _, _, _, _, _], _] _ _); go_must (refine (blkPut_wrong noneV false (by rfl) _ (blk_none _ _ rfl rfl rfl) smNone wfNone).mono ?_); intro e wc3 hr; obtain ⟨rfl, hb__⟩ := hr; have hE__ := cU HB bup hb__; replace HB := ck HB hE__; replace HG1 := ck HG1 hE__; replace H1 := ck H1 hE__; replace HY1 := ck HY1 hE__; replace HG4 := ck HG4 hE__; clear hE__; clear hb__)
    | ((with_reducible refine sl 40 ?_); go_must (refine wpL_sliceG elB rfl (.tmp 36) none (some (.tmp 39)) rfl rfl 0 11 (.inl ⟨rfl, rfl⟩) (.inr ⟨.i64, rfl⟩) (by omega) (by have := H1.out.le; omega) 11 c1 rfl rfl ?_); intro ad40 had; have H40 := Lib.hid (Bs.partG H1.out 0 11 11 c1 (by omega) (by omega) rfl rfl ad40 had (b1.take 11) rfl); clear had; simp only [PT])
    | (go_at_call 26; (with_reducible show Calls _ _ #[Value.slice ad40 _ _, _] _ _); go_must (refine (blkGet_at noneB 0 2 ad40 11 c1 (b1.take 11) false kGet2 _ (H40.out.below bup) (by omega)).mono ?_); intro e wc4 hr; obtain ⟨v2, rfl, hv__, ho__, hb__⟩ := hr; clear ho__ hv__; have hE__ := cU HB bup hb__; replace HB := ck HB hE__; replace HG1 := ck HG1 hE__; replace H1 := ck H1 hE__; replace HY1 := ck HY1 hE__; replace HG4 := ck HG4 hE__; clear hE__; clear hb__)
    | ((with_reducible refine sl 9 ?_); go_must (refine wpL_newN rfl rfl 27 rfl (.tmp 9) (.tmp 42) rfl (v2.cells).toArray _ HZI.out rfl (bcells_all _) (fun _ => rfl) (fun _ => rfl) ?_); intro wn9 g9 le_g9 lt_g9 hg__ hb__; have HG9 := Lib.hid hg__; have hE__ := cU HB bup hb__; replace HB := ck HB hE__; replace HG1 := ck HG1 hE__; replace H1 := ck H1 hE__; replace HY1 := ck HY1 hE__; replace HG4 := ck HG4 hE__; clear hE__; clear hg__ hb__; simp only [PT])
    | ((with_reducible refine sl 12 ?_); go_must (refine wpL_newN rfl rfl 27 rfl (.tmp 12) (.tmp 45) rfl (sV.cells).toArray _ HZI.out rfl (bcells_all _) (fun _ => rfl) (fun _ => rfl) ?_); intro wn12 g12 le_g12 lt_g12 hg__ hb__; have HG12 := Lib.hid hg__; have hE__ := cU HB bup hb__; replace HB := ck HB hE__; replace HG1 := ck HG1 hE__; replace H1 := ck H1 hE__; replace HY1 := ck HY1 hE__; replace HG4 := ck HG4 hE__; clear hE__; clear hg__ hb__; simp only [PT])
    | ((with_reducible refine sl 47 ?_); go_must (refine wpL_load rfl 27 (.tmp 12) rfl g12 0 rfl (sV.cells) _ (range_block HG12.out) Try.underlying27 rfl HBI.out ?_); simp only [PT])
    | (go_at_call 23; (with_reducible show Calls _ _ #[Value.agg sV.cells.toArray, _] _ _); go_must (refine (awPut2 _).mono ?_); intro e wc5 hr; obtain ⟨ad3, c3, rfl, ho__, hb__⟩ := hr; have H3 := Lib.hid ho__; clear ho__; have hE__ := cU HB bup hb__; replace HB := ck HB hE__; replace HG1 := ck HG1 hE__; replace H1 := ck H1 hE__; replace HY1 := ck HY1 hE__; replace HG4 := ck HG4 hE__; replace HG12 := ck HG12 hE__; clear hE__; clear hb__)
    | (go_at_call 26; (with_reducible show Calls _ _ #[Value.slice ad3 28 _, _] _ _); go_must (refine (blkGet_at sV.val 28 0 ad3 28 c3 b2 false kGet3 _ (H3.out.below bup) (by omega)).mono ?_); intro e wc6 hr; obtain ⟨v3, rfl, hv__, ho__, hb__⟩ := hr; have HY3 := Lib.hid ho__.blk; have HV3 := Lib.hid hv__; clear ho__ hv__; have hE__ := cU HB bup hb__; replace HB := ck HB hE__; replace HG1 := ck HG1 hE__; replace H1 := ck H1 hE__; replace HY1 := ck HY1 hE__; replace HG4 := ck HG4 hE__; replace HG12 := ck HG12 hE__; clear hE__; clear hb__)
    | ((with_reducible refine sl 15 ?_); go_must (refine wpL_newN rfl rfl 27 rfl (.tmp 15) (.tmp 54) rfl (v3.cells).toArray _ HZI.out rfl (bcells_all _) (fun _ => rfl) (fun _ => rfl) ?_); intro wn15 g15 le_g15 lt_g15 hg__ hb__; have HG15 := Lib.hid hg__; have hE__ := cU HB bup hb__; replace HB := ck HB hE__; replace HG1 := ck HG1 hE__; replace H1 := ck H1 hE__; replace HY1 := ck HY1 hE__; replace HG4 := ck HG4 hE__; replace HG12 := ck HG12 hE__; replace HY3 := ck HY3 hE__; clear hE__; clear hg__ hb__; simp only [PT])
    | ((with_reducible refine sl 61 ?_); go_must (refine wpL_str elB.1 (by kernel_rfl) (by kernel_rfl) rfl (.tmp 60) rfl rfl (H1.out.below bup) ?_); rw [show strOf b1 = ⟨#[1, 0, 0, 0, 20, 0, 0, 0, 1, 0, 0, 0, 0, 0, 0, 0, 20, 0, 0, 0]⟩ from rfl]; simp only [PT])
    | ((with_reducible refine sl 73 ?_); go_must (refine wpL_load rfl 27 (.tmp 1) rfl g1 0 rfl (xV.cells) _ (range_block HG1.out) Try.underlying27 rfl HBI.out ?_); simp only [PT])
    | ((with_reducible refine sl 74 ?_); go_must (refine wpL_load rfl 27 (.tmp 4) rfl g4 0 rfl (v1.cells) _ (range_block HG4.out) Try.underlying27 rfl HBI.out ?_); simp only [PT])
    | (go_at_call 21; (with_reducible show Calls _ _ #[Value.agg xV.cells.toArray, Value.agg v1.cells.toArray] _ _); go_must (refine (blkSame_at true xV v1 (by rw [HV1.out]; rfl) _ (blk_none _ _ rfl rfl rfl) (HY1.out.below bup)).mono ?_); intro e wc7 hr; obtain ⟨rfl, hb__⟩ := hr; have hE__ := cU HB bup hb__; replace HB := ck HB hE__; replace HG1 := ck HG1 hE__; replace HG12 := ck HG12 hE__; replace HY3 := ck HY3 hE__; replace HG15 := ck HG15 hE__; clear hE__; clear hb__)
    | ((with_reducible refine sl 98 ?_); go_must (refine wpL_load rfl 27 (.tmp 12) rfl g12 0 rfl (sV.cells) _ (range_block HG12.out) Try.underlying27 rfl HBI.out ?_); simp only [PT])
    | ((with_reducible refine sl 99 ?_); go_must (refine wpL_load rfl 27 (.tmp 15) rfl g15 0 rfl (v3.cells) _ (range_block HG15.out) Try.underlying27 rfl HBI.out ?_); simp only [PT])
    | (go_at_call 21; (with_reducible show Calls _ _ #[Value.agg sV.cells.toArray, Value.agg v3.cells.toArray] _ _); go_must (refine (blkSame_at true sV v3 (by rw [HV3.out]; rfl) _ (blk_none _ _ rfl rfl rfl) (HY3.out.below bup)).mono ?_); intro e wc8 hr; obtain ⟨rfl, hb__⟩ := hr; have hE__ := cU HB bup hb__; replace HB := ck HB hE__; replace HG1 := ck HG1 hE__; clear hE__; clear hb__)
    | ((with_reducible refine sl 103 ?_); go_must (refine wpL_load rfl 27 (.tmp 1) rfl g1 0 rfl (xV.cells) _ (range_block HG1.out) Try.underlying27 rfl HBI.out ?_); simp only [PT])
    | (go_at_call 19; (with_reducible show Calls _ _ #[Value.agg xV.cells.toArray] _ _); go_must (refine (blkRight_at true xV (by rfl) _ (blk_none _ _ rfl rfl rfl) smX wfX).mono ?_); intro e wc9 hr; obtain ⟨rfl, hb__⟩ := hr; have hE__ := cU HB bup hb__; replace HB := ck HB hE__; clear hE__; clear hb__)
    | (go_at_call 19; (with_reducible show Calls _ _ #[Value.agg #[_, _, _, _, _, _, _, _, _, _, _]] _ _); go_must (refine (blkRight_at false eV (by rfl) _ (blk_none _ _ rfl rfl rfl) smE wfE).mono ?_); intro e wc10 hr; obtain ⟨rfl, hb__⟩ := hr; have hE__ := cU HB bup hb__; replace HB := ck HB hE__; clear hE__; clear hb__))
  go_ret
  exact ⟨rfl, HB.out⟩
end Go.Proofs.Ytmfplinbbcoahaa
