/-
  Joined by program (merge.py): Kit2, Blk1, Blk2, Blk3, FewOpt, Blk4.
-/
import Derived.RegionTactic
import Derived.BigRegion
import Derived.Test.YtmfplinbbcoahaaM2
import Derived.Test.YtmfplinbbcoahaaM3
import Derived.Test.YtmfplinbbcoahaaM6
import Derived.Test.YtmfplinbbcoahaaM7
/-
  More laws of single operations: boxes, new variables, results that lie in a cell. Over any program.
-/
namespace Go.Proofs.Ytmfplinbbcoahaa
open Go.RowKit Go.Sort
set_option linter.unusedVariables false
set_option linter.unusedSimpArgs false

theorem wpL_box {P : Program} {w : World} {ops : Array Oper} {rest : List Oper} {o : Oper} {a : Act} {Q : Exit → Act → World → Prop} (hgd : Region.wanted o (yielded ops a.tmps) = true) (T : TypeId) (x : Operand) (ho : o.op = .box T x) (cs : Array Value) (hx : a.eval x = .agg cs)
    (h : ∀ w1, w1.heap[w.heap.size]? = some (.cells cs T (0, 0)) → Below w.heap.size w w1 → wpList P ops Q rest (a.put o.dst (.pointer (some ⟨w.heap.size, 0, none⟩))) w1) : wpList P ops Q (o :: rest) a w := by
  refine wpL_run hgd (v := .pointer (some ⟨w.heap.size, 0, none⟩)) (w' := w.alloc (.cells cs T)) ?_ (h _ (heap_alloc_last w _) ((Below.refl _ _).alloc (Nat.le_refl _) _))
  simp [execOp, ho, Instr.box, newVar, newRow, Value.cells, hx]
theorem wpL_alloc0 {P : Program} {w : World} {ops : Array Oper} {rest : List Oper} {o : Oper} {a : Act} {Q : Exit → Act → World → Prop} (hgd : Region.wanted o (yielded ops a.tmps) = true) (T : TypeId) (ho : o.op = .alloc T) (zs : Array Value) (n : Nat) (hi : (P.info? T).map (fun i => (i.zero, i.size)) = some (some (.agg zs), n))
    (h : ∀ w1, w1.heap[w.heap.size]? = some (.cells zs T (0, 0)) → Below w.heap.size w w1 → wpList P ops Q rest (a.put o.dst (.pointer (some ⟨w.heap.size, 0, none⟩))) w1) : wpList P ops Q (o :: rest) a w := by
  obtain ⟨hz0, hsz⟩ := zero_of_info hi
  refine wpL_run hgd (v := .pointer (some ⟨w.heap.size, 0, none⟩)) (w' := w.alloc (.cells zs T)) ?_ (h _ (heap_alloc_last w _) ((Below.refl _ _).alloc (Nat.le_refl _) _))
  simp [execOp, ho, Instr.alloc, hz0, newVar, newRow, Value.cells]
theorem wpL_newR {P : Program} {w : World} {ops : Array Oper} {rest : List Oper} {o1 o2 : Oper} {a : Act} {Q : Exit → Act → World → Prop} (hg1 : o1.guard = none) (hg2 : o2.guard = none) (T : TypeId) (ho1 : o1.op = .alloc T) (x y : Operand) (ho2 : o2.op = .store T x y)
    (cs zs : Array Value) (hi : (P.info? T).map (fun i => (i.zero, i.size)) = some (some (.agg zs), cs.size)) (hz : zs.size = cs.size) (h1 : cs.all (·.oneCell') = true)
    (hx : ∀ p, (a.put o1.dst p).eval x = p) (hy : ∀ p, (a.put o1.dst p).eval y = .agg cs)
    (h : ∀ w1, w1.heap[w.heap.size]? = some (.cells cs T (0, 0)) → Below w.heap.size w w1 → wpList P ops Q rest ((a.put o1.dst (.pointer (some ⟨w.heap.size, 0, none⟩))).put o2.dst undef) w1) :
    wpList P ops Q (o1 :: o2 :: rest) a w :=
  wpL_new hg1 hg2 T ho1 x y ho2 cs zs hi hz h1 hx hy (h _ (heap_alloc_last w _) ((Below.refl _ _).alloc (Nat.le_refl _) _))
theorem bodyPost_cell1 {P : Program} {fn : Func} {R : Ending → World → Prop} {a : Act} {w : World} {t4 : Tmp} {T : TypeId} {g : Nat} {cs : List Value} {d : TypeDesc}
    (h : fn.results = #[.cell t4 T]) (hp : a.tmps.getD t4 undef = .pointer (some ⟨g, 0, none⟩)) (hc : w.rangeAt g 0 cs) (hu : P.underlying T = some d) (hd : d.isRow = true) (hi : (P.info? T).map (·.size) = some cs.length)
    (hdf : a.defers = []) (hR : R (.returned (.agg cs.toArray)) w) : bodyPost P fn R .ret a w := by
  refine bodyPost_ret ?_ hdf hR
  have hp' : a.tmps[t4]?.getD undef = .pointer (some ⟨g, 0, none⟩) := by simpa using hp
  simp [results, h, hp', asAddr, run_loadVar_mid w g 0 T cs d hc hu hd hi]
theorem bodyPost_cell1x {P : Program} {fn : Func} {R : Ending → World → Prop} {a : Act} {w : World} {t1 t2 t4 : Tmp} {T : TypeId} {g : Nat} {cs : List Value} {d : TypeDesc}
    (h : fn.results = #[.cell t4 T, .tmp t1, .tmp t2]) (hp : a.tmps.getD t4 undef = .pointer (some ⟨g, 0, none⟩)) (hc : w.rangeAt g 0 cs) (hu : P.underlying T = some d) (hd : d.isRow = true) (hi : (P.info? T).map (·.size) = some cs.length)
    (hdf : a.defers = []) (hR : R (.returned (.tuple #[.agg cs.toArray, a.tmps.getD t1 undef, a.tmps.getD t2 undef])) w) : bodyPost P fn R .ret a w := by
  refine bodyPost_ret ?_ hdf hR
  have hp' : a.tmps[t4]?.getD undef = .pointer (some ⟨g, 0, none⟩) := by simpa using hp
  simp [results, h, hp', asAddr, run_loadVar_mid w g 0 T cs d hc hu hd hi]
theorem frz {w : World} {g : Nat} {cs : Array Value} {T : TypeId} (h : w.heap[g]? = some (.cells cs T (0, 0))) (j : Nat) : w.frozen? ⟨g, j, none⟩ = false := by
  simp [World.frozen?, h]
theorem cells11 {w : World} {g : Nat} {c0 c1 c2 c3 c4 c5 c6 c7 c8 c9 c10 : Value} {T : TypeId} {fz : Nat × Nat} (h : w.heap[g]? = some (.cells #[c0, c1, c2, c3, c4, c5, c6, c7, c8, c9, c10] T fz)) :
    w.cell? ⟨g, 0, none⟩ = some c0 ∧ w.cell? ⟨g, 1, none⟩ = some c1 ∧ w.cell? ⟨g, 2, none⟩ = some c2 ∧ w.cell? ⟨g, 3, none⟩ = some c3 ∧ w.cell? ⟨g, 4, none⟩ = some c4 ∧ w.cell? ⟨g, 5, none⟩ = some c5 ∧ w.cell? ⟨g, 6, none⟩ = some c6 ∧ w.cell? ⟨g, 7, none⟩ = some c7 ∧ w.cell? ⟨g, 8, none⟩ = some c8 ∧ w.cell? ⟨g, 9, none⟩ = some c9 ∧ w.cell? ⟨g, 10, none⟩ = some c10 := by
  refine ⟨?_, ?_, ?_, ?_, ?_, ?_, ?_, ?_, ?_, ?_, ?_⟩ <;> (rw [cells_get h]; rfl)
theorem set_same {w : World} {a : Addr} {u v : Value} (h : w.cell? a = some u) : (w.setCell a v).cell? a = some v := by
  have := World.cell?_setCell_same w a v (u := u) h
  exact this
theorem set_other {w : World} {g j k : Nat} {v : Value} (h : k ≠ j) : (w.setCell ⟨g, k, none⟩ v).cell? ⟨g, j, none⟩ = w.cell? ⟨g, j, none⟩ := World.cell?_setCell_other w _ _ v (by intro e; cases e; exact h rfl)
theorem block_set {w : World} {g j : Nat} {v : Value} {cs : Array Value} {T : TypeId} {fz : Nat × Nat} (h : w.heap[g]? = some (.cells cs T fz)) : (w.setCell ⟨g, j, none⟩ v).heap[g]? = some (.cells (cs.setIfInBounds j v) T fz) := by
  simp only [World.setCell, Array.getElem?_modify, h]
  simp
theorem block_other {w : World} {g j k : Nat} {v : Value} {ob : Obj} (hne : k ≠ g) (h : w.heap[k]? = some ob) : (w.setCell ⟨g, j, none⟩ v).heap[k]? = some ob := by
  rw [Below.heap_setCell _ _ _ _ hne]
  exact h
theorem range_arr {w : World} {b : Nat} {cs : List Value} {arr : Array Value} {ty : TypeId} {fz : Nat × Nat} (h : w.heap[b]? = some (.cells arr ty fz)) (e : arr = cs.toArray) : w.rangeAt b 0 cs := by
  subst e
  exact range_block h
theorem range11 {w : World} {g : Nat} {c0 c1 c2 c3 c4 c5 c6 c7 c8 c9 c10 : Value} (h0 : w.cell? ⟨g, 0, none⟩ = some c0) (h1 : w.cell? ⟨g, 1, none⟩ = some c1) (h2 : w.cell? ⟨g, 2, none⟩ = some c2) (h3 : w.cell? ⟨g, 3, none⟩ = some c3) (h4 : w.cell? ⟨g, 4, none⟩ = some c4) (h5 : w.cell? ⟨g, 5, none⟩ = some c5)
    (h6 : w.cell? ⟨g, 6, none⟩ = some c6) (h7 : w.cell? ⟨g, 7, none⟩ = some c7) (h8 : w.cell? ⟨g, 8, none⟩ = some c8) (h9 : w.cell? ⟨g, 9, none⟩ = some c9) (h10 : w.cell? ⟨g, 10, none⟩ = some c10) : w.rangeAt g 0 [c0, c1, c2, c3, c4, c5, c6, c7, c8, c9, c10] := by
  intro j v hj
  rw [Nat.zero_add]
  match j with
  | 0 => cases hj; exact h0
  | 1 => cases hj; exact h1
  | 2 => cases hj; exact h2
  | 3 => cases hj; exact h3
  | 4 => cases hj; exact h4
  | 5 => cases hj; exact h5
  | 6 => cases hj; exact h6
  | 7 => cases hj; exact h7
  | 8 => cases hj; exact h8
  | 9 => cases hj; exact h9
  | 10 => cases hj; exact h10
  | j + 11 => simp at hj
/-- a row stored whole into a variable's block -/
theorem wpL_storeRow {P : Program} {ops : Array Oper} {rest : List Oper} {o : Oper} {a : Act} {w : World} {Q : Exit → Act → World → Prop} (hgd : o.guard = none) (ty : TypeId) (x y : Operand) (ho : o.op = .store ty x y)
    (g : Nat) (cs : Array Value) (hx : a.eval x = .pointer (some ⟨g, 0, none⟩)) (hy : a.eval y = .agg cs) {T : TypeId} {old : Array Value} (hg : w.heap[g]? = some (.cells old T (0, 0))) (hi : (P.info? ty).map (·.size) = some cs.size) (hl : old.size = cs.size) (h1 : cs.all (·.oneCell') = true)
    (h : ∀ w1, w1.heap[g]? = some (.cells cs T (0, 0)) → w.grownBy w1 (some g) → wpList P ops Q rest (a.put o.dst undef) w1) : wpList P ops Q (o :: rest) a w :=
  wpList_store_row hgd ty x y ho g cs hx hy T _ hg hi hl h1 (h _ (setRow_heap w g _ _ T _ hg) ⟨rfl, rfl, rfl, by simp [World.setRow], fun k _ hk => setRow_other w g k _ (fun e => hk (by rw [e]))⟩)
end Go.Proofs.Ytmfplinbbcoahaa
/-
  Chapter 26: blocks in memory.
-/
namespace Go.Proofs.Ytmfplinbbcoahaa
open Go.RowKit Go.Sort
set_option linter.unusedVariables false
set_option linter.unusedSimpArgs false

/-- a block in memory -/
structure BlkV where
  kind : Int
  big : Bool
  type : Nat
  link : Int
  snap : Nat
  iface : Int
  time : Nat
  len : Nat
  dad : Option Addr
  dn : Nat
  dc : Nat
  dl : List UInt8
  nad : Option Addr
  nn : Nat
  nc : Nat
  ns : List OptV
  oad : Option Addr
  on : Nat
  oc : Nat
  os : List OptV
def BlkV.cells (v : BlkV) : List Value := [.int .i64 v.kind, .bool v.big, .int .u32 (v.type : Int), .int .i64 v.link, .int .u32 (v.snap : Int), .int .i64 v.iface, .int .u64 (v.time : Int), .int .u32 (v.len : Int), .slice v.dad v.dn v.dc, .slice v.nad v.nn v.nc, .slice v.oad v.on v.oc]
def BlkV.val (v : BlkV) : PB := ⟨v.kind, v.big, v.type, v.link, v.snap, v.iface, v.time, v.len, v.dl, vals v.ns, vals v.os⟩
def Blk (w : World) (v : BlkV) : Prop := Bs w v.dad v.dn v.dc v.dl ∧ Ops w v.nad v.nn v.nc v.ns ∧ Ops w v.oad v.on v.oc v.os
theorem Blk.below {w w' : World} {v : BlkV} (h : Blk w v) (hb : Below w.heap.size w w') : Blk w' v := ⟨h.1.below hb, h.2.1.below hb, h.2.2.below hb⟩
instance {w w' : World} {v : BlkV} : Ck (Blk w v) w' w (Blk w' v) := ⟨fun h hE => h.below hE⟩
theorem Blk.lens {w : World} {v : BlkV} (h : Blk w v) : v.dn = v.dl.length ∧ v.nn = v.ns.length ∧ v.on = v.os.length := ⟨h.1.len, h.2.1.len, h.2.2.len⟩
theorem bcells_all (v : BlkV) : v.cells.toArray.all (·.oneCell') = true := by
  simp only [BlkV.cells, List.all_toArray, List.all_cons, List.all_nil, Bool.and_true, Bool.and_eq_true]
  exact ⟨rfl, rfl, rfl, rfl, rfl, rfl, rfl, rfl, rfl, rfl, rfl⟩
theorem blk_cells {w : World} {g : Nat} {v : BlkV} {T : TypeId} {fz : Nat × Nat} (h : w.heap[g]? = some (.cells v.cells.toArray T fz)) :
    w.cell? ⟨g, 0, none⟩ = some (.int .i64 v.kind) ∧ w.cell? ⟨g, 1, none⟩ = some (.bool v.big) ∧ w.cell? ⟨g, 2, none⟩ = some (.int .u32 (v.type : Int)) ∧ w.cell? ⟨g, 3, none⟩ = some (.int .i64 v.link) ∧ w.cell? ⟨g, 4, none⟩ = some (.int .u32 (v.snap : Int)) ∧ w.cell? ⟨g, 5, none⟩ = some (.int .i64 v.iface) ∧
    w.cell? ⟨g, 6, none⟩ = some (.int .u64 (v.time : Int)) ∧ w.cell? ⟨g, 7, none⟩ = some (.int .u32 (v.len : Int)) ∧ w.cell? ⟨g, 8, none⟩ = some (.slice v.dad v.dn v.dc) ∧ w.cell? ⟨g, 9, none⟩ = some (.slice v.nad v.nn v.nc) ∧ w.cell? ⟨g, 10, none⟩ = some (.slice v.oad v.on v.oc) := by
  refine ⟨?_, ?_, ?_, ?_, ?_, ?_, ?_, ?_, ?_, ?_, ?_⟩ <;> (rw [cells_get h]; rfl)
set_option maxRecDepth 100000 in
theorem kind_cases {k : Int} (h1 : 1 ≤ k) (h7 : k ≤ 7) : k = 1 ∨ k = 2 ∨ k = 3 ∨ k = 4 ∨ k = 5 ∨ k = 6 ∨ k = 7 := by omega

set_option maxRecDepth 100000 in
theorem typeOf_any (k : Int) (w : World) : Calls Try.prog 46 #[.int .i64 k] w fun e w' => e = .returned (.int .u32 ((typeP k : Nat) : Int)) ∧ Below w.heap.size w w' := by
  have hk : k < 1 ∨ k = 1 ∨ k = 2 ∨ k = 3 ∨ k = 4 ∨ k = 5 ∨ k = 6 ∨ 7 ≤ k := by omega
  rcases hk with hk | rfl | rfl | rfl | rfl | rfl | rfl | hk
  · have e : typeP k = 0 := by unfold typeP; simp only [show ¬ k = 1 by omega, show ¬ k = 2 by omega, show ¬ k = 3 by omega, show ¬ k = 4 by omega, show ¬ k = 5 by omega, show ¬ k = 6 by omega, if_false]
    rw [e]
    go_enter Try.func46, Try.ntmps46
    go_wp2_with fail
    go_ret
    exact ⟨rfl, bup⟩
  iterate 6
    · go_enter Try.func46, Try.ntmps46
      go_wp2_with fail
      go_ret
      exact ⟨rfl, bup⟩
  · have e : typeP k = 0 := by unfold typeP; simp only [show ¬ k = 1 by omega, show ¬ k = 2 by omega, show ¬ k = 3 by omega, show ¬ k = 4 by omega, show ¬ k = 5 by omega, show ¬ k = 6 by omega, if_false]
    rw [e]
    have h1 : ¬ k < 1 := by omega
    go_enter Try.func46, Try.ntmps46
    go_wp2_with fail
    go_ret
    exact ⟨rfl, bup⟩

set_option maxRecDepth 100000 in
theorem kindOf_any (t : Nat) (w : World) : Calls Try.prog 58 #[.int .u32 (t : Int)] w fun e w' => e = .returned (.int .i64 (kindP t)) ∧ Below w.heap.size w w' := by
  have HB := Lib.hid (Below.refl w.heap.size w)
  go_enter Try.func58, Try.ntmps58
  go_wp2_with fail
  go_loopw [3] (fun i wr => ∃ k : Int, 1 ≤ k ∧ k ≤ 7 ∧ i = .int .i64 k ∧ Hid (∀ j : Int, 1 ≤ j → j < k → typeP j ≠ t) ∧ Below w.heap.size w wr) (fun i _ => (7 - intOf i).toNat)
  case atStart => exact ⟨1, by omega, by omega, rfl, Lib.hid (fun j h1 h2 => absurd h1 (by omega)), HB.out⟩
  case round =>
    obtain ⟨k, h1, h7, rfl, HK, hb⟩ := hrel
    clear HB
    have HB := Lib.hid hb
    clear hb
    by_cases hlt : k < 7
    · obtain ⟨T, hT⟩ : ∃ T, T = typeP k := ⟨_, rfl⟩
      have HT := Lib.hid hT
      by_cases he : T = t
      · have HE : Hid (kindP t = k) := Lib.hid (by rw [← he, hT]; exact kindP_type k h1 (by omega))
        clear hT HK
        subst he
        go_wp2_with (first
          | (go_at_call 46; go_must (refine (typeOf_any k _).mono ?_); intro e w5 hr; rw [← HT.out] at hr; obtain ⟨rfl, hb5⟩ := hr; have hE__ := cU HB bup hb5; replace HB := ck HB hE__; clear hE__; clear hb5))
        go_ret
        exact ⟨by rw [HE.out]; rfl, HB.out⟩
      · have HE : Hid (∀ j : Int, 1 ≤ j → j < k + 1 → typeP j ≠ t) := Lib.hid (fun j h1 h2 => by
          by_cases e : j < k
          · exact HK.out j h1 e
          · obtain rfl : j = k := by omega
            rw [← hT]; exact he)
        clear hT HK
        have hne : ((T : Int) == (t : Int)) = false := by simp; omega
        have hne2 : ¬ ((T : Int) = (t : Int)) := by omega
        go_wp2_with (first
          | (go_at_call 46; go_must (refine (typeOf_any k _).mono ?_); intro e w5 hr; rw [← HT.out] at hr; obtain ⟨rfl, hb5⟩ := hr; have hE__ := cU HB bup hb5; replace HB := ck HB hE__; clear hE__; clear hb5))
        go_roundw
        case rel => exact ⟨k + 1, by omega, by omega, by go_num, HE, HB.out⟩
        case measure => simp [intOf]; omega
    · have HE : Hid (kindP t = 7) := Lib.hid (by
        have h := fun j h1 h2 => HK.out j h1 (show j < k from Int.lt_of_lt_of_le h2 (show (7 : Int) ≤ k by omega))
        have g1 := h 1 (by omega) (by omega)
        have g2 := h 2 (by omega) (by omega)
        have g3 := h 3 (by omega) (by omega)
        have g4 := h 4 (by omega) (by omega)
        have g5 := h 5 (by omega) (by omega)
        have g6 := h 6 (by omega) (by omega)
        change (168627466 : Nat) ≠ t at g1
        change (1 : Nat) ≠ t at g2
        change (6 : Nat) ≠ t at g3
        change (3 : Nat) ≠ t at g4
        change (4 : Nat) ≠ t at g5
        change (5 : Nat) ≠ t at g6
        unfold kindP
        rw [if_neg (fun e => g1 e.symm), if_neg (fun e => g2 e.symm), if_neg (fun e => g3 e.symm), if_neg (fun e => g4 e.symm), if_neg (fun e => g5 e.symm), if_neg (fun e => g6 e.symm)])
      go_wp2_with fail
      go_ret
      exact ⟨by rw [HE.out]; rfl, HB.out⟩

set_option maxRecDepth 100000 in
theorem refKind_any (t : Nat) (ht : t < 4294967296) (w : World) : Calls Try.prog 51 #[.int .u32 (t : Int)] w fun e w' => e = .returned (.int .i64 (kindP t)) ∧ Below w.heap.size w w' := by
  have hc : t = 168627466 ∨ t = 1 ∨ t = 6 ∨ t = 3 ∨ t = 4 ∨ t = 5 ∨ (t ≠ 168627466 ∧ t ≠ 1 ∧ t ≠ 6 ∧ t ≠ 3 ∧ t ≠ 4 ∧ t ≠ 5) := by omega
  rcases hc with rfl | rfl | rfl | rfl | rfl | rfl | ⟨g1, g2, g3, g4, g5, g6⟩
  iterate 6
    · go_enter Try.func51, Try.ntmps51
      go_wp2_with fail
      go_ret
      exact ⟨rfl, bup⟩
  · have HE : Hid (kindP t = 7) := Lib.hid (by unfold kindP; rw [if_neg g1, if_neg g2, if_neg g3, if_neg g4, if_neg g5, if_neg g6])
    have n1 : ¬ (t : Int) = 168627466 := by omega
    have n2 : ¬ (t : Int) = 1 := by omega
    have n3 : ¬ (t : Int) = 6 := by omega
    by_cases h3 : (3 : Int) ≤ (t : Int)
    · have h5 : ¬ (t : Int) ≤ 5 := by omega
      clear g1 g2 g3 g4 g5 g6
      go_enter Try.func51, Try.ntmps51
      go_wp2_with fail
      go_ret
      exact ⟨by rw [HE.out]; rfl, bup⟩
    · clear g1 g2 g3 g4 g5 g6
      go_enter Try.func51, Try.ntmps51
      go_wp2_with fail
      go_ret
      exact ⟨by rw [HE.out]; rfl, bup⟩
end Go.Proofs.Ytmfplinbbcoahaa
/-
  Chapter 26: a block with just the fields that its kind names, walked.
-/
namespace Go.Proofs.Ytmfplinbbcoahaa
open Go.RowKit Go.Sort
set_option linter.unusedVariables false
set_option linter.unusedSimpArgs false

def zeroC : Array Value := #[.int .i64 0, .bool false, .int .u32 0, .int .i64 0, .int .u32 0, .int .i64 0, .int .u64 0, .int .u32 0, .slice none 0 0, .slice none 0 0, .slice none 0 0]
theorem zero_info : (Try.prog.info? 27).map (fun i => (i.zero, i.size)) = some (some (.agg zeroC), 11) := by kernel_rfl
theorem blk_info : (Try.prog.info? 27).map (·.size) = some 11 := by kernel_rfl
def onlyV (v : BlkV) : BlkV :=
  if v.kind = 1 then ⟨v.kind, v.big, 0, 0, 0, 0, 0, 0, none, 0, 0, [], none, 0, 0, [], v.oad, v.on, v.oc, v.os⟩
  else if v.kind = 2 then ⟨v.kind, false, 0, v.link, v.snap, 0, 0, 0, none, 0, 0, [], none, 0, 0, [], v.oad, v.on, v.oc, v.os⟩
  else if v.kind = 3 then ⟨v.kind, false, 0, 0, 0, v.iface, v.time, v.len, v.dad, v.dn, v.dc, v.dl, none, 0, 0, [], v.oad, v.on, v.oc, v.os⟩
  else if v.kind = 4 then ⟨v.kind, false, 0, 0, 0, 0, 0, v.len, v.dad, v.dn, v.dc, v.dl, none, 0, 0, [], none, 0, 0, []⟩
  else if v.kind = 5 then ⟨v.kind, false, 0, 0, 0, 0, 0, 0, none, 0, 0, [], v.nad, v.nn, v.nc, v.ns, v.oad, v.on, v.oc, v.os⟩
  else if v.kind = 6 then ⟨v.kind, false, 0, 0, 0, v.iface, v.time, 0, none, 0, 0, [], none, 0, 0, [], v.oad, v.on, v.oc, v.os⟩
  else ⟨v.kind, false, v.type, 0, 0, 0, 0, 0, v.dad, v.dn, v.dc, v.dl, none, 0, 0, [], none, 0, 0, []⟩
theorem Blk.only {w : World} {v : BlkV} (h : Blk w v) : Blk w (onlyV v) := by
  obtain ⟨h1, h2, h3⟩ := h
  have n1 : Bs w none 0 0 [] := Sl.nil w 1
  have n2 : Ops w none 0 0 [] := ⟨Sl.nil w 2, fun o ho => by cases ho⟩
  unfold onlyV
  repeat' split
  all_goals exact ⟨by assumption, by assumption, by assumption⟩

set_option maxHeartbeats 4000000 in
set_option maxRecDepth 100000 in
theorem only_any (v : BlkV) (w : World) (h1 : 1 ≤ v.kind) (h7 : v.kind ≤ 7) :
    Calls Try.prog 69 #[.agg v.cells.toArray] w fun e w' => e = .returned (.agg (onlyV v).cells.toArray) ∧ Below w.heap.size w w' := by
  have HB := Lib.hid (Below.refl w.heap.size w)
  obtain ⟨C, hC⟩ : ∃ C, C = (onlyV v).cells := ⟨_, rfl⟩
  have HC := Lib.hid hC
  rw [← hC]
  clear hC
  obtain ⟨kind, hkind⟩ : ∃ k, k = v.kind := ⟨_, rfl⟩
  rw [← hkind] at h1 h7
  have HK := Lib.hid hkind
  clear hkind
  rcases kind_cases h1 h7 with rfl | rfl | rfl | rfl | rfl | rfl | rfl
  · clear h1 h7
    have E : Hid (C = [.int .i64 1, .bool v.big, .int .u32 0, .int .i64 0, .int .u32 0, .int .i64 0, .int .u64 0, .int .u32 0, .slice none 0 0, .slice none 0 0, .slice v.oad v.on v.oc]) := Lib.hid (by rw [HC.out]; unfold onlyV; rw [← HK.out]; rfl)
    go_enter Try.func69, Try.ntmps69
    go_wp2_with (first
      | ((with_reducible refine sl 1 ?_); go_must (refine wpL_box rfl 27 (.tmp 0) rfl v.cells.toArray rfl ?_); intro w1 hg1 hb1; have HX := Lib.hid hg1; have hE__ := cU HB bup hb1; replace HB := ck HB hE__; clear hE__; have HZ1 := Lib.hid HB.out.size; clear hg1 hb1; simp only [PT])
      | ((with_reducible refine sl 2 ?_); go_must (refine wpL_alloc0 rfl 27 rfl zeroC 11 zero_info ?_); intro w2 hg2 hb2; have HR := Lib.hid hg2; have hE__ := cU HB bup hb2; replace HB := ck HB hE__; replace HX := ck HX hE__; clear hE__; have HZ2 := Lib.hid HB.out.size; clear hg2 hb2; obtain ⟨c0, c1, c2, c3, c4, c5, c6, c7, c8, c9, c10⟩ := blk_cells HX.out; rw [← HK.out] at c0; simp only [PT])
      | ((with_reducible refine sl 3 ?_); clear c0 c1 c2 c3 c4 c5 c6 c7 c8 c9 c10; go_must (refine wpL_newR rfl rfl 27 rfl (.tmp 3) (.tmp 8) rfl #[.int .i64 1, .bool false, .int .u32 0, .int .i64 0, .int .u32 0, .int .i64 0, .int .u64 0, .int .u32 0, .slice none 0 0, .slice none 0 0, .slice v.oad v.on v.oc] zeroC (by kernel_rfl) rfl (by simp only [List.all_toArray, List.all_cons, List.all_nil, Bool.and_true, Bool.and_eq_true]; exact ⟨rfl, rfl, rfl, rfl, rfl, rfl, rfl, rfl, rfl, rfl, rfl⟩) (fun _ => rfl) (fun _ => rfl) ?_); intro w3 hg3 hb3; have HY := Lib.hid hg3; have HNE := Lib.hid (Nat.ne_of_lt (lt_of_block HR.out)); have hE__ := cU HB bup hb3; replace HB := ck HB hE__; replace HX := ck HX hE__; replace HR := ck HR hE__; clear hE__; clear hg3 hb3; obtain ⟨c0, c1, c2, c3, c4, c5, c6, c7, c8, c9, c10⟩ := blk_cells HX.out; rw [← HK.out] at c0; obtain ⟨y0, y1, y2, y3, y4, y5, y6, y7, y8, y9, y10⟩ := cells11 HY.out; have f1 := frz HY.out 1; simp only [PT])
      | ((with_reducible refine sl 69 ?_); go_must (refine wpL_load rfl 27 (.tmp 3) rfl w2.heap.size 0 rfl [.int .i64 1, .bool v.big, .int .u32 0, .int .i64 0, .int .u32 0, .int .i64 0, .int .u64 0, .int .u32 0, .slice none 0 0, .slice none 0 0, .slice v.oad v.on v.oc] _ (range_arr (block_set HY.out) rfl) Try.underlying27 rfl blk_info ?_); simp only [PT])
      | ((with_reducible show wpList _ _ _ (⟨none, .store _ _ (.tmp 69), _, _, _, _⟩ :: _) _ _); go_must (refine wpL_storeRow (T := 27) (old := zeroC) rfl 27 (.tmp 2) (.tmp 69) rfl w1.heap.size (List.toArray [.int .i64 1, .bool v.big, .int .u32 0, .int .i64 0, .int .u32 0, .int .i64 0, .int .u64 0, .int .u32 0, .slice none 0 0, .slice none 0 0, .slice v.oad v.on v.oc]) rfl rfl (block_other HNE.out HR.out) blk_info rfl (by simp only [List.all_toArray, List.all_cons, List.all_nil, Bool.and_true, Bool.and_eq_true]; exact ⟨rfl, rfl, rfl, rfl, rfl, rfl, rfl, rfl, rfl, rfl, rfl⟩) ?_); intro w9 hg9 hgr9; have HR9 := Lib.hid hg9; have hb9 : Below w.heap.size w w9 := Below.grown (by repeat (first | exact HB.out | refine Below.drew ?_ | refine Below.setCell ?_ HZ2.out _)) hgr9 (by simp [World.setCell]; exact HB.out.size) (fun k e => by cases e; exact HZ1.out); have HB9 := Lib.hid hb9; clear hg9 hgr9 hb9; simp only [PT]))
    all_goals
      rw [E.out]
      refine bodyPost_cell1 (cs := [.int .i64 1, .bool v.big, .int .u32 0, .int .i64 0, .int .u32 0, .int .i64 0, .int .u64 0, .int .u32 0, .slice none 0 0, .slice none 0 0, .slice v.oad v.on v.oc]) rfl rfl (range_block HR9.out) Try.underlying27 rfl blk_info rfl ?_
      exact ⟨rfl, HB9.out⟩
  · clear h1 h7
    have E : Hid (C = [.int .i64 2, .bool false, .int .u32 0, .int .i64 v.link, .int .u32 (v.snap : Int), .int .i64 0, .int .u64 0, .int .u32 0, .slice none 0 0, .slice none 0 0, .slice v.oad v.on v.oc]) := Lib.hid (by rw [HC.out]; unfold onlyV; rw [← HK.out]; rfl)
    go_enter Try.func69, Try.ntmps69
    go_wp2_with (first
      | ((with_reducible refine sl 1 ?_); go_must (refine wpL_box rfl 27 (.tmp 0) rfl v.cells.toArray rfl ?_); intro w1 hg1 hb1; have HX := Lib.hid hg1; have hE__ := cU HB bup hb1; replace HB := ck HB hE__; clear hE__; have HZ1 := Lib.hid HB.out.size; clear hg1 hb1; simp only [PT])
      | ((with_reducible refine sl 2 ?_); go_must (refine wpL_alloc0 rfl 27 rfl zeroC 11 zero_info ?_); intro w2 hg2 hb2; have HR := Lib.hid hg2; have hE__ := cU HB bup hb2; replace HB := ck HB hE__; replace HX := ck HX hE__; clear hE__; have HZ2 := Lib.hid HB.out.size; clear hg2 hb2; obtain ⟨c0, c1, c2, c3, c4, c5, c6, c7, c8, c9, c10⟩ := blk_cells HX.out; rw [← HK.out] at c0; simp only [PT])
      | ((with_reducible refine sl 3 ?_); clear c0 c1 c2 c3 c4 c5 c6 c7 c8 c9 c10; go_must (refine wpL_newR rfl rfl 27 rfl (.tmp 3) (.tmp 8) rfl #[.int .i64 2, .bool false, .int .u32 0, .int .i64 0, .int .u32 0, .int .i64 0, .int .u64 0, .int .u32 0, .slice none 0 0, .slice none 0 0, .slice v.oad v.on v.oc] zeroC (by kernel_rfl) rfl (by simp only [List.all_toArray, List.all_cons, List.all_nil, Bool.and_true, Bool.and_eq_true]; exact ⟨rfl, rfl, rfl, rfl, rfl, rfl, rfl, rfl, rfl, rfl, rfl⟩) (fun _ => rfl) (fun _ => rfl) ?_); intro w3 hg3 hb3; have HY := Lib.hid hg3; have HNE := Lib.hid (Nat.ne_of_lt (lt_of_block HR.out)); have hE__ := cU HB bup hb3; replace HB := ck HB hE__; replace HX := ck HX hE__; replace HR := ck HR hE__; clear hE__; clear hg3 hb3; obtain ⟨c0, c1, c2, c3, c4, c5, c6, c7, c8, c9, c10⟩ := blk_cells HX.out; rw [← HK.out] at c0; obtain ⟨y0, y1, y2, y3, y4, y5, y6, y7, y8, y9, y10⟩ := cells11 HY.out; have f3 := frz HY.out 3; have f4 := frz HY.out 4; simp only [PT]))
    go_region
    all_goals
      go_wp2_with (first
        | ((with_reducible refine sl 69 ?_); go_must (refine wpL_load rfl 27 (.tmp 3) rfl w2.heap.size 0 rfl [.int .i64 2, .bool false, .int .u32 0, .int .i64 v.link, .int .u32 (v.snap : Int), .int .i64 0, .int .u64 0, .int .u32 0, .slice none 0 0, .slice none 0 0, .slice v.oad v.on v.oc] _ (range_arr (block_set (block_set HY.out)) rfl) Try.underlying27 rfl blk_info ?_); simp only [PT])
        | ((with_reducible show wpList _ _ _ (⟨none, .store _ _ (.tmp 69), _, _, _, _⟩ :: _) _ _); go_must (refine wpL_storeRow (T := 27) (old := zeroC) rfl 27 (.tmp 2) (.tmp 69) rfl w1.heap.size (List.toArray [.int .i64 2, .bool false, .int .u32 0, .int .i64 v.link, .int .u32 (v.snap : Int), .int .i64 0, .int .u64 0, .int .u32 0, .slice none 0 0, .slice none 0 0, .slice v.oad v.on v.oc]) rfl rfl (block_other HNE.out (block_other HNE.out HR.out)) blk_info rfl (by simp only [List.all_toArray, List.all_cons, List.all_nil, Bool.and_true, Bool.and_eq_true]; exact ⟨rfl, rfl, rfl, rfl, rfl, rfl, rfl, rfl, rfl, rfl, rfl⟩) ?_); intro w9 hg9 hgr9; have HR9 := Lib.hid hg9; have hb9 : Below w.heap.size w w9 := Below.grown (by repeat (first | exact HB.out | refine Below.drew ?_ | refine Below.setCell ?_ HZ2.out _)) hgr9 (by simp [World.setCell]; exact HB.out.size) (fun k e => by cases e; exact HZ1.out); have HB9 := Lib.hid hb9; clear hg9 hgr9 hb9; simp only [PT]))
    all_goals
      rw [E.out]
      refine bodyPost_cell1 (cs := [.int .i64 2, .bool false, .int .u32 0, .int .i64 v.link, .int .u32 (v.snap : Int), .int .i64 0, .int .u64 0, .int .u32 0, .slice none 0 0, .slice none 0 0, .slice v.oad v.on v.oc]) rfl rfl (range_block HR9.out) Try.underlying27 rfl blk_info rfl ?_
      exact ⟨rfl, HB9.out⟩
  · clear h1 h7
    have E : Hid (C = [.int .i64 3, .bool false, .int .u32 0, .int .i64 0, .int .u32 0, .int .i64 v.iface, .int .u64 (v.time : Int), .int .u32 (v.len : Int), .slice v.dad v.dn v.dc, .slice none 0 0, .slice v.oad v.on v.oc]) := Lib.hid (by rw [HC.out]; unfold onlyV; rw [← HK.out]; rfl)
    go_enter Try.func69, Try.ntmps69
    go_wp2_with (first
      | ((with_reducible refine sl 1 ?_); go_must (refine wpL_box rfl 27 (.tmp 0) rfl v.cells.toArray rfl ?_); intro w1 hg1 hb1; have HX := Lib.hid hg1; have hE__ := cU HB bup hb1; replace HB := ck HB hE__; clear hE__; have HZ1 := Lib.hid HB.out.size; clear hg1 hb1; simp only [PT])
      | ((with_reducible refine sl 2 ?_); go_must (refine wpL_alloc0 rfl 27 rfl zeroC 11 zero_info ?_); intro w2 hg2 hb2; have HR := Lib.hid hg2; have hE__ := cU HB bup hb2; replace HB := ck HB hE__; replace HX := ck HX hE__; clear hE__; have HZ2 := Lib.hid HB.out.size; clear hg2 hb2; obtain ⟨c0, c1, c2, c3, c4, c5, c6, c7, c8, c9, c10⟩ := blk_cells HX.out; rw [← HK.out] at c0; simp only [PT])
      | ((with_reducible refine sl 3 ?_); clear c0 c1 c2 c3 c4 c5 c6 c7 c8 c9 c10; go_must (refine wpL_newR rfl rfl 27 rfl (.tmp 3) (.tmp 8) rfl #[.int .i64 3, .bool false, .int .u32 0, .int .i64 0, .int .u32 0, .int .i64 0, .int .u64 0, .int .u32 0, .slice none 0 0, .slice none 0 0, .slice v.oad v.on v.oc] zeroC (by kernel_rfl) rfl (by simp only [List.all_toArray, List.all_cons, List.all_nil, Bool.and_true, Bool.and_eq_true]; exact ⟨rfl, rfl, rfl, rfl, rfl, rfl, rfl, rfl, rfl, rfl, rfl⟩) (fun _ => rfl) (fun _ => rfl) ?_); intro w3 hg3 hb3; have HY := Lib.hid hg3; have HNE := Lib.hid (Nat.ne_of_lt (lt_of_block HR.out)); have hE__ := cU HB bup hb3; replace HB := ck HB hE__; replace HX := ck HX hE__; replace HR := ck HR hE__; clear hE__; clear hg3 hb3; obtain ⟨c0, c1, c2, c3, c4, c5, c6, c7, c8, c9, c10⟩ := blk_cells HX.out; rw [← HK.out] at c0; obtain ⟨y0, y1, y2, y3, y4, y5, y6, y7, y8, y9, y10⟩ := cells11 HY.out; have f5 := frz HY.out 5; have f6 := frz HY.out 6; have f7 := frz HY.out 7; have f8 := frz HY.out 8; simp only [PT]))
    go_region
    all_goals
      go_wp2_with (first
        | ((with_reducible refine sl 69 ?_); go_must (refine wpL_load rfl 27 (.tmp 3) rfl w2.heap.size 0 rfl [.int .i64 3, .bool false, .int .u32 0, .int .i64 0, .int .u32 0, .int .i64 v.iface, .int .u64 (v.time : Int), .int .u32 (v.len : Int), .slice v.dad v.dn v.dc, .slice none 0 0, .slice v.oad v.on v.oc] _ (range_arr (block_set (block_set (block_set (block_set HY.out)))) rfl) Try.underlying27 rfl blk_info ?_); simp only [PT])
        | ((with_reducible show wpList _ _ _ (⟨none, .store _ _ (.tmp 69), _, _, _, _⟩ :: _) _ _); go_must (refine wpL_storeRow (T := 27) (old := zeroC) rfl 27 (.tmp 2) (.tmp 69) rfl w1.heap.size (List.toArray [.int .i64 3, .bool false, .int .u32 0, .int .i64 0, .int .u32 0, .int .i64 v.iface, .int .u64 (v.time : Int), .int .u32 (v.len : Int), .slice v.dad v.dn v.dc, .slice none 0 0, .slice v.oad v.on v.oc]) rfl rfl (block_other HNE.out (block_other HNE.out (block_other HNE.out (block_other HNE.out HR.out)))) blk_info rfl (by simp only [List.all_toArray, List.all_cons, List.all_nil, Bool.and_true, Bool.and_eq_true]; exact ⟨rfl, rfl, rfl, rfl, rfl, rfl, rfl, rfl, rfl, rfl, rfl⟩) ?_); intro w9 hg9 hgr9; have HR9 := Lib.hid hg9; have hb9 : Below w.heap.size w w9 := Below.grown (by repeat (first | exact HB.out | refine Below.drew ?_ | refine Below.setCell ?_ HZ2.out _)) hgr9 (by simp [World.setCell]; exact HB.out.size) (fun k e => by cases e; exact HZ1.out); have HB9 := Lib.hid hb9; clear hg9 hgr9 hb9; simp only [PT]))
    all_goals
      rw [E.out]
      refine bodyPost_cell1 (cs := [.int .i64 3, .bool false, .int .u32 0, .int .i64 0, .int .u32 0, .int .i64 v.iface, .int .u64 (v.time : Int), .int .u32 (v.len : Int), .slice v.dad v.dn v.dc, .slice none 0 0, .slice v.oad v.on v.oc]) rfl rfl (range_block HR9.out) Try.underlying27 rfl blk_info rfl ?_
      exact ⟨rfl, HB9.out⟩
  · clear h1 h7
    have E : Hid (C = [.int .i64 4, .bool false, .int .u32 0, .int .i64 0, .int .u32 0, .int .i64 0, .int .u64 0, .int .u32 (v.len : Int), .slice v.dad v.dn v.dc, .slice none 0 0, .slice none 0 0]) := Lib.hid (by rw [HC.out]; unfold onlyV; rw [← HK.out]; rfl)
    go_enter Try.func69, Try.ntmps69
    go_wp2_with (first
      | ((with_reducible refine sl 1 ?_); go_must (refine wpL_box rfl 27 (.tmp 0) rfl v.cells.toArray rfl ?_); intro w1 hg1 hb1; have HX := Lib.hid hg1; have hE__ := cU HB bup hb1; replace HB := ck HB hE__; clear hE__; have HZ1 := Lib.hid HB.out.size; clear hg1 hb1; simp only [PT])
      | ((with_reducible refine sl 2 ?_); go_must (refine wpL_alloc0 rfl 27 rfl zeroC 11 zero_info ?_); intro w2 hg2 hb2; have HR := Lib.hid hg2; have hE__ := cU HB bup hb2; replace HB := ck HB hE__; replace HX := ck HX hE__; clear hE__; have HZ2 := Lib.hid HB.out.size; clear hg2 hb2; obtain ⟨c0, c1, c2, c3, c4, c5, c6, c7, c8, c9, c10⟩ := blk_cells HX.out; rw [← HK.out] at c0; simp only [PT])
      | ((with_reducible refine sl 3 ?_); clear c0 c1 c2 c3 c4 c5 c6 c7 c8 c9 c10; go_must (refine wpL_newR rfl rfl 27 rfl (.tmp 3) (.tmp 8) rfl #[.int .i64 4, .bool false, .int .u32 0, .int .i64 0, .int .u32 0, .int .i64 0, .int .u64 0, .int .u32 0, .slice none 0 0, .slice none 0 0, .slice v.oad v.on v.oc] zeroC (by kernel_rfl) rfl (by simp only [List.all_toArray, List.all_cons, List.all_nil, Bool.and_true, Bool.and_eq_true]; exact ⟨rfl, rfl, rfl, rfl, rfl, rfl, rfl, rfl, rfl, rfl, rfl⟩) (fun _ => rfl) (fun _ => rfl) ?_); intro w3 hg3 hb3; have HY := Lib.hid hg3; have HNE := Lib.hid (Nat.ne_of_lt (lt_of_block HR.out)); have hE__ := cU HB bup hb3; replace HB := ck HB hE__; replace HX := ck HX hE__; replace HR := ck HR hE__; clear hE__; clear hg3 hb3; obtain ⟨c0, c1, c2, c3, c4, c5, c6, c7, c8, c9, c10⟩ := blk_cells HX.out; rw [← HK.out] at c0; obtain ⟨y0, y1, y2, y3, y4, y5, y6, y7, y8, y9, y10⟩ := cells11 HY.out; have f7 := frz HY.out 7; have f8 := frz HY.out 8; have f10 := frz HY.out 10; simp only [PT]))
    go_region
    all_goals
      go_wp2_with (first
        | ((with_reducible refine sl 69 ?_); go_must (refine wpL_load rfl 27 (.tmp 3) rfl w2.heap.size 0 rfl [.int .i64 4, .bool false, .int .u32 0, .int .i64 0, .int .u32 0, .int .i64 0, .int .u64 0, .int .u32 (v.len : Int), .slice v.dad v.dn v.dc, .slice none 0 0, .slice none 0 0] _ (range_arr (block_set (block_set (block_set HY.out))) rfl) Try.underlying27 rfl blk_info ?_); simp only [PT])
        | ((with_reducible show wpList _ _ _ (⟨none, .store _ _ (.tmp 69), _, _, _, _⟩ :: _) _ _); go_must (refine wpL_storeRow (T := 27) (old := zeroC) rfl 27 (.tmp 2) (.tmp 69) rfl w1.heap.size (List.toArray [.int .i64 4, .bool false, .int .u32 0, .int .i64 0, .int .u32 0, .int .i64 0, .int .u64 0, .int .u32 (v.len : Int), .slice v.dad v.dn v.dc, .slice none 0 0, .slice none 0 0]) rfl rfl (block_other HNE.out (block_other HNE.out (block_other HNE.out HR.out))) blk_info rfl (by simp only [List.all_toArray, List.all_cons, List.all_nil, Bool.and_true, Bool.and_eq_true]; exact ⟨rfl, rfl, rfl, rfl, rfl, rfl, rfl, rfl, rfl, rfl, rfl⟩) ?_); intro w9 hg9 hgr9; have HR9 := Lib.hid hg9; have hb9 : Below w.heap.size w w9 := Below.grown (by repeat (first | exact HB.out | refine Below.drew ?_ | refine Below.setCell ?_ HZ2.out _)) hgr9 (by simp [World.setCell]; exact HB.out.size) (fun k e => by cases e; exact HZ1.out); have HB9 := Lib.hid hb9; clear hg9 hgr9 hb9; simp only [PT]))
    all_goals
      rw [E.out]
      refine bodyPost_cell1 (cs := [.int .i64 4, .bool false, .int .u32 0, .int .i64 0, .int .u32 0, .int .i64 0, .int .u64 0, .int .u32 (v.len : Int), .slice v.dad v.dn v.dc, .slice none 0 0, .slice none 0 0]) rfl rfl (range_block HR9.out) Try.underlying27 rfl blk_info rfl ?_
      exact ⟨rfl, HB9.out⟩
  · clear h1 h7
    have E : Hid (C = [.int .i64 5, .bool false, .int .u32 0, .int .i64 0, .int .u32 0, .int .i64 0, .int .u64 0, .int .u32 0, .slice none 0 0, .slice v.nad v.nn v.nc, .slice v.oad v.on v.oc]) := Lib.hid (by rw [HC.out]; unfold onlyV; rw [← HK.out]; rfl)
    go_enter Try.func69, Try.ntmps69
    go_wp2_with (first
      | ((with_reducible refine sl 1 ?_); go_must (refine wpL_box rfl 27 (.tmp 0) rfl v.cells.toArray rfl ?_); intro w1 hg1 hb1; have HX := Lib.hid hg1; have hE__ := cU HB bup hb1; replace HB := ck HB hE__; clear hE__; have HZ1 := Lib.hid HB.out.size; clear hg1 hb1; simp only [PT])
      | ((with_reducible refine sl 2 ?_); go_must (refine wpL_alloc0 rfl 27 rfl zeroC 11 zero_info ?_); intro w2 hg2 hb2; have HR := Lib.hid hg2; have hE__ := cU HB bup hb2; replace HB := ck HB hE__; replace HX := ck HX hE__; clear hE__; have HZ2 := Lib.hid HB.out.size; clear hg2 hb2; obtain ⟨c0, c1, c2, c3, c4, c5, c6, c7, c8, c9, c10⟩ := blk_cells HX.out; rw [← HK.out] at c0; simp only [PT])
      | ((with_reducible refine sl 3 ?_); clear c0 c1 c2 c3 c4 c5 c6 c7 c8 c9 c10; go_must (refine wpL_newR rfl rfl 27 rfl (.tmp 3) (.tmp 8) rfl #[.int .i64 5, .bool false, .int .u32 0, .int .i64 0, .int .u32 0, .int .i64 0, .int .u64 0, .int .u32 0, .slice none 0 0, .slice none 0 0, .slice v.oad v.on v.oc] zeroC (by kernel_rfl) rfl (by simp only [List.all_toArray, List.all_cons, List.all_nil, Bool.and_true, Bool.and_eq_true]; exact ⟨rfl, rfl, rfl, rfl, rfl, rfl, rfl, rfl, rfl, rfl, rfl⟩) (fun _ => rfl) (fun _ => rfl) ?_); intro w3 hg3 hb3; have HY := Lib.hid hg3; have HNE := Lib.hid (Nat.ne_of_lt (lt_of_block HR.out)); have hE__ := cU HB bup hb3; replace HB := ck HB hE__; replace HX := ck HX hE__; replace HR := ck HR hE__; clear hE__; clear hg3 hb3; obtain ⟨c0, c1, c2, c3, c4, c5, c6, c7, c8, c9, c10⟩ := blk_cells HX.out; rw [← HK.out] at c0; obtain ⟨y0, y1, y2, y3, y4, y5, y6, y7, y8, y9, y10⟩ := cells11 HY.out; have f9 := frz HY.out 9; simp only [PT])
      | ((with_reducible refine sl 69 ?_); go_must (refine wpL_load rfl 27 (.tmp 3) rfl w2.heap.size 0 rfl [.int .i64 5, .bool false, .int .u32 0, .int .i64 0, .int .u32 0, .int .i64 0, .int .u64 0, .int .u32 0, .slice none 0 0, .slice v.nad v.nn v.nc, .slice v.oad v.on v.oc] _ (range_arr (block_set HY.out) rfl) Try.underlying27 rfl blk_info ?_); simp only [PT])
      | ((with_reducible show wpList _ _ _ (⟨none, .store _ _ (.tmp 69), _, _, _, _⟩ :: _) _ _); go_must (refine wpL_storeRow (T := 27) (old := zeroC) rfl 27 (.tmp 2) (.tmp 69) rfl w1.heap.size (List.toArray [.int .i64 5, .bool false, .int .u32 0, .int .i64 0, .int .u32 0, .int .i64 0, .int .u64 0, .int .u32 0, .slice none 0 0, .slice v.nad v.nn v.nc, .slice v.oad v.on v.oc]) rfl rfl (block_other HNE.out HR.out) blk_info rfl (by simp only [List.all_toArray, List.all_cons, List.all_nil, Bool.and_true, Bool.and_eq_true]; exact ⟨rfl, rfl, rfl, rfl, rfl, rfl, rfl, rfl, rfl, rfl, rfl⟩) ?_); intro w9 hg9 hgr9; have HR9 := Lib.hid hg9; have hb9 : Below w.heap.size w w9 := Below.grown (by repeat (first | exact HB.out | refine Below.drew ?_ | refine Below.setCell ?_ HZ2.out _)) hgr9 (by simp [World.setCell]; exact HB.out.size) (fun k e => by cases e; exact HZ1.out); have HB9 := Lib.hid hb9; clear hg9 hgr9 hb9; simp only [PT]))
    all_goals
      rw [E.out]
      refine bodyPost_cell1 (cs := [.int .i64 5, .bool false, .int .u32 0, .int .i64 0, .int .u32 0, .int .i64 0, .int .u64 0, .int .u32 0, .slice none 0 0, .slice v.nad v.nn v.nc, .slice v.oad v.on v.oc]) rfl rfl (range_block HR9.out) Try.underlying27 rfl blk_info rfl ?_
      exact ⟨rfl, HB9.out⟩
  · clear h1 h7
    have E : Hid (C = [.int .i64 6, .bool false, .int .u32 0, .int .i64 0, .int .u32 0, .int .i64 v.iface, .int .u64 (v.time : Int), .int .u32 0, .slice none 0 0, .slice none 0 0, .slice v.oad v.on v.oc]) := Lib.hid (by rw [HC.out]; unfold onlyV; rw [← HK.out]; rfl)
    go_enter Try.func69, Try.ntmps69
    go_wp2_with (first
      | ((with_reducible refine sl 1 ?_); go_must (refine wpL_box rfl 27 (.tmp 0) rfl v.cells.toArray rfl ?_); intro w1 hg1 hb1; have HX := Lib.hid hg1; have hE__ := cU HB bup hb1; replace HB := ck HB hE__; clear hE__; have HZ1 := Lib.hid HB.out.size; clear hg1 hb1; simp only [PT])
      | ((with_reducible refine sl 2 ?_); go_must (refine wpL_alloc0 rfl 27 rfl zeroC 11 zero_info ?_); intro w2 hg2 hb2; have HR := Lib.hid hg2; have hE__ := cU HB bup hb2; replace HB := ck HB hE__; replace HX := ck HX hE__; clear hE__; have HZ2 := Lib.hid HB.out.size; clear hg2 hb2; obtain ⟨c0, c1, c2, c3, c4, c5, c6, c7, c8, c9, c10⟩ := blk_cells HX.out; rw [← HK.out] at c0; simp only [PT])
      | ((with_reducible refine sl 3 ?_); clear c0 c1 c2 c3 c4 c5 c6 c7 c8 c9 c10; go_must (refine wpL_newR rfl rfl 27 rfl (.tmp 3) (.tmp 8) rfl #[.int .i64 6, .bool false, .int .u32 0, .int .i64 0, .int .u32 0, .int .i64 0, .int .u64 0, .int .u32 0, .slice none 0 0, .slice none 0 0, .slice v.oad v.on v.oc] zeroC (by kernel_rfl) rfl (by simp only [List.all_toArray, List.all_cons, List.all_nil, Bool.and_true, Bool.and_eq_true]; exact ⟨rfl, rfl, rfl, rfl, rfl, rfl, rfl, rfl, rfl, rfl, rfl⟩) (fun _ => rfl) (fun _ => rfl) ?_); intro w3 hg3 hb3; have HY := Lib.hid hg3; have HNE := Lib.hid (Nat.ne_of_lt (lt_of_block HR.out)); have hE__ := cU HB bup hb3; replace HB := ck HB hE__; replace HX := ck HX hE__; replace HR := ck HR hE__; clear hE__; clear hg3 hb3; obtain ⟨c0, c1, c2, c3, c4, c5, c6, c7, c8, c9, c10⟩ := blk_cells HX.out; rw [← HK.out] at c0; obtain ⟨y0, y1, y2, y3, y4, y5, y6, y7, y8, y9, y10⟩ := cells11 HY.out; have f5 := frz HY.out 5; have f6 := frz HY.out 6; simp only [PT]))
    go_region
    all_goals
      go_wp2_with (first
        | ((with_reducible refine sl 69 ?_); go_must (refine wpL_load rfl 27 (.tmp 3) rfl w2.heap.size 0 rfl [.int .i64 6, .bool false, .int .u32 0, .int .i64 0, .int .u32 0, .int .i64 v.iface, .int .u64 (v.time : Int), .int .u32 0, .slice none 0 0, .slice none 0 0, .slice v.oad v.on v.oc] _ (range_arr (block_set (block_set HY.out)) rfl) Try.underlying27 rfl blk_info ?_); simp only [PT])
        | ((with_reducible show wpList _ _ _ (⟨none, .store _ _ (.tmp 69), _, _, _, _⟩ :: _) _ _); go_must (refine wpL_storeRow (T := 27) (old := zeroC) rfl 27 (.tmp 2) (.tmp 69) rfl w1.heap.size (List.toArray [.int .i64 6, .bool false, .int .u32 0, .int .i64 0, .int .u32 0, .int .i64 v.iface, .int .u64 (v.time : Int), .int .u32 0, .slice none 0 0, .slice none 0 0, .slice v.oad v.on v.oc]) rfl rfl (block_other HNE.out (block_other HNE.out HR.out)) blk_info rfl (by simp only [List.all_toArray, List.all_cons, List.all_nil, Bool.and_true, Bool.and_eq_true]; exact ⟨rfl, rfl, rfl, rfl, rfl, rfl, rfl, rfl, rfl, rfl, rfl⟩) ?_); intro w9 hg9 hgr9; have HR9 := Lib.hid hg9; have hb9 : Below w.heap.size w w9 := Below.grown (by repeat (first | exact HB.out | refine Below.drew ?_ | refine Below.setCell ?_ HZ2.out _)) hgr9 (by simp [World.setCell]; exact HB.out.size) (fun k e => by cases e; exact HZ1.out); have HB9 := Lib.hid hb9; clear hg9 hgr9 hb9; simp only [PT]))
    all_goals
      rw [E.out]
      refine bodyPost_cell1 (cs := [.int .i64 6, .bool false, .int .u32 0, .int .i64 0, .int .u32 0, .int .i64 v.iface, .int .u64 (v.time : Int), .int .u32 0, .slice none 0 0, .slice none 0 0, .slice v.oad v.on v.oc]) rfl rfl (range_block HR9.out) Try.underlying27 rfl blk_info rfl ?_
      exact ⟨rfl, HB9.out⟩
  · clear h1 h7
    have E : Hid (C = [.int .i64 7, .bool false, .int .u32 (v.type : Int), .int .i64 0, .int .u32 0, .int .i64 0, .int .u64 0, .int .u32 0, .slice v.dad v.dn v.dc, .slice none 0 0, .slice none 0 0]) := Lib.hid (by rw [HC.out]; unfold onlyV; rw [← HK.out]; rfl)
    go_enter Try.func69, Try.ntmps69
    go_wp2_with (first
      | ((with_reducible refine sl 1 ?_); go_must (refine wpL_box rfl 27 (.tmp 0) rfl v.cells.toArray rfl ?_); intro w1 hg1 hb1; have HX := Lib.hid hg1; have hE__ := cU HB bup hb1; replace HB := ck HB hE__; clear hE__; have HZ1 := Lib.hid HB.out.size; clear hg1 hb1; simp only [PT])
      | ((with_reducible refine sl 2 ?_); go_must (refine wpL_alloc0 rfl 27 rfl zeroC 11 zero_info ?_); intro w2 hg2 hb2; have HR := Lib.hid hg2; have hE__ := cU HB bup hb2; replace HB := ck HB hE__; replace HX := ck HX hE__; clear hE__; have HZ2 := Lib.hid HB.out.size; clear hg2 hb2; obtain ⟨c0, c1, c2, c3, c4, c5, c6, c7, c8, c9, c10⟩ := blk_cells HX.out; rw [← HK.out] at c0; simp only [PT])
      | ((with_reducible refine sl 3 ?_); clear c0 c1 c2 c3 c4 c5 c6 c7 c8 c9 c10; go_must (refine wpL_newR rfl rfl 27 rfl (.tmp 3) (.tmp 8) rfl #[.int .i64 7, .bool false, .int .u32 0, .int .i64 0, .int .u32 0, .int .i64 0, .int .u64 0, .int .u32 0, .slice none 0 0, .slice none 0 0, .slice v.oad v.on v.oc] zeroC (by kernel_rfl) rfl (by simp only [List.all_toArray, List.all_cons, List.all_nil, Bool.and_true, Bool.and_eq_true]; exact ⟨rfl, rfl, rfl, rfl, rfl, rfl, rfl, rfl, rfl, rfl, rfl⟩) (fun _ => rfl) (fun _ => rfl) ?_); intro w3 hg3 hb3; have HY := Lib.hid hg3; have HNE := Lib.hid (Nat.ne_of_lt (lt_of_block HR.out)); have hE__ := cU HB bup hb3; replace HB := ck HB hE__; replace HX := ck HX hE__; replace HR := ck HR hE__; clear hE__; clear hg3 hb3; obtain ⟨c0, c1, c2, c3, c4, c5, c6, c7, c8, c9, c10⟩ := blk_cells HX.out; rw [← HK.out] at c0; obtain ⟨y0, y1, y2, y3, y4, y5, y6, y7, y8, y9, y10⟩ := cells11 HY.out; have f2 := frz HY.out 2; have f8 := frz HY.out 8; have f10 := frz HY.out 10; simp only [PT]))
    go_region
    all_goals
      go_wp2_with (first
        | ((with_reducible refine sl 69 ?_); go_must (refine wpL_load rfl 27 (.tmp 3) rfl w2.heap.size 0 rfl [.int .i64 7, .bool false, .int .u32 (v.type : Int), .int .i64 0, .int .u32 0, .int .i64 0, .int .u64 0, .int .u32 0, .slice v.dad v.dn v.dc, .slice none 0 0, .slice none 0 0] _ (range_arr (block_set (block_set (block_set HY.out))) rfl) Try.underlying27 rfl blk_info ?_); simp only [PT])
        | ((with_reducible show wpList _ _ _ (⟨none, .store _ _ (.tmp 69), _, _, _, _⟩ :: _) _ _); go_must (refine wpL_storeRow (T := 27) (old := zeroC) rfl 27 (.tmp 2) (.tmp 69) rfl w1.heap.size (List.toArray [.int .i64 7, .bool false, .int .u32 (v.type : Int), .int .i64 0, .int .u32 0, .int .i64 0, .int .u64 0, .int .u32 0, .slice v.dad v.dn v.dc, .slice none 0 0, .slice none 0 0]) rfl rfl (block_other HNE.out (block_other HNE.out (block_other HNE.out HR.out))) blk_info rfl (by simp only [List.all_toArray, List.all_cons, List.all_nil, Bool.and_true, Bool.and_eq_true]; exact ⟨rfl, rfl, rfl, rfl, rfl, rfl, rfl, rfl, rfl, rfl, rfl⟩) ?_); intro w9 hg9 hgr9; have HR9 := Lib.hid hg9; have hb9 : Below w.heap.size w w9 := Below.grown (by repeat (first | exact HB.out | refine Below.drew ?_ | refine Below.setCell ?_ HZ2.out _)) hgr9 (by simp [World.setCell]; exact HB.out.size) (fun k e => by cases e; exact HZ1.out); have HB9 := Lib.hid hb9; clear hg9 hgr9 hb9; simp only [PT]))
    all_goals
      rw [E.out]
      refine bodyPost_cell1 (cs := [.int .i64 7, .bool false, .int .u32 (v.type : Int), .int .i64 0, .int .u32 0, .int .i64 0, .int .u64 0, .int .u32 0, .slice v.dad v.dn v.dc, .slice none 0 0, .slice none 0 0]) rfl rfl (range_block HR9.out) Try.underlying27 rfl blk_info rfl ?_
      exact ⟨rfl, HB9.out⟩
end Go.Proofs.Ytmfplinbbcoahaa
/-
  Chapter 26: two blocks compared, walked.
-/
namespace Go.Proofs.Ytmfplinbbcoahaa
open Go.RowKit Go.Sort
set_option linter.unusedVariables false
set_option linter.unusedSimpArgs false

theorem same_split (v u : BlkV) : sameP v.val u.val = (v.kind == u.kind && v.big == u.big && v.type == u.type && v.link == u.link && v.snap == u.snap && v.iface == u.iface && v.time == u.time && v.len == u.len && sameB v.dl u.dl && decide (vals v.ns = vals u.ns) && decide (vals v.os = vals u.os)) := rfl

set_option maxHeartbeats 8000000 in
set_option maxRecDepth 100000 in
theorem blkSame_any (v u : BlkV) (w : World) (hv : Blk w v) (hu : Blk w u) :
    Calls Try.prog 21 #[.agg v.cells.toArray, .agg u.cells.toArray] w fun e w' => e = .returned (.bool (sameP v.val u.val)) ∧ Below w.heap.size w w' := by
  have HB := Lib.hid (Below.refl w.heap.size w)
  have HV := Lib.hid hv
  have HU := Lib.hid hu
  rw [same_split]
  obtain ⟨D1, hD1⟩ : ∃ D, D = sameB v.dl u.dl := ⟨_, rfl⟩
  obtain ⟨D2, hD2⟩ : ∃ D, D = decide (vals v.ns = vals u.ns) := ⟨_, rfl⟩
  obtain ⟨D3, hD3⟩ : ∃ D, D = decide (vals v.os = vals u.os) := ⟨_, rfl⟩
  rw [← hD1, ← hD2, ← hD3]
  have HD1 := Lib.hid hD1
  have HD2 := Lib.hid hD2
  have HD3 := Lib.hid hD3
  obtain ⟨X, hX⟩ : ∃ X, X = (v.kind == u.kind && v.big == u.big && v.type == u.type && v.link == u.link && v.snap == u.snap && v.iface == u.iface && v.time == u.time && v.len == u.len && D1 && D2 && D3) := ⟨_, rfl⟩
  rw [← hX]
  have HX := Lib.hid hX
  clear hv hu hD1 hD2 hD3 hX
  go_enter Try.func21, Try.ntmps21
  go_wp2_with (first
    | ((with_reducible refine sl 2 ?_); go_must (refine wpL_box rfl 27 (.tmp 0) rfl v.cells.toArray rfl ?_); intro w1 hg1 hb1; have HG1 := Lib.hid hg1; have hE__ := cU HB bup hb1; replace HB := ck HB hE__; clear hE__; clear hg1 hb1; simp only [PT])
    | ((with_reducible refine sl 3 ?_); go_must (refine wpL_box rfl 27 (.tmp 1) rfl u.cells.toArray rfl ?_); intro w2 hg2 hb2; have HG2 := Lib.hid hg2; have hE__ := cU HB bup hb2; replace HB := ck HB hE__; replace HG1 := ck HG1 hE__; clear hE__; clear hg2 hb2; obtain ⟨c0, c1, c2, c3, c4, c5, c6, c7, c8, c9, c10⟩ := blk_cells HG1.out; obtain ⟨e0, e1, e2, e3, e4, e5, e6, e7, e8, e9, e10⟩ := blk_cells HG2.out; simp only [PT])
    | (go_at_call 43; go_must (refine (bytesEqual_any v.dad v.dn v.dc v.dl u.dad u.dn u.dc u.dl _ (HV.out.1.below (HB.out.trans (Below.mono bup HB.out.size))) (HU.out.1.below (HB.out.trans (Below.mono bup HB.out.size)))).mono ?_); intro e w' hr; rw [← HD1.out] at hr; obtain ⟨rfl, rfl⟩ := hr)
    | (go_at_call 44; (with_reducible show Calls _ _ #[Value.slice v.nad _ _, _] _ _); go_must (refine (optSame_any v.nad v.nn v.nc v.ns u.nad u.nn u.nc u.ns _ (HV.out.2.1.below (HB.out.trans (Below.mono bup HB.out.size))) (HU.out.2.1.below (HB.out.trans (Below.mono bup HB.out.size)))).mono ?_); intro e w5 hr; rw [← HD2.out] at hr; obtain ⟨rfl, hb5⟩ := hr; have hE__ := cU HB bup hb5; replace HB := ck HB hE__; replace HG1 := ck HG1 hE__; replace HG2 := ck HG2 hE__; clear hE__; clear hb5 c0 c1 c2 c3 c4 c5 c6 c7 c8 c9 c10 e0 e1 e2 e3 e4 e5 e6 e7 e8 e9 e10; obtain ⟨c0, c1, c2, c3, c4, c5, c6, c7, c8, c9, c10⟩ := blk_cells HG1.out; obtain ⟨e0, e1, e2, e3, e4, e5, e6, e7, e8, e9, e10⟩ := blk_cells HG2.out)
    | (go_at_call 44; (with_reducible show Calls _ _ #[Value.slice v.oad _ _, _] _ _); go_must (refine (optSame_any v.oad v.on v.oc v.os u.oad u.on u.oc u.os _ (HV.out.2.2.below (HB.out.trans (Below.mono bup HB.out.size))) (HU.out.2.2.below (HB.out.trans (Below.mono bup HB.out.size)))).mono ?_); intro e w6 hr; rw [← HD3.out] at hr; obtain ⟨rfl, hb5⟩ := hr; have hE__ := cU HB bup hb5; replace HB := ck HB hE__; clear hE__; clear hb5))
  all_goals
    go_ret
    refine ⟨?_, HB.out⟩
    rw [HX.out]
    first
      | rfl
      | (simp [*]; done)
      | (simp [*]; omega)
end Go.Proofs.Ytmfplinbbcoahaa
/-
  Few options are not long.
-/
namespace Go.Proofs.Ytmfplinbbcoahaa
open Go.RowKit Go.Sort
set_option linter.unusedVariables false
set_option linter.unusedSimpArgs false

theorem size_of_sum : ∀ l : List OV, (l.map fun o => min o.2.length 100000).sum < 100000 → sizeO l ≤ (l.map fun o => min o.2.length 100000).sum + 7 * l.length
  | [], _ => by simp [sizeO]
  | o :: l, h => by
    simp only [List.map_cons, List.sum_cons] at h
    have ih := size_of_sum l (by omega)
    have hp := padN_le o.2.length
    simp only [sizeO, List.map_cons, List.sum_cons, List.length_cons, lenO] at *
    omega
theorem few_size {l : List OV} (h : fewO l = true) : sizeO l ≤ 70420 ∧ l.length ≤ 60 := by
  unfold fewO sumF at h
  simp only [Bool.and_eq_true, decide_eq_true_eq] at h
  obtain ⟨h1, h2⟩ := h
  rw [List.take_of_length_le (by omega)] at h2
  have := size_of_sum l (by omega)
  omega
end Go.Proofs.Ytmfplinbbcoahaa
/-
  Chapter 26: two blocks compared (the document's answer); few blocks; options that may be, walked.
-/
namespace Go.Proofs.Ytmfplinbbcoahaa
open Go.RowKit Go.Sort
set_option linter.unusedVariables false
set_option linter.unusedSimpArgs false

set_option maxHeartbeats 8000000 in
set_option maxRecDepth 100000 in
theorem refBlkSame_any (v u : BlkV) (w : World) (hv : Blk w v) (hu : Blk w u) :
    Calls Try.prog 22 #[.agg v.cells.toArray, .agg u.cells.toArray] w fun e w' => e = .returned (.bool (sameP v.val u.val)) ∧ Below w.heap.size w w' := by
  have HB := Lib.hid (Below.refl w.heap.size w)
  have HV := Lib.hid hv
  have HU := Lib.hid hu
  rw [same_split]
  obtain ⟨D1, hD1⟩ : ∃ D, D = sameB v.dl u.dl := ⟨_, rfl⟩
  obtain ⟨D2, hD2⟩ : ∃ D, D = decide (vals v.ns = vals u.ns) := ⟨_, rfl⟩
  obtain ⟨D3, hD3⟩ : ∃ D, D = decide (vals v.os = vals u.os) := ⟨_, rfl⟩
  rw [← hD1, ← hD2, ← hD3]
  have HD2 := Lib.hid hD2
  have HD3 := Lib.hid hD3
  have hstr : ((strOf v.dl).toList == (strOf u.dl).toList) = D1 := by rw [sameB_str, hD1]
  obtain ⟨X, hX⟩ : ∃ X, X = (v.kind == u.kind && v.big == u.big && v.type == u.type && v.link == u.link && v.snap == u.snap && v.iface == u.iface && v.time == u.time && v.len == u.len && D1 && D2 && D3) := ⟨_, rfl⟩
  rw [← hX]
  have HX := Lib.hid hX
  clear hv hu hD1 hD2 hD3 hX
  go_enter Try.func22, Try.ntmps22
  go_wp2_with (first
    | ((with_reducible refine sl 2 ?_); go_must (refine wpL_box rfl 27 (.tmp 0) rfl v.cells.toArray rfl ?_); intro w1 hg1 hb1; have HG1 := Lib.hid hg1; have hE__ := cU HB bup hb1; replace HB := ck HB hE__; clear hE__; clear hg1 hb1; simp only [PT])
    | ((with_reducible refine sl 3 ?_); go_must (refine wpL_box rfl 27 (.tmp 1) rfl u.cells.toArray rfl ?_); intro w2 hg2 hb2; have HG2 := Lib.hid hg2; have hE__ := cU HB bup hb2; replace HB := ck HB hE__; replace HG1 := ck HG1 hE__; clear hE__; clear hg2 hb2; obtain ⟨c0, c1, c2, c3, c4, c5, c6, c7, c8, c9, c10⟩ := blk_cells HG1.out; obtain ⟨e0, e1, e2, e3, e4, e5, e6, e7, e8, e9, e10⟩ := blk_cells HG2.out; simp only [PT])
    | ((with_reducible refine sl 62 ?_); refine wpL_str elB.1 (by kernel_rfl) (by kernel_rfl) rfl (.tmp 61) rfl rfl (HV.out.1.below (HB.out.trans (Below.mono bup HB.out.size))) ?_; simp only [PT])
    | ((with_reducible refine sl 65 ?_); refine wpL_str elB.1 (by kernel_rfl) (by kernel_rfl) rfl (.tmp 64) rfl rfl (HU.out.1.below (HB.out.trans (Below.mono bup HB.out.size))) ?_; simp only [PT])
    | (go_at_call 45; (with_reducible show Calls _ _ #[Value.slice v.nad _ _, _] _ _); go_must (refine (refSame_any v.nad v.nn v.nc v.ns u.nad u.nn u.nc u.ns _ (HV.out.2.1.below (HB.out.trans (Below.mono bup HB.out.size))) (HU.out.2.1.below (HB.out.trans (Below.mono bup HB.out.size)))).mono ?_); intro e w5 hr; rw [← HD2.out] at hr; obtain ⟨rfl, hb5⟩ := hr; have hE__ := cU HB bup hb5; replace HB := ck HB hE__; replace HG1 := ck HG1 hE__; replace HG2 := ck HG2 hE__; clear hE__; clear hb5 c0 c1 c2 c3 c4 c5 c6 c7 c8 c9 c10 e0 e1 e2 e3 e4 e5 e6 e7 e8 e9 e10; obtain ⟨c0, c1, c2, c3, c4, c5, c6, c7, c8, c9, c10⟩ := blk_cells HG1.out; obtain ⟨e0, e1, e2, e3, e4, e5, e6, e7, e8, e9, e10⟩ := blk_cells HG2.out)
    | (go_at_call 45; (with_reducible show Calls _ _ #[Value.slice v.oad _ _, _] _ _); go_must (refine (refSame_any v.oad v.on v.oc v.os u.oad u.on u.oc u.os _ (HV.out.2.2.below (HB.out.trans (Below.mono bup HB.out.size))) (HU.out.2.2.below (HB.out.trans (Below.mono bup HB.out.size)))).mono ?_); intro e w6 hr; rw [← HD3.out] at hr; obtain ⟨rfl, hb5⟩ := hr; have hE__ := cU HB bup hb5; replace HB := ck HB hE__; clear hE__; clear hb5))
  all_goals
    go_ret
    refine ⟨?_, HB.out⟩
    rw [HX.out]
    first
      | rfl
      | (simp [*]; done)
      | (simp [*]; omega)

def fewB (v : BlkV) : Bool := fewO (vals v.ns) && fewO (vals v.os) && decide (v.dn ≤ 1100000)
theorem fewB_sizes {v : BlkV} (h : fewB v = true) : sizeO (vals v.ns) ≤ 70420 ∧ sizeO (vals v.os) ≤ 70420 ∧ v.dn ≤ 1100000 := by
  simp only [fewB, Bool.and_eq_true, decide_eq_true_eq] at h
  exact ⟨(few_size h.1.1).1, (few_size h.1.2).1, h.2⟩
/-- no longer than what a few options and bytes are -/
structure SmB (v : BlkV) : Prop where
  sizes : sizeO (vals v.ns) ≤ 70420 ∧ sizeO (vals v.os) ≤ 70420 ∧ v.dn ≤ 1100000
theorem SmB.of_few {v : BlkV} (h : fewB v = true) : SmB v := ⟨fewB_sizes h⟩
set_option maxRecDepth 100000 in
theorem blkFew_any (v : BlkV) (w : World) (hv : Blk w v) :
    Calls Try.prog 18 #[.agg v.cells.toArray] w fun e w' => e = .returned (.bool (fewB v)) ∧ Below w.heap.size w w' := by
  have HB := Lib.hid (Below.refl w.heap.size w)
  have HV := Lib.hid hv
  obtain ⟨D2, hD2⟩ : ∃ D, D = fewO (vals v.ns) := ⟨_, rfl⟩
  obtain ⟨D3, hD3⟩ : ∃ D, D = fewO (vals v.os) := ⟨_, rfl⟩
  unfold fewB
  rw [← hD2, ← hD3]
  have HD2 := Lib.hid hD2
  have HD3 := Lib.hid hD3
  clear hv hD2 hD3
  go_enter Try.func18, Try.ntmps18
  go_wp2_with (first
    | ((with_reducible refine sl 1 ?_); go_must (refine wpL_box rfl 27 (.tmp 0) rfl v.cells.toArray rfl ?_); intro w1 hg1 hb1; have HG1 := Lib.hid hg1; have hE__ := cU HB bup hb1; replace HB := ck HB hE__; clear hE__; clear hg1 hb1; obtain ⟨c0, c1, c2, c3, c4, c5, c6, c7, c8, c9, c10⟩ := blk_cells HG1.out; simp only [PT])
    | (go_at_call 40; (with_reducible show Calls _ _ #[Value.slice v.nad _ _] _ _); go_must (refine (few_any v.nad v.nn v.nc v.ns _ (HV.out.2.1.below (HB.out.trans (Below.mono bup HB.out.size)))).mono ?_); intro e w' hr; rw [← HD2.out] at hr; obtain ⟨rfl, rfl⟩ := hr)
    | (go_at_call 40; (with_reducible show Calls _ _ #[Value.slice v.oad _ _] _ _); go_must (refine (few_any v.oad v.on v.oc v.os _ (HV.out.2.2.below (HB.out.trans (Below.mono bup HB.out.size)))).mono ?_); intro e w' hr; rw [← HD3.out] at hr; obtain ⟨rfl, rfl⟩ := hr))
  all_goals
    go_ret
    refine ⟨?_, HB.out⟩
    first
      | rfl
      | (simp [*]; done)
      | (simp [*]; omega)
set_option maxRecDepth 100000 in
theorem fine_any (ad : Option Addr) (n c : Nat) (os : List OptV) (w : World) (hs : Ops w ad n c os) (hz : sizeO (vals os) ≤ 70420) :
    Calls Try.prog 70 #[.slice ad n c] w fun e w' => e = .returned (.bool (wrongO (vals os) == 0)) ∧ Below w.heap.size w w' := by
  have HB := Lib.hid (Below.refl w.heap.size w)
  have HS := Lib.hid hs
  obtain ⟨X, hX⟩ : ∃ X, X = wrongO (vals os) := ⟨_, rfl⟩
  rw [← hX]
  have HX := Lib.hid hX
  clear hs hX
  by_cases hx : X = 0
  · have HXX := Lib.hid hx
    go_enter Try.func70, Try.ntmps70
    go_wp2_with (first
      | (go_at_call 80; go_must (refine (optPut_any ad n c os true _ (HS.out.below HB.out) (by omega)).mono ?_); intro e w3 hr3; rw [← HX.out] at hr3; obtain ⟨hb3, h3⟩ := hr3; rcases h3 with ⟨h3, _⟩ | ⟨_, ad3, c3, rfl, ho3⟩; exact absurd HXX.out h3; have hE__ := cU HB bup hb3; replace HB := ck HB hE__; clear hE__; clear hb3 ho3))
    go_ret
    exact ⟨by rw [HXX.out]; rfl, HB.out⟩
  · have hx2 : (X == 0) = false := by simpa using hx
    have HXX := Lib.hid hx2
    have HXN := Lib.hid hx
    go_enter Try.func70, Try.ntmps70
    go_wp2_with (first
      | (go_at_call 80; go_must (refine (optPut_any ad n c os true _ (HS.out.below HB.out) (by omega)).mono ?_); intro e w3 hr3; rw [← HX.out] at hr3; obtain ⟨hb3, h3⟩ := hr3; rcases h3 with ⟨_, rfl⟩ | ⟨h3, _⟩; rotate_left; exact absurd h3 HXN.out; have hE__ := cU HB bup hb3; replace HB := ck HB hE__; clear hE__; clear hb3))
    go_ret
    exact ⟨by rw [HXX.out]; simp [*], HB.out⟩
end Go.Proofs.Ytmfplinbbcoahaa
