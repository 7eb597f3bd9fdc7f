/-
  Joined by program (merge.py): Opts, Opt1, Zeros, Opt2, Opt3, Opt4, Opt5, Opt6, Opt7, Opt8, Opt9.
-/
import Derived.ChangeSlices
import Derived.BigQuiet
import Derived.Lib.AppendStr
import Derived.Lib.LazyBuf
import Derived.WalkMore
import Derived.Laws.StructEq
import Derived.Deep.RegionHeld
import Derived.OrdersHeld
import Derived.Test.YtmfplinbbcoahaaR1
set_option linter.unusedVariables false
set_option linter.unusedSimpArgs false
set_option maxRecDepth 100000
set_option maxHeartbeats 16000000
namespace Go.Proofs.Ytmfplinbbcoahaa
open Go.RowKit Go.Sort
open Go.ChangeShapes (open_ints)
structure OptV where
  code : Int
  ad : Option Addr
  n : Nat
  c : Nat
  l : List UInt8
def OptV.cells (o : OptV) : List Value := [.int .i64 o.code, .slice o.ad o.n o.c]
def OptV.val (o : OptV) : OV := (o.code, o.l)
def ocells (os : List OptV) : List Value := os.flatMap OptV.cells
def vals (os : List OptV) : List OV := os.map OptV.val
def Ops (w : World) (ad : Option Addr) (n c : Nat) (os : List OptV) : Prop := Sl w ad n c 2 (ocells os) ∧ ∀ o ∈ os, Bs w o.ad o.n o.c o.l
theorem ocells_length (os : List OptV) : (ocells os).length = 2 * os.length := by
  induction os with
  | nil => rfl
  | cons o os ih => simp only [ocells, List.flatMap_cons, List.length_append, OptV.cells, List.length_cons, List.length_nil] at *; omega
theorem ocells_append (os ps : List OptV) : ocells (os ++ ps) = ocells os ++ ocells ps := by simp [ocells]
theorem ocells_get : ∀ (os : List OptV) (j : Nat) (h : j < os.length), (ocells os)[2 * j]? = some (.int .i64 os[j].code) ∧ (ocells os)[2 * j + 1]? = some (.slice os[j].ad os[j].n os[j].c)
  | o :: os, 0, _ => by simp [ocells, OptV.cells]
  | o :: os, j + 1, h => by
    have := ocells_get os j (by simpa using h)
    have e : ocells (o :: os) = .int .i64 o.code :: .slice o.ad o.n o.c :: ocells os := by simp [ocells, OptV.cells]
    rw [e, show 2 * (j + 1) = (2 * j + 1) + 1 by omega, show (2 * j + 1) + 1 + 1 = (2 * j + 1 + 1) + 1 by omega]
    simpa using this
theorem z0n (os : List OptV) : (vals os).length = os.length := by simp [vals]
theorem vals_append (os ps : List OptV) : vals (os ++ ps) = vals os ++ vals ps := by simp [vals]
theorem Ops.len {w : World} {ad : Option Addr} {n c : Nat} {os : List OptV} (h : Ops w ad n c os) : n = os.length := by have := h.1.len; rw [ocells_length] at this; omega
theorem Ops.le {w : World} {ad : Option Addr} {n c : Nat} {os : List OptV} (h : Ops w ad n c os) : n ≤ c ∧ c ≤ 9223372036854775807 := ⟨h.1.2.1, by have := h.1.2.2.1; simp [maxLen] at this; omega⟩
theorem Ops.below {w w' : World} {ad : Option Addr} {n c : Nat} {os : List OptV} (h : Ops w ad n c os) (hb : Below w.heap.size w w') : Ops w' ad n c os := ⟨h.1.below hb, fun o ho => (h.2 o ho).below hb⟩
theorem Ops.at {w : World} {ad : Option Addr} {n c : Nat} {os : List OptV} (h : Ops w ad n c os) {j : Nat} (hj : j < os.length) :
    ∃ b off, ad = some ⟨b, off, none⟩ ∧ b < w.heap.size ∧ ∀ i (hi : i < os.length), w.cell? ⟨b, off + i * 2, none⟩ = some (.int .i64 os[i].code) ∧ w.cell? ⟨b, off + i * 2 + 1, none⟩ = some (.slice os[i].ad os[i].n os[i].c) ∧ Bs w os[i].ad os[i].n os[i].c os[i].l := by
  obtain ⟨b, off, ha, hb, hc⟩ := Sl.at h.1 (j := 2 * j) (by rw [ocells_length]; omega)
  refine ⟨b, off, ha, hb, fun i hi => ?_⟩
  obtain ⟨g1, g2⟩ := ocells_get os i hi
  obtain ⟨q1, e1⟩ := List.getElem?_eq_some_iff.1 g1
  obtain ⟨q2, e2⟩ := List.getElem?_eq_some_iff.1 g2
  refine ⟨?_, ?_, h.2 _ (List.getElem_mem hi)⟩
  · rw [Nat.mul_comm, hc (2 * i) q1, e1]
  · rw [Nat.add_assoc, Nat.mul_comm, hc (2 * i + 1) q2, e2]
section
variable {H : Type} {enc : TypeId × Value → H} {P : Program} {w : World} {base : Nat} {spare : Nat → Bool} {held : Bool}
end
end Go.Proofs.Ytmfplinbbcoahaa
namespace Go.Proofs.Ytmfplinbbcoahaa
open Go.RowKit Go.Sort
theorem vals_get (os : List OptV) (k : Nat) (h : k < os.length) (h2 : k < (vals os).length) : (vals os)[k] = os[k].val := by simp [vals]
theorem pad_nat (n : Nat) (w : World) (h : n ≤ 9223372036854775807) : Calls Try.prog 72 #[.int .i64 (n : Int)] w fun e w' => e = .returned (.int .i64 ((padN n : Nat) : Int)) ∧ w' = w := by
  rw [← padI_nat]
  exact (pad_any _ _ (by omega) (by omega)).mono fun _ _ h => ⟨h.1, h.2.symm⟩
def sizeA (l : List OV) : Nat := sizeO l + (if l.length = 0 then 0 else 4)
theorem sizeO_take (l : List OV) (k : Nat) (h : k < l.length) : sizeO (l.take (k + 1)) = sizeO (l.take k) + lenO l[k] := by
  unfold sizeO
  rw [List.take_add_one, List.getElem?_eq_getElem h, Option.toList_some, List.map_append, List.sum_append]
  simp only [List.map_cons, List.map_nil, List.sum_cons, List.sum_nil, Nat.add_zero]
theorem sizeO_take_le (l : List OV) (k : Nat) : sizeO (l.take k) ≤ sizeO l := by
  have : sizeO l = sizeO (l.take k) + sizeO (l.drop k) := by rw [← sizeO_append, List.take_append_drop]
  omega
theorem ocell_all (o : OptV) : o.cells.toArray.all (·.oneCell') = true := by
  simp only [OptV.cells, List.all_toArray, List.all_cons, List.all_nil, Bool.and_true, Bool.and_eq_true]
  exact ⟨rfl, rfl⟩
theorem ocell_range {w : World} {b off : Nat} {o : OptV} (h1 : w.cell? ⟨b, off, none⟩ = some (.int .i64 o.code)) (h2 : w.cell? ⟨b, off + 1, none⟩ = some (.slice o.ad o.n o.c)) : w.rangeAt b off o.cells := by
  intro j v hv
  match j with
  | 0 => simp [OptV.cells] at hv; subst hv; exact h1
  | 1 => simp [OptV.cells] at hv; subst hv; exact h2
  | j + 2 => simp [OptV.cells] at hv
theorem z28 (ad : Option Addr) (n c : Nat) (os : List OptV) (w : World) (hs : Ops w ad n c os) (hsz : sizeO (vals os) ≤ 140737488351232) :
    Calls Try.prog 71 #[.slice ad n c] w fun e w' => e = .returned (.int .i64 ((sizeA (vals os) : Nat) : Int)) ∧ Below w.heap.size w w' := by
  have hn := hs.len
  have hle := hs.le
  have HS := Hd hs
  have HI : Hid ((Try.prog.info? 90).map (·.size) = some 2) := Hd (by kernel_rfl)
  clear hs
  go_enter Try.func71, Try.ntmps71
  go_wp2_with fail
  go_loopw [3, 8] (fun s i wr => ∃ (k z : Nat), k ≤ n ∧ z ≤ 140737488351232 ∧ i = .int .i64 k ∧ s = .int .i64 z ∧ Hid (z = sizeO ((vals os).take k)) ∧ Below w.heap.size w wr) (fun _ i _ => n - (intOf i).toNat)
  case atStart => exact ⟨0, 0, by omega, by omega, rfl, rfl, Hd rfl, Below.refl _ _⟩
  case round =>
    obtain ⟨k, z, hk, hzl, rfl, rfl, HZ, hb0⟩ := hrel
    have HB := Hd hb0
    by_cases hlt : k < n
    · obtain ⟨b, off, rfl, hb, hat⟩ := (HS.out.below hb0).at (j := k) (by omega)
      obtain ⟨q1, q2, hbs⟩ := hat k (by omega)
      have hon := hbs.len
      have hol := hbs.le
      obtain ⟨o, ho⟩ : ∃ o, o = os[k]'(by omega) := ⟨_, rfl⟩
      rw [← ho] at q1 q2 hon hol
      have hp3 := padN_le o.n
      have hz2 : z + (4 + o.n + padN o.n) = sizeO ((vals os).take (k + 1)) := by
        rw [sizeO_take _ _ (by rw [z0n]; omega), vals_get _ _ (by omega), HZ.out, hon, ho]
        rfl
      have hz3 : z + (4 + o.n + padN o.n) ≤ 140737488351232 := by rw [hz2]; exact Nat.le_trans (sizeO_take_le _ _) hsz
      have HZ2 := Hd hz2
      have HR := Hd (ocell_range q1 q2)
      clear hat hbs ho hon HZ hz2 q1 q2 hb0
      go_wp2_with (first
 | ((with_reducible refine sl 11 ?_); (refine z05 rfl 90 (.tmp 10) rfl b (off + k * 2) rfl o.cells _ HR.out Try.underlying90 rfl HI.out ?_); simp only [PT])
 | ((with_reducible refine sl 5 ?_); (refine wpL_newAt wr.heap.size rfl rfl 90 rfl (.tmp 5) (.tmp 11) rfl o.cells.toArray #[.int .i64 0, .slice none 0 0] (by kernel_rfl) rfl (ocell_all o) (fun _ => rfl) (fun _ => rfl) rfl ?_); simp only [PT]))
      obtain ⟨w1, hw1⟩ : ∃ w1, w1 = wr.alloc (.cells o.cells.toArray 90) := ⟨_, rfl⟩
      have HB1 := Hd (show Below w.heap.size w w1 by rw [hw1]; exact HB.out.alloc HB.out.size _)
      have hc1 : w1.cell? ⟨wr.heap.size, 1, none⟩ = some (.slice o.ad o.n o.c) := by rw [hw1]; simp [OptV.cells]
      rw [← hw1]
      clear hw1
      go_quiet ((go_at_call 72; exact Calls.quiet_of_same (pad_nat _ _ (by omega))))
      have HB2 := Hd (HB1.out.trans (below_drewN _ _ nq))
      go_wp2_with fail
      go_roundw
      case rel => exact ⟨k + 1, z + (4 + o.n + padN o.n), by omega, hz3, by go_num, by go_num, HZ2, HB2.out⟩
      case measure => simp [intOf]; omega
    · have hk2 : k = n := by omega
      have hf : Hid (sizeA (vals os) = z + (if n = 0 then 0 else 4)) := Hd (by
        unfold sizeA
        rw [HZ.out, List.take_of_length_le (by rw [z0n]; omega), z0n, ← hn])
      by_cases h0 : n = 0
      · have h1 : ¬ ((0 : Int) < (n : Int)) := by omega
        go_wp2_with fail
        go_ret
        exact ⟨by rw [hf.out, if_pos h0]; rfl, HB.out⟩
      · have h1 : ((0 : Int) < (n : Int)) := by omega
        go_wp2_with fail
        go_ret
        exact ⟨by rw [hf.out, if_neg h0]; rfl, HB.out⟩
def zeros4 : ByteArray := ⟨#[0, 0, 0, 0]⟩
theorem run_append_zeros {P : Program} {w : World} {t ti u ty e : TypeId} {i : TypeInfo} {k : IntKind} (ht : P.underlying t = some (.slice e)) (hti : P.underlying ti = some (.int k)) (hu : P.underlying u = some .string) (hi : P.info? e = some i) (hz : i.zero = some (.int .u8 0)) (hs : i.size = 1) (hb : i.bytes = 1)
    (ad : Option Addr) (n c : Nat) (h63 : n + 4 ≤ 140737488351232) :
    (Builtin.append_ #[t, ti] ty #[.slice ad n c, .int .i64 4]).run P w = (Builtin.append_ #[t, u] ty #[.slice ad n c, .string zeros4]).run P w := by
  have hsz : zeros4.size = 4 := rfl
  have hw : IntKind.i64.wrap 4 = 4 := by decide
  have hzc : Builtin.zeroCells (Value.int IntKind.u8 0).cells 4 = #[.int .u8 0, .int .u8 0, .int .u8 0, .int .u8 0] := by
    apply Array.ext'
    unfold Builtin.zeroCells
    rw [Array.toList_map, Array.toList_range, show (Value.int IntKind.u8 0).cells = #[.int .u8 0] from rfl]
    rfl
  have hfc := fun w' => Lib.run_firstCells_string (P := P) (w := w') 1 zeros4
  have hst : (Lib.strCells zeros4).toArray = #[.int .u8 0, .int .u8 0, .int .u8 0, .int .u8 0] := by rfl
  rw [hst, hsz] at hfc
  by_cases hr : n + 4 ≤ c
  · simp [Builtin.append_, run_underlying ht, run_underlying hti, run_underlying hu, sizeOf, typeInfo, zeroValue, hi, hz, hs, hb, Builtin.lenOf, asInt, asIntOf, hw, hr, hsz, hzc, hfc]
  · have hfit := growslice_fits (bytes := 1) (Nat.lt_of_not_le hr) (by omega)
    have hfit' : ¬ (281474976710656 < Builtin.nextslicecap (n + 4) c) := by omega
    have h63' : ¬ (9223372036854775807 < ((n : Int) + max 4 0)) := by omega
    simp [Builtin.append_, run_underlying ht, run_underlying hti, run_underlying hu, sizeOf, typeInfo, zeroValue, hi, hz, hs, hb, Builtin.lenOf, asInt, asIntOf, hw, hr, hsz, hzc, hfit', h63', hfc, Question.forced]
theorem wpL_append_zeros {P : Program} {w : World} {ops : Array Oper} {rest : List Oper} {o : Oper} {a : Act} {Q : Exit → Act → World → Prop} {t ti u e : TypeId} {k : IntKind} (el : Elem P t e 1 1 (.int .u8 0)) (hti : P.underlying ti = some (.int k)) (hu : P.underlying u = some .string)
    (hgd : Region.wanted o (yielded ops a.tmps) = true) (s x : Operand) (ho : o.op = .call { callee := .builtin .append, args := #[s, x], argTypes := #[t, ti] })
    (base : Nat) {ad : Option Addr} {n c : Nat} {l : List UInt8} (hs : a.eval s = .slice ad n c) (hown : w.ownsRow base e 1 (.slice ad n c) n (BV l)) (hx : a.eval x = .int .i64 4)
    (h63 : n + 4 ≤ 140737488351232) (hbase : base ≤ w.heap.size)
    (h : ∀ ad' c' w', w'.ownsRow base e 1 (.slice ad' (n + 4) c') (n + 4) (BV (l ++ [0, 0, 0, 0])) → w.grownBy w' (Value.ownBlock (.slice ad n c)) → wpList P ops Q rest (a.put o.dst (.slice ad' (n + 4) c')) w') :
    wpList P ops Q (o :: rest) a w := by
  obtain ⟨i, hi, hz, hsize, hby⟩ := info_parts el.info
  obtain ⟨v', w', hr, hown', hgrow, _⟩ := Lib.run_append_own_string (P := P) w base t u o.type e i el.ht hu hi hz hsize hby _ n (BV l) hown zeros4 (by have : zeros4.size = 4 := rfl; unfold maxLen; omega) (by have : zeros4.size = 4 := rfl; omega) hbase
  have h4 : zeros4.size = 4 := rfl
  rw [h4] at hown'
  have e4 : BV l ++ Lib.strCells zeros4 = BV (l ++ [0, 0, 0, 0]) := by rw [z0i]; rfl
  rw [e4] at hown'
  obtain ⟨ad', c', rfl, _⟩ := own_forms hown'
  rw [← run_append_zeros (ty := o.type) el.ht hti hu hi hz hsize hby ad n c h63] at hr
  refine z23 hgd (v := .slice ad' (n + 4) c') (w' := w') ?_ (h ad' c' w' hown' hgrow)
  unfold execOp
  simp only [ho, resolve, invoke, builtin, Sem.run_bind, Sem.run_pure, Result.andThen_ok, List.map_toArray, List.map_cons, List.map_nil, hs, hx, hr]
theorem wpL_appG {P : Program} {w : World} {ops : Array Oper} {rest : List Oper} {o : Oper} {a : Act} {Q : Exit → Act → World → Prop} {t e : TypeId} {z : Value} (el : Elem P t e 1 1 z)
    (hgd : Region.wanted o (yielded ops a.tmps) = true) (s x : Operand) (ho : o.op = .call { callee := .builtin .append, args := #[s, x], argTypes := #[t, t] })
    (base G : Nat) {ad : Option Addr} {n c : Nat} {l : List UInt8} (hs : a.eval s = .slice ad n c) (hown : w.ownsRow base e 1 (.slice ad n c) n (BV l)) (hG : G < w.heap.size) (hne : ∀ x, ad = some x → x.block ≠ G)
    {ad2 : Option Addr} {m c2 : Nat} {news : List UInt8} (hx : a.eval x = .slice ad2 m c2) (hsl : Bs w ad2 m c2 news)
    (h63 : n + m ≤ 140737488351232) (hbase : base ≤ w.heap.size)
    (h : ∀ ad' c' w', w'.ownsRow base e 1 (.slice ad' (n + m) c') (n + m) (BV (l ++ news)) → Below base w w' → w'.heap[G]? = w.heap[G]? → (∀ x, ad' = some x → x.block ≠ G) →
      wpList P ops Q rest (a.put o.dst (.slice ad' (n + m) c')) w') :
    wpList P ops Q (o :: rest) a w := by
  refine z0k el hgd s x ho base hs hown hx hsl (z11 _) (by unfold maxLen; omega) (by omega) hbase fun ad' c' w' ho' hg' hat _ => h ad' c' w' ?_ ?_ ?_ ?_
  · rw [z0i]; exact ho'
  · exact (Below.refl base w).grown hg' hbase (z07 hown)
  · refine hg'.block G hG fun e => ?_
    rcases z29 hown with ⟨rfl, _⟩ | ⟨g, rfl, _⟩
    · simp [Value.ownBlock] at e
    · simp [Value.ownBlock] at e
      exact hne _ rfl e.symm
  · intro x hx
    rcases hat with rfl | rfl
    · exact hne x hx
    · cases hx
      show w.heap.size ≠ G
      omega
instance {w w' : World} {G : Nat} {ob : Obj} : Ck (w.heap[G]? = some ob) w' w (w'.heap[G]? = some ob) := ⟨fun h hE => (hE.block G (lt_of_block h)).trans h⟩
theorem oc0 {w : World} {g : Nat} {o : OptV} {T : TypeId} (h : w.heap[g]? = some (.cells #[.int .i64 o.code, .slice o.ad o.n o.c] T (0, 0))) : w.cell? ⟨g, 0, none⟩ = some (.int .i64 o.code) := by simp [World.cell?, h]
theorem oc1 {w : World} {g : Nat} {o : OptV} {T : TypeId} (h : w.heap[g]? = some (.cells #[.int .i64 o.code, .slice o.ad o.n o.c] T (0, 0))) : w.cell? ⟨g, 1, none⟩ = some (.slice o.ad o.n o.c) := by simp [World.cell?, h]
theorem wpL_newO {P : Program} {w : World} {ops : Array Oper} {rest : List Oper} {o1 o2 : Oper} {a : Act} {Q : Exit → Act → World → Prop} (o : OptV) (hg1 : o1.guard = none) (hg2 : o2.guard = none) (T : TypeId) (ho1 : o1.op = .alloc T) (x y : Operand) (ho2 : o2.op = .store T x y)
    (zs : Array Value) (hi : (P.info? T).map (fun i => (i.zero, i.size)) = some (some (.agg zs), 2)) (hz : zs.size = 2)
    (hx : ∀ p, (a.put o1.dst p).eval x = p) (hy : ∀ p, (a.put o1.dst p).eval y = .agg #[.int .i64 o.code, .slice o.ad o.n o.c])
    (h : ∀ w1, w1.heap[w.heap.size]? = some (.cells #[.int .i64 o.code, .slice o.ad o.n o.c] T (0, 0)) → Below w.heap.size w w1 → wpList P ops Q rest ((a.put o1.dst (.pointer (some ⟨w.heap.size, 0, none⟩))).put o2.dst undef) w1) :
    wpList P ops Q (o1 :: o2 :: rest) a w :=
  wpL_new hg1 hg2 T ho1 x y ho2 #[.int .i64 o.code, .slice o.ad o.n o.c] zs hi hz (ocell_all o) hx hy (h _ (heap_alloc_last w _) ((Below.refl _ _).alloc (Nat.le_refl _) _))
theorem putO_take (big : Bool) (l : List OV) (k : Nat) (h : k < l.length) : putO big (l.take (k + 1)) = putO big (l.take k) ++ putL l[k].1.toNat 2 big ++ putL l[k].2.length 2 big ++ padL l[k].2 := by
  rw [List.take_add_one, List.getElem?_eq_getElem h, Option.toList_some, putO_append, putO_one]
  simp only [optB, hdB, List.append_assoc]
theorem z1r (ad : Option Addr) (n c : Nat) (os : List OptV) (big : Bool) (w : World) (hs : Ops w ad n c os) (hsz : sizeO (vals os) + 4 ≤ 140737488351232) :
    Calls Try.prog 80 #[.slice ad n c, .bool big] w fun e w' => Below w.heap.size w w' ∧
      ((wrongO (vals os) ≠ 0 ∧ e = .returned (.tuple #[.slice none 0 0, .int .i64 (wrongO (vals os))])) ∨
       (wrongO (vals os) = 0 ∧ ∃ ad' c', e = .returned (.tuple #[.slice ad' (putAll big (vals os)).length c', .int .i64 0]) ∧ w'.ownsRow w.heap.size 5 1 (.slice ad' (putAll big (vals os)).length c') (putAll big (vals os)).length (BV (putAll big (vals os))))) := by
  have hn := hs.len
  have hle := hs.le
  have HS := Hd hs
  have HI : Hid ((Try.prog.info? 90).map (·.size) = some 2) := Hd (by kernel_rfl)
  obtain ⟨X, hX⟩ : ∃ X, X = wrongO (vals os) := ⟨_, rfl⟩
  have HX := Hd (show X = wrongO ((vals os).drop 0) by rw [hX, List.drop_zero])
  rw [← hX]
  have HN := Hd hn
  clear hs hX hn
  go_enter Try.func80, Try.ntmps80
  go_wp2_with fail
  go_loopw [6, 11] (fun v i wr => ∃ (k : Nat) (ad' : Option Addr) (n' c' : Nat), k ≤ n ∧ i = .int .i64 k ∧ v = .slice ad' n' c' ∧ n' = sizeO ((vals os).take k) ∧ wr.ownsRow w.heap.size 5 1 (.slice ad' n' c') n' (BV (putO big ((vals os).take k))) ∧ Below w.heap.size w wr ∧ Hid (X = wrongO ((vals os).drop k))) (fun _ i _ => n - (intOf i).toNat)
  case atStart => exact ⟨0, none, 0, 0, by omega, rfl, rfl, rfl, World.ownsRow_nil _ _ _ _, Below.refl _ _, HX⟩
  case round =>
    obtain ⟨k, ad1, n1, c1, hk, rfl, rfl, hn1, ho, hb, HX1⟩ := hrel
    have HO := Hd ho
    have HB := Hd hb
    have hn := HN.out
    by_cases hlt : k < n
    · obtain ⟨b, off, rfl, hbl, hat⟩ := (HS.out.below hb).at (j := k) (by omega)
      obtain ⟨q1, q2, hbs⟩ := hat k (by omega)
      have hon := hbs.len
      have hol := hbs.le
      obtain ⟨o, hoe⟩ : ∃ o, o = os[k]'(by omega) := ⟨_, rfl⟩
      rw [← hoe] at q1 q2 hon hol hbs
      have hkl : k < (vals os).length := by rw [z0n]; omega
      have hval : (vals os)[k] = (o.code, o.l) := by rw [vals_get _ _ (by omega), ← hoe]; rfl
      have HD : Hid (X = if o.code < 1 ∨ 65535 < o.code then 1 else if 65535 < o.n then 4 else wrongO ((vals os).drop (k + 1))) := Hd (by
        rw [HX1.out, List.drop_eq_getElem_cons hkl, wrongO, hval, hon])
      have HP := Hd (putO_take big (vals os) k hkl)
      rw [hval] at HP
      dsimp only at HP
      have hz2 : n1 + (4 + o.n + padN o.n) = sizeO ((vals os).take (k + 1)) := by
        rw [sizeO_take _ _ hkl, hval, hn1, hon]
        rfl
      have hz3 : n1 + (4 + o.n + padN o.n) ≤ 140737488351228 := by
        have := sizeO_take_le (vals os) (k + 1)
        omega
      have HZ2 := Hd hz2
      have HR := Hd (ocell_range q1 q2)
      have HBS : Hid (Bs w o.ad o.n o.c o.l) := Hd (by
        obtain ⟨_, _, _, _, hat0⟩ := HS.out.at (j := k) (by omega)
        rw [hoe]
        exact (hat0 k (by omega)).2.2)
      have hne : ∀ x, ad1 = some x → x.block ≠ wr.heap.size := by
        intro x hx e
        rcases z29 ho with ⟨h, _⟩ | ⟨g, h, h2, h3⟩
        · rw [h] at hx; cases hx
        · rw [h] at hx; cases hx
          have e2 : g = wr.heap.size := e
          omega
      have HNE := Hd hne
      have HON := Hd hon
      clear hat hoe HX1 HX hz2 q1 q2 hb ho hbs hkl hval hne hn1 hon hn
      by_cases h1 : o.code < 1
      · have HE := Hd (HD.out.trans (if_pos (.inl h1)))
        go_wp2_with (first
 | ((with_reducible refine sl 14 ?_); (refine z05 rfl 90 (.tmp 13) rfl b (off + k * 2) rfl o.cells _ HR.out Try.underlying90 rfl HI.out ?_); simp only [PT])
 | ((with_reducible refine sl 8 ?_); (refine wpL_newO o rfl rfl 90 rfl (.tmp 8) (.tmp 14) rfl #[.int .i64 0, .slice none 0 0] (by kernel_rfl) rfl (fun _ => rfl) (fun _ => rfl) ?_); intro w1 hg1 hb1; have q0 := oc0 hg1; have q1 := oc1 hg1; have hE__ := cU HB bup hb1; replace HB := ck HB hE__; clear hE__; clear hg1 hb1; simp only [PT]))
        go_ret2
        exact ⟨HB.out, .inl ⟨by rw [HE.out]; omega, by rw [HE.out]; rfl⟩⟩
      · by_cases h2 : (65535 : Int) < o.code
        · have HE := Hd (HD.out.trans (if_pos (.inr h2)))
          go_wp2_with (first
 | ((with_reducible refine sl 14 ?_); (refine z05 rfl 90 (.tmp 13) rfl b (off + k * 2) rfl o.cells _ HR.out Try.underlying90 rfl HI.out ?_); simp only [PT])
 | ((with_reducible refine sl 8 ?_); (refine wpL_newO o rfl rfl 90 rfl (.tmp 8) (.tmp 14) rfl #[.int .i64 0, .slice none 0 0] (by kernel_rfl) rfl (fun _ => rfl) (fun _ => rfl) ?_); intro w1 hg1 hb1; have q0 := oc0 hg1; have q1 := oc1 hg1; have hE__ := cU HB bup hb1; replace HB := ck HB hE__; clear hE__; clear hg1 hb1; simp only [PT]))
          go_ret2
          exact ⟨HB.out, .inl ⟨by rw [HE.out]; omega, by rw [HE.out]; rfl⟩⟩
        · by_cases h3 : (65535 : Int) < o.n
          · have HE := Hd ((HD.out.trans (if_neg (by omega))).trans (if_pos (by omega)))
            go_wp2_with (first
 | ((with_reducible refine sl 14 ?_); (refine z05 rfl 90 (.tmp 13) rfl b (off + k * 2) rfl o.cells _ HR.out Try.underlying90 rfl HI.out ?_); simp only [PT])
 | ((with_reducible refine sl 8 ?_); (refine wpL_newO o rfl rfl 90 rfl (.tmp 8) (.tmp 14) rfl #[.int .i64 0, .slice none 0 0] (by kernel_rfl) rfl (fun _ => rfl) (fun _ => rfl) ?_); intro w1 hg1 hb1; have q0 := oc0 hg1; have q1 := oc1 hg1; have hE__ := cU HB bup hb1; replace HB := ck HB hE__; clear hE__; clear hg1 hb1; simp only [PT]))
            go_ret2
            exact ⟨HB.out, .inl ⟨by rw [HE.out]; omega, by rw [HE.out]; rfl⟩⟩
          · have HE := Hd ((HD.out.trans (if_neg (by omega))).trans (if_neg (by omega)))
            obtain ⟨l1, hl1⟩ : ∃ l, l = putL o.code.toNat 2 big := ⟨_, rfl⟩
            obtain ⟨l2, hl2⟩ : ∃ l, l = putL o.n 2 big := ⟨_, rfl⟩
            obtain ⟨l3, hl3⟩ : ∃ l, l = padL o.l := ⟨_, rfl⟩
            have g1 : l1.length = 2 := by rw [hl1, z0m]
            have g2 : l2.length = 2 := by rw [hl2, z0m]
            have g3 : l3.length = o.n + padN o.n := by rw [hl3, z0w, HON.out]
            have HL1 := Hd hl1
            have HL2 := Hd hl2
            have HL3 := Hd hl3
            have HP2 := Hd (show putO big ((vals os).take (k + 1)) = putO big ((vals os).take k) ++ l1 ++ l2 ++ l3 by rw [HP.out, hl1, hl2, hl3, HON.out])
            clear hl1 hl2 hl3 HP HD
            go_wp2_with (first
 | ((with_reducible refine sl 14 ?_); (refine z05 rfl 90 (.tmp 13) rfl b (off + k * 2) rfl o.cells _ HR.out Try.underlying90 rfl HI.out ?_); simp only [PT])
 | ((with_reducible refine sl 8 ?_); (refine wpL_newO o rfl rfl 90 rfl (.tmp 8) (.tmp 14) rfl #[.int .i64 0, .slice none 0 0] (by kernel_rfl) rfl (fun _ => rfl) (fun _ => rfl) ?_); intro w1 hg1 hb1; have q0 := oc0 hg1; have q1 := oc1 hg1; have HG := Hd hg1; have hE__ := cU HB bup hb1; replace HB := ck HB hE__; replace HO := ck HO hE__; clear hE__; clear hg1 hb1; simp only [PT])
 | (go_at_call 47; (with_reducible show Calls _ _ #[Value.int .u64 o.code, _, _] _ _); (refine (put_int o.code 2 big _ (by omega) (by omega)).mono ?_); intro e w5 hr5; unfold RetB at hr5; rw [← HL1.out] at hr5; obtain ⟨ad5, c5, rfl, ho5, hb5⟩ := hr5; rw [g1] at ho5; have hE__ := cU HB bup hb5; replace HB := ck HB hE__; replace HO := ck HO hE__; replace HG := ck HG hE__; clear hE__; have H1 := Hd (Bs.of_own ho5); clear q0 q1 hb5 ho5; have q0 := oc0 HG.out; have q1 := oc1 HG.out)
 | ((with_reducible refine sl 33 ?_); (refine wpL_appG elB rfl (.tmp 27) (.tmp 32) rfl w.heap.size wr.heap.size rfl HO.out (lt_of_block HG.out) HNE.out rfl H1.out (by omega) HB.out.size ?_); intro ad3 c3 w3 ho3 hb3 hg3 hne3; clear HO; have HO := Hd ho3; clear HNE; have HNE := Hd hne3; have HG3 := Hd (hg3.trans HG.out); clear HG; have HG := HG3; have HB3 := Hd (HB.out.trans hb3); clear HB; have HB := HB3; clear HG3 HB3 q0 q1 hg3 ho3 hne3 hb3 H1; have q0 := oc0 HG.out; have q1 := oc1 HG.out; simp only [PT])
 | (go_at_call 47; (with_reducible show Calls _ _ #[Value.int .u64 (o.n : Int), _, _] _ _); (refine (z3h o.n 2 big _ (by omega)).mono ?_); intro e w6 hr6; unfold RetB at hr6; rw [← HL2.out] at hr6; obtain ⟨ad6, c6, rfl, ho6, hb6⟩ := hr6; rw [g2] at ho6; have hE__ := cU HB bup hb6; replace HB := ck HB hE__; replace HO := ck HO hE__; replace HG := ck HG hE__; clear hE__; have H2 := Hd (Bs.of_own ho6); clear q0 q1 hb6 ho6; have q0 := oc0 HG.out; have q1 := oc1 HG.out)
 | ((with_reducible refine sl 41 ?_); (refine wpL_appG elB rfl (.tmp 34) (.tmp 40) rfl w.heap.size wr.heap.size rfl HO.out (lt_of_block HG.out) HNE.out rfl H2.out (by omega) HB.out.size ?_); intro ad3 c3 w3 ho3 hb3 hg3 hne3; clear HO; have HO := Hd ho3; clear HNE; have HNE := Hd hne3; have HG3 := Hd (hg3.trans HG.out); clear HG; have HG := HG3; have HB3 := Hd (HB.out.trans hb3); clear HB; have HB := HB3; clear HG3 HB3 q0 q1 hg3 ho3 hne3 hb3 H2; have q0 := oc0 HG.out; have q1 := oc1 HG.out; simp only [PT])
 | (go_at_call 79; (refine (z3p o.ad o.n o.c o.l _ (HBS.out.below (HB.out.trans (Below.mono bup HB.out.size))) (by omega)).mono ?_); intro e w7 hr7; unfold RetB at hr7; rw [← HL3.out] at hr7; obtain ⟨ad7, c7, rfl, ho7, hb7⟩ := hr7; rw [g3] at ho7; have hE__ := cU HB bup hb7; replace HB := ck HB hE__; replace HO := ck HO hE__; replace HG := ck HG hE__; clear hE__; have H3 := Hd (Bs.of_own ho7); clear q0 q1 hb7 ho7; have q0 := oc0 HG.out; have q1 := oc1 HG.out)
 | ((with_reducible refine sl 46 ?_); (refine wpL_appG elB rfl (.tmp 42) (.tmp 45) rfl w.heap.size wr.heap.size rfl HO.out (lt_of_block HG.out) HNE.out rfl H3.out (by omega) HB.out.size ?_); intro ad3 c3 w3 ho3 hb3 hg3 hne3; clear HO; have HO := Hd ho3; clear HNE; have HNE := Hd hne3; have HG3 := Hd (hg3.trans HG.out); clear HG; have HG := HG3; have HB3 := Hd (HB.out.trans hb3); clear HB; have HB := HB3; clear HG3 HB3 q0 q1 hg3 ho3 hne3 hb3 H3; have q0 := oc0 HG.out; have q1 := oc1 HG.out; simp only [PT]))
            go_roundw
            case rel => exact ⟨k + 1, ad3, n1 + 2 + 2 + (o.n + padN o.n), c3, by omega, by go_num, rfl, by have := HZ2.out; omega, by rw [HP2.out]; exact HO.out, HB.out, HE⟩
            case measure => simp [intOf]; omega
    · have hX0 : X = 0 := by rw [HX1.out, List.drop_of_length_le (by rw [z0n]; omega)]; rfl
      have hall : (vals os).take k = vals os := List.take_of_length_le (by rw [z0n]; omega)
      rw [hall] at HO hn1
      have hpl := putO_length big (vals os)
      have HX0 := Hd hX0
      have HN1 := Hd hn1
      have HPL := Hd hpl
      have hnb : n1 ≤ 140737488351228 := by omega
      clear hall ho hb HX HX1 hX0 hn1 hpl
      by_cases h0 : n = 0
      · have h1 : ¬ ((0 : Int) < (n : Int)) := by omega
        have he : putAll big (vals os) = putO big (vals os) := by
          have : vals os = [] := List.eq_nil_of_length_eq_zero (by rw [z0n]; omega)
          rw [this]; rfl
        have HE := Hd he
        clear he hn h0
        go_wp2_with fail
        go_ret2
        refine ⟨HB.out, .inr ⟨HX0.out, ad1, c1, ?_, ?_⟩⟩
        · rw [HE.out, HPL.out, ← HN1.out]; rfl
        · rw [HE.out, HPL.out, ← HN1.out]; exact HO.out
      · have h1 : ((0 : Int) < (n : Int)) := by omega
        have he : putAll big (vals os) = putO big (vals os) ++ [0, 0, 0, 0] := by
          have : vals os ≠ [] := fun e => by have := congrArg List.length e; rw [z0n] at this; simp at this; rw [this] at hn; simp at hn; exact h0 hn
          unfold putAll endO
          rw [if_neg (by simpa using this)]
        have HE := Hd he
        clear he hn h0
        go_wp2_with (first
 | ((with_reducible refine sl 52 ?_); (refine wpL_append_zeros elB Try.underlying3 Try.underlying9 rfl (.tmp 51) (.const (.int .i64 4)) rfl w.heap.size rfl HO.out rfl (by omega) HB.out.size ?_); intro ad3 c3 w3 ho3 hg3; have HB3 := Hd (HB.out.grown hg3 HB.out.size (z07 HO.out)); clear HO; have HO := Hd ho3; clear ho3 hg3; simp only [PT]))
        go_ret2
        refine ⟨HB3.out, .inr ⟨HX0.out, ad3, c3, ?_, ?_⟩⟩
        · rw [HE.out, List.length_append, HPL.out, ← HN1.out]; rfl
        · rw [HE.out, List.length_append, HPL.out, ← HN1.out]; exact HO.out
theorem wpL_appB {P : Program} {w : World} {ops : Array Oper} {rest : List Oper} {o : Oper} {a : Act} {Q : Exit → Act → World → Prop} {t e : TypeId} {z : Value} (el : Elem P t e 1 1 z)
    (hgd : Region.wanted o (yielded ops a.tmps) = true) (s x : Operand) (ho : o.op = .call { callee := .builtin .append, args := #[s, x], argTypes := #[t, t] })
    (base : Nat) {ad : Option Addr} {n c : Nat} {l : List UInt8} (hs : a.eval s = .slice ad n c) (hown : w.ownsRow base e 1 (.slice ad n c) n (BV l))
    {ad2 : Option Addr} {m c2 : Nat} {news : List UInt8} (hx : a.eval x = .slice ad2 m c2) (hsl : Bs w ad2 m c2 news)
    (h63 : n + m ≤ 140737488351232) (hbase : base ≤ w.heap.size)
    (h : ∀ ad' c' w', w'.ownsRow base e 1 (.slice ad' (n + m) c') (n + m) (BV (l ++ news)) → Below base w w' → wpList P ops Q rest (a.put o.dst (.slice ad' (n + m) c')) w') :
    wpList P ops Q (o :: rest) a w := by
  refine z0k el hgd s x ho base hs hown hx hsl (z11 _) (by unfold maxLen; omega) (by omega) hbase fun ad' c' w' ho' hg' hat _ => h ad' c' w' ?_ ?_
  · rw [z0i]; exact ho'
  · exact (Below.refl base w).grown hg' hbase (z07 hown)
theorem Below.cellAt {w w' : World} {b off : Nat} {v : Value} (h : w.cell? ⟨b, off, none⟩ = some v) (hb : Below w.heap.size w w') (hl : b < w.heap.size) : w'.cell? ⟨b, off, none⟩ = some v :=
  (hb.cell (p := ⟨b, off, none⟩) hl).trans h
theorem refOptPut_any (ad : Option Addr) (n c : Nat) (os : List OptV) (big : Bool) (w : World) (hs : Ops w ad n c os) (hsz : sizeO (vals os) + 4 ≤ 140000000000000) (hok : ∀ o ∈ vals os, okO o) :
    Calls Try.prog 56 #[.slice ad n c, .bool big] w (RetB 5 (putAll big (vals os)) w) := by
  have hn := hs.len
  have hle := hs.le
  have HS := Hd hs
  have HN := Hd hn
  clear hs hn
  go_enter Try.func56, Try.ntmps56
  go_wp2_with fail
  go_loopw [5, 6] (fun v i wr => ∃ (k : Nat) (ad' : Option Addr) (n' c' : Nat), k ≤ n ∧ i = .int .i64 k ∧ v = .slice ad' n' c' ∧ Hid (n' = sizeO ((vals os).take k)) ∧ wr.ownsRow w.heap.size 5 1 (.slice ad' n' c') n' (BV (putO big ((vals os).take k))) ∧ Below w.heap.size w wr) (fun _ i _ => n - (intOf i).toNat)
  case atStart => exact ⟨0, none, 0, 0, by omega, rfl, rfl, Hd rfl, World.ownsRow_nil _ _ _ _, Below.refl _ _⟩
  case round =>
    obtain ⟨k, ad1, n1, c1, hk, rfl, rfl, HN1, ho, hb⟩ := hrel
    have HO := Hd ho
    have HB := Hd hb
    have hn := HN.out
    by_cases hlt : k < n
    · obtain ⟨b, off, rfl, hbl, hat⟩ := HS.out.at (j := k) (by omega)
      obtain ⟨q1, q2, hbs⟩ := hat k (by omega)
      have hon := hbs.len
      have hol := hbs.le
      obtain ⟨o, hoe⟩ : ∃ o, o = os[k]'(by omega) := ⟨_, rfl⟩
      rw [← hoe] at q1 q2 hon hol hbs
      have hkl : k < (vals os).length := by rw [z0n]; omega
      have hval : (vals os)[k] = (o.code, o.l) := by rw [vals_get _ _ (by omega), ← hoe]; rfl
      have hok1 : okO (o.code, o.l) := by rw [← hval]; exact hok _ (List.getElem_mem hkl)
      obtain ⟨k1, k2, k3⟩ := hok1
      dsimp only at k1 k2 k3
      have HP := Hd (putO_take big (vals os) k hkl)
      rw [hval] at HP
      dsimp only at HP
      have hz2 : n1 + (4 + o.n + padN o.n) = sizeO ((vals os).take (k + 1)) := by
        rw [sizeO_take _ _ hkl, hval, HN1.out, hon]
        rfl
      have hz3 : n1 + (4 + o.n + padN o.n) ≤ 139999999999996 := by
        have := sizeO_take_le (vals os) (k + 1)
        omega
      have hz4 : n1 % 4 = 0 := by rw [HN1.out]; exact sizeO_mod _
      have HZ4 := Hd hz4
      have HZ2 := Hd hz2
      have HBS := Hd hbs
      have HON := Hd hon
      have Q1 := Hd q1
      have Q2 := Hd q2
      have q1 := Below.cellAt Q1.out HB.out hbl
      have q2 := Below.cellAt Q2.out HB.out hbl
      obtain ⟨l1, hl1⟩ : ∃ l, l = putL o.code.toNat 2 big := ⟨_, rfl⟩
      obtain ⟨l2, hl2⟩ : ∃ l, l = putL o.n 2 big := ⟨_, rfl⟩
      have g1 : l1.length = 2 := by rw [hl1, z0m]
      have g2 : l2.length = 2 := by rw [hl2, z0m]
      have HL1 := Hd hl1
      have HL2 := Hd hl2
      have HP2 := Hd (show putO big ((vals os).take (k + 1)) = putO big ((vals os).take k) ++ l1 ++ l2 ++ o.l ++ List.replicate (padN o.n) 0 by rw [HP.out, hl1, hl2, HON.out]; simp only [padL, List.append_assoc])
      have hp3 := padN_le o.n
      have hon2 : o.n ≤ 65535 := by omega
      clear hl1 hl2 HP hat hoe hz2 hz4 hb ho hbs hkl hval hon hn k3
      go_wp2_with (first
 | (go_at_call 53; (with_reducible show Calls _ _ #[Value.int .u64 o.code, _, _] _ _); (refine (refPut_int o.code 2 big _ (by omega) (by omega)).mono ?_); intro e w5 hr5; unfold RetB at hr5; rw [← HL1.out] at hr5; obtain ⟨ad5, c5, rfl, ho5, hb5⟩ := hr5; rw [g1] at ho5; have hE__ := cU HB bup hb5; replace HB := ck HB hE__; replace HO := ck HO hE__; clear hE__; have H1 := Hd (Bs.of_own ho5); clear q1 q2 hb5 ho5; have q1 := Below.cellAt Q1.out HB.out hbl; have q2 := Below.cellAt Q2.out HB.out hbl)
 | ((with_reducible refine sl 22 ?_); (refine wpL_appB elB rfl (.tmp 13) (.tmp 21) rfl w.heap.size rfl HO.out rfl H1.out (by omega) HB.out.size ?_); intro ad3 c3 w3 ho3 hb3; clear HO; have HO := Hd ho3; have HB3 := Hd (HB.out.trans hb3); clear HB; have HB := HB3; clear HB3 q1 q2 ho3 hb3 H1; have q1 := Below.cellAt Q1.out HB.out hbl; have q2 := Below.cellAt Q2.out HB.out hbl; simp only [PT])
 | (go_at_call 53; (with_reducible show Calls _ _ #[Value.int .u64 (o.n : Int), _, _] _ _); (refine (refPut_any o.n 2 big _ (by omega)).mono ?_); intro e w6 hr6; unfold RetB at hr6; rw [← HL2.out] at hr6; obtain ⟨ad6, c6, rfl, ho6, hb6⟩ := hr6; rw [g2] at ho6; have hE__ := cU HB bup hb6; replace HB := ck HB hE__; replace HO := ck HO hE__; clear hE__; have H2 := Hd (Bs.of_own ho6); clear q1 q2 hb6 ho6; have q1 := Below.cellAt Q1.out HB.out hbl; have q2 := Below.cellAt Q2.out HB.out hbl)
 | ((with_reducible refine sl 33 ?_); (refine wpL_appB elB rfl (.tmp 23) (.tmp 32) rfl w.heap.size rfl HO.out rfl H2.out (by omega) HB.out.size ?_); intro ad3 c3 w3 ho3 hb3; clear HO; have HO := Hd ho3; have HB3 := Hd (HB.out.trans hb3); clear HB; have HB := HB3; clear HB3 q1 q2 ho3 hb3 H2; have q1 := Below.cellAt Q1.out HB.out hbl; have q2 := Below.cellAt Q2.out HB.out hbl; simp only [PT])
 | ((with_reducible refine sl 40 ?_); (refine wpL_appB elB rfl (.tmp 34) (.tmp 39) rfl w.heap.size rfl HO.out rfl (HBS.out.below HB.out) (by omega) HB.out.size ?_); intro ad3 c3 w3 ho3 hb3; clear HO; have HO := Hd ho3; have HB3 := Hd (HB.out.trans hb3); clear HB; have HB := HB3; clear HB3 q1 q2 ho3 hb3; simp only [PT]))
      go_loopw [5] (fun v wr2 => ∃ (j : Nat) (ad' : Option Addr) (m c' : Nat), j ≤ padN o.n ∧ v = .slice ad' m c' ∧ Hid (m = n1 + 2 + 2 + o.n + j) ∧ wr2.ownsRow w.heap.size 5 1 (.slice ad' m c') m (BV (putO big ((vals os).take k) ++ l1 ++ l2 ++ o.l ++ List.replicate j 0)) ∧ Below w.heap.size w wr2) (fun v _ => n1 + 4 + o.n + padN o.n - lenV v)
      case atStart => exact ⟨0, ad3, n1 + 2 + 2 + o.n, c3, by omega, rfl, Hd rfl, by rw [List.replicate_zero, List.append_nil]; exact HO.out, HB.out⟩
      case round =>
        obtain ⟨j, ad2, m, c2, hj, rfl, HM, ho, hb⟩ := hrel
        clear HO HB
        have HO := Hd ho
        have HB := Hd hb
        have hmb : m ≤ 139999999999996 := by have := HM.out; omega
        clear ho hb
        by_cases h4 : (m : Int) % 4 = 0
        · have hj2 : j = padN o.n := padN_end o.n j (by have := HM.out; have := HZ4.out; omega) hj
          have HJ := Hd hj2
          clear hj2
          go_wp2_with fail
          go_roundw
          case rel => exact ⟨k + 1, ad2, m, c2, by omega, by go_num, rfl, Hd (by rw [HM.out, ← HZ2.out, HJ.out]; omega), by rw [HP2.out, ← HJ.out]; exact HO.out, HB.out⟩
          case measure => simp [intOf]; omega
        · have hj2 : j < padN o.n := padN_more o.n j (by have := HM.out; have := HZ4.out; omega) hj
          go_wp2_with (first
 | ((with_reducible refine sl 47 ?_); (refine wpL_push elB rfl (.tmp 45) (.tmp 46) rfl w.heap.size rfl HO.out _ 1 rfl rfl rfl (z11 [0]) (by omega) (by omega) (by omega) HB.out.size HB.out (Nat.le_refl _) ?_); intro ad3 c3 w3 ho3 hb3 hg3; clear hg3 HO; have HO := Hd ho3; clear HB; have HB := Hd hb3; clear ho3 hb3; simp only [PT]))
          go_roundw
          case rel => exact ⟨j + 1, ad3, m + 1, c3, by omega, rfl, Hd (by rw [HM.out]; omega), by rw [List.replicate_succ', ← List.append_assoc, z0i]; exact HO.out, HB.out⟩
          case measure => simp only [lenV]; have := HM.out; omega
    · have hall : (vals os).take k = vals os := List.take_of_length_le (by rw [z0n]; omega)
      rw [hall] at HO HN1
      have hpl := putO_length big (vals os)
      have HPL := Hd hpl
      have hnb : n1 ≤ 139999999999996 := by have := HN1.out; omega
      by_cases h0 : n = 0
      · have h1 : ¬ ((0 : Int) < (n : Int)) := by omega
        have he : putAll big (vals os) = putO big (vals os) := by
          have : vals os = [] := List.eq_nil_of_length_eq_zero (by rw [z0n]; omega)
          rw [this]; rfl
        have HE := Hd he
        clear he hn h0 hall ho hb hpl
        go_wp2_with fail
        go_ret
        refine ⟨ad1, c1, ?_, ?_, HB.out⟩
        · rw [HE.out, HPL.out, ← HN1.out]; rfl
        · rw [HE.out, HPL.out, ← HN1.out]; exact HO.out
      · have h1 : ((0 : Int) < (n : Int)) := by omega
        have he : putAll big (vals os) = putO big (vals os) ++ [0, 0, 0, 0] := by
          have : vals os ≠ [] := fun e => by have := congrArg List.length e; rw [z0n] at this; simp at this; rw [this] at hn; simp at hn; exact h0 hn
          unfold putAll endO
          rw [if_neg (by simpa using this)]
        have HE := Hd he
        clear he hn h0 hall ho hb hpl
        go_wp2_with (first
 | ((with_reducible refine sl 53 ?_); (refine wpL_push elB rfl (.tmp 51) (.tmp 52) rfl w.heap.size rfl HO.out _ 4 rfl rfl rfl (z11 [0, 0, 0, 0]) (by omega) (by omega) (by omega) HB.out.size HB.out (Nat.le_refl _) ?_); intro ad3 c3 w3 ho3 hb3 hg3; clear hg3 HO; have HO := Hd ho3; clear HB; have HB := Hd hb3; clear ho3 hb3; simp only [PT]))
        go_ret
        refine ⟨ad3, c3, ?_, ?_, HB.out⟩
        · rw [HE.out, List.length_append, HPL.out, ← HN1.out]; rfl
        · rw [HE.out, List.length_append, HPL.out, ← HN1.out, z0i]; exact HO.out
def OwnOps (e : TypeId) (base : Nat) (w : World) (ad : Option Addr) (n c : Nat) (os : List OptV) : Prop :=
  w.ownsRow base e 2 (.slice ad n c) n (ocells os) ∧ ∀ o ∈ os, Bs w o.ad o.n o.c o.l ∧ ∀ x, o.ad = some x → base ≤ x.block ∧ x.block < w.heap.size ∧ ∀ y, ad = some y → x.block ≠ y.block
theorem OwnOps.ops {e : TypeId} {base : Nat} {w : World} {ad : Option Addr} {n c : Nat} {os : List OptV} (h : OwnOps e base w ad n c os) : Ops w ad n c os := ⟨Sl.of_own h.1, fun o ho => (h.2 o ho).1⟩
theorem OwnOps.nil (e : TypeId) (base : Nat) (w : World) : OwnOps e base w none 0 0 [] := ⟨World.ownsRow_nil _ _ _ _, fun o ho => by cases ho⟩
theorem OwnOps.keep {e : TypeId} {base : Nat} {w w' : World} {ad : Option Addr} {n c : Nat} {os : List OptV} (h : OwnOps e base w ad n c os) (hb : Below w.heap.size w w') : OwnOps e base w' ad n c os :=
  ⟨z08 h.1 hb, fun o ho => ⟨(h.2 o ho).1.below hb, fun x hx => ⟨((h.2 o ho).2 x hx).1, Nat.lt_of_lt_of_le ((h.2 o ho).2 x hx).2.1 hb.size, ((h.2 o ho).2 x hx).2.2⟩⟩⟩
theorem OwnOps.other {e : TypeId} {base G : Nat} {w w' : World} {ad : Option Addr} {n c : Nat} {os : List OptV} (h : OwnOps e base w ad n c os) (hg : w.grownBy w' (some G)) (hG : G < base) : OwnOps e base w' ad n c os := by
  refine ⟨h.1.kept hg ?_, fun o ho => ⟨Sl.grown (h.2 o ho).1 hg (fun x hx e => ?_), fun x hx => ⟨((h.2 o ho).2 x hx).1, Nat.lt_of_lt_of_le ((h.2 o ho).2 x hx).2.1 hg.size, ((h.2 o ho).2 x hx).2.2⟩⟩⟩
  · rcases z29 h.1 with ⟨rfl, _⟩ | ⟨g, rfl, h2, _⟩
    · exact .inl rfl
    · refine .inr fun e => ?_
      simp [Value.ownBlock] at e
      omega
  · have := ((h.2 o ho).2 x hx).1
    cases e
    omega
theorem OwnOps.base {e : TypeId} {base base' : Nat} {w : World} {ad : Option Addr} {n c : Nat} {os : List OptV} (h : OwnOps e base w ad n c os) (hb : base' ≤ base) : OwnOps e base' w ad n c os :=
  ⟨z0r h.1 hb, fun o ho => ⟨(h.2 o ho).1, fun x hx => ⟨Nat.le_trans hb ((h.2 o ho).2 x hx).1, ((h.2 o ho).2 x hx).2⟩⟩⟩
theorem wpL_pushO {P : Program} {v : World} {ops : Array Oper} {rest : List Oper} {o1 : Oper} {a : Act} {Q : Exit → Act → World → Prop} {t e e' : TypeId} {z : Value} (el : Elem P t e 2 32 z)
    (hgd : Region.wanted o1 (yielded ops a.tmps) = true) (s x : Operand) (ho : o1.op = .call { callee := .builtin .append, args := #[s, x], argTypes := #[t, t] })
    (base : Nat) {ad : Option Addr} {n c : Nat} {os : List OptV} (hs : a.eval s = .slice ad n c) (hown : OwnOps e base v ad n c os) (o : OptV) {b : Nat} (hx : a.eval x = .slice (some ⟨b, 0, none⟩) 1 1) (hb : b = v.heap.size)
    (hnew : Bs v o.ad o.n o.c o.l) (hnb : ∀ x, o.ad = some x → base ≤ x.block ∧ x.block < v.heap.size ∧ ∀ y, ad = some y → x.block ≠ y.block) (hbase : base ≤ v.heap.size) (hn : n ≤ 1000000000)
    (h : ∀ ad' c' w', OwnOps e base w' ad' (n + 1) c' (os ++ [o]) → Below base v w' → wpList P ops Q rest (a.put o1.dst (.slice ad' (n + 1) c')) w') :
    wpList P ops Q (o1 :: rest) a (v.alloc (.cells #[.int .i64 o.code, .slice o.ad o.n o.c] e')) := by
  subst hb
  have hz : (v.alloc (.cells #[.int .i64 o.code, .slice o.ad o.n o.c] e')).heap.size = v.heap.size + 1 := by simp
  refine z0k el hgd s x ho base hs (hown.1.alloc _) hx (Sl.lit v #[.int .i64 o.code, .slice o.ad o.n o.c] e' 1 2 rfl (by simp [maxLen])) (fun u hu => ?_) (by unfold maxLen; omega) (by omega) (by omega) fun ad' c' w' ho' hg' hat _ => h ad' c' w' ?_ ?_
  · simp at hu
    rcases hu with rfl | rfl <;> rfl
  · have hbl : Below v.heap.size v (v.alloc (.cells #[.int .i64 o.code, .slice o.ad o.n o.c] e')) := (Below.refl _ _).alloc (Nat.le_refl _) _
    have hall : ∀ p ∈ os ++ [o], Bs v p.ad p.n p.c p.l ∧ ∀ x, p.ad = some x → base ≤ x.block ∧ x.block < v.heap.size ∧ ∀ y, ad = some y → x.block ≠ y.block := by
      intro p hp
      rcases List.mem_append.1 hp with hp | hp
      · exact hown.2 p hp
      · simp at hp
        subst hp
        exact ⟨hnew, hnb⟩
    refine ⟨?_, fun p hp => ⟨?_, fun x hx => ?_⟩⟩
    · rw [ocells_append]
      exact ho'
    · obtain ⟨h1, h2⟩ := hall p hp
      refine Sl.grown (Bs.below h1 hbl) hg' fun x hx e => ?_
      obtain ⟨_, _, h3⟩ := h2 x hx
      rcases z29 hown.1 with ⟨rfl, _⟩ | ⟨g, rfl, _⟩
      · simp [Value.ownBlock] at e
      · simp [Value.ownBlock] at e
        exact h3 _ rfl e.symm
    · obtain ⟨h1, h2⟩ := hall p hp
      obtain ⟨h3, h4, h5⟩ := h2 x hx
      have hsz := hg'.size
      refine ⟨h3, by omega, fun y hy => ?_⟩
      rcases hat with rfl | rfl
      · exact h5 y hy
      · cases hy
        show x.block ≠ (v.alloc _).heap.size
        rw [hz]
        omega
  · exact ((Below.refl base v).alloc hbase _).grown hg' (by omega) (z07 hown.1)
theorem elO : Elem Try.prog 25 90 2 32 (.agg #[.int .i64 0, .slice none 0 0]) := ⟨Try.underlying25, by kernel_rfl, rfl, by omega⟩
theorem wpL_eqnil {P : Program} {w : World} {ops : Array Oper} {rest : List Oper} {o : Oper} {a : Act} {Q : Exit → Act → World → Prop} {t e t2 : TypeId} (ht : P.underlying t = some (.slice e))
    (hgd : Region.wanted o (yielded ops a.tmps) = true) (x : Operand) (ho : o.op = .binOp .eql t x (.const (.slice none 0 0)) t2) {ad : Option Addr} {n c : Nat} (hx : a.eval x = .slice ad n c)
    (h : wpList P ops Q rest (a.put o.dst (.bool ad.isNone)) w) : wpList P ops Q (o :: rest) a w := by
  refine z23 hgd (v := .bool ad.isNone) (w' := w) ?_ h
  have hr := Lib.run_eql_slice_nil (P := P) w t e ad n c 0 0 ht
  have hc : a.eval (.const (.slice none 0 0)) = .slice none 0 0 := rfl
  simp [execOp, ho, hx, hc, eqGuard, hr, Result.andThen]
theorem z2d (ad : Option Addr) (n c : Nat) (l : List UInt8) (w : World) (hs : Bs w ad n c l) (hsz : n ≤ 140737488351232) :
    Calls Try.prog 68 #[.slice ad n c] w (RetB 5 l w) := by
  have hn := hs.len
  have HS := Hd hs
  have HN := Hd hn
  cases ad with
  | none =>
    obtain ⟨h1, h2⟩ := hs.2.2.2.1 rfl
    have hl : l = [] := List.eq_nil_of_length_eq_zero (by omega)
    subst hl
    clear HS HN hs hn
    subst h1
    subst h2
    go_enter Try.func68, Try.ntmps68
    go_wp2_with ((with_reducible refine sl 4 ?_); (refine wpL_eqnil Try.underlying24 rfl (.tmp 3) rfl rfl ?_); simp only [Act.put, List.setIfInBounds_toArray, List.set_cons_zero, List.set_cons_succ, Option.isNone_none])
    go_ret
    exact ⟨none, 0, rfl, World.ownsRow_nil _ _ _ _, Below.refl _ _⟩
  | some x =>
    clear hs hn
    go_enter Try.func68, Try.ntmps68
    go_wp2_with (first | ((with_reducible refine sl 4 ?_); (refine wpL_eqnil Try.underlying24 rfl (.tmp 3) rfl rfl ?_); simp only [Act.put, List.setIfInBounds_toArray, List.set_cons_zero, List.set_cons_succ, Option.isNone_some]) | ((with_reducible refine sl 7 ?_); (refine z0k elB rfl (.tmp 5) (.tmp 6) rfl w.heap.size rfl (World.ownsRow_lit (size := 1) (e := 5) w #[] 0 (Nat.le_refl _) (by simp [maxLen]) rfl) rfl (HS.out.below ((Below.refl _ _).alloc (Nat.le_refl _) _)) (z11 _) (by unfold maxLen; omega) (by omega) (by simp) ?_); intro ad1 c1 w1 hown1 hgrow1 hat1 hnil1; simp only [PT]))
    try simp only [Nat.zero_add, List.nil_append] at hown1
    have hb1 : Below w.heap.size w w1 := ((Below.refl w.heap.size w).alloc (Nat.le_refl _) _).grown hgrow1 (by simp) (fun k e => by simp [Value.ownBlock] at e; omega)
    have HO1 := Hd hown1
    have HB1 := Hd hb1
    clear hown1 hgrow1 hat1 hnil1 hb1
    go_ret
    refine ⟨ad1, c1, ?_, ?_, HB1.out⟩
    · rw [← HN.out]; simp
    · rw [← HN.out]; exact HO1.out
theorem bytesEqual_any (ad : Option Addr) (n c : Nat) (l : List UInt8) (ad' : Option Addr) (n' c' : Nat) (m : List UInt8) (w : World) (hs : Bs w ad n c l) (hs' : Bs w ad' n' c' m) :
    Calls Try.prog 43 #[.slice ad n c, .slice ad' n' c'] w fun e w' => e = .returned (.bool (sameB l m)) ∧ w = w' := by
  have HS := Hd hs
  have HS' := Hd hs'
  clear hs hs'
  go_enter Try.func43, Try.ntmps43
  go_wp2_with (first
 | ((with_reducible refine sl 6 ?_); (refine z2h elB.1 (by kernel_rfl) (by kernel_rfl) rfl (.tmp 5) rfl rfl HS.out ?_))
 | ((with_reducible refine sl 8 ?_); (refine z2h elB.1 (by kernel_rfl) (by kernel_rfl) rfl (.tmp 7) rfl rfl HS'.out ?_)))
  rw [sameB_str]
  go_wp2_with fail
  go_ret
  exact ⟨rfl, rfl⟩
theorem z1a {P : Program} {fn : Func} {R : Ending → World → Prop} {a : Act} {w : World} {t1 t2 t3 t4 : Tmp} {T : TypeId} {g : Nat} {cs : List Value} {d : TypeDesc}
    (h : fn.results = #[.tmp t1, .tmp t2, .tmp t3, .cell t4 T]) (hp : a.tmps.getD t4 undef = .pointer (some ⟨g, 0, none⟩)) (hc : w.rangeAt g 0 cs) (hu : P.underlying T = some d) (hd : d.isRow = true) (hi : (P.info? T).map (·.size) = some cs.length)
    (hdf : a.defers = []) (hR : R (.returned (.tuple #[a.tmps.getD t1 undef, a.tmps.getD t2 undef, a.tmps.getD t3 undef, .agg cs.toArray])) w) : bodyPost P fn R .ret a w := by
  refine bodyPost_ret ?_ hdf hR
  have hp' : a.tmps[t4]?.getD undef = .pointer (some ⟨g, 0, none⟩) := by simpa using hp
  simp [results, h, hp', asAddr, run_loadVar_mid w g 0 T cs d hc hu hd hi]
theorem z3i {P : Program} {fn : Func} {R : Ending → World → Prop} {a : Act} {w : World} {t1 t2 t4 : Tmp} {T : TypeId} {g : Nat} {cs : List Value} {d : TypeDesc}
    (h : fn.results = #[.tmp t1, .tmp t2, .cell t4 T]) (hp : a.tmps.getD t4 undef = .pointer (some ⟨g, 0, none⟩)) (hc : w.rangeAt g 0 cs) (hu : P.underlying T = some d) (hd : d.isRow = true) (hi : (P.info? T).map (·.size) = some cs.length)
    (hdf : a.defers = []) (hR : R (.returned (.tuple #[a.tmps.getD t1 undef, a.tmps.getD t2 undef, .agg cs.toArray])) w) : bodyPost P fn R .ret a w := by
  refine bodyPost_ret ?_ hdf hR
  have hp' : a.tmps[t4]?.getD undef = .pointer (some ⟨g, 0, none⟩) := by simpa using hp
  simp [results, h, hp', asAddr, run_loadVar_mid w g 0 T cs d hc hu hd hi]
theorem z25 {P : Program} {fn : Func} {R : Ending → World → Prop} {a : Act} {w : World} {t1 t4 : Tmp} {T : TypeId} {g : Nat} {cs : List Value} {d : TypeDesc}
    (h : fn.results = #[.tmp t1, .cell t4 T]) (hp : a.tmps.getD t4 undef = .pointer (some ⟨g, 0, none⟩)) (hc : w.rangeAt g 0 cs) (hu : P.underlying T = some d) (hd : d.isRow = true) (hi : (P.info? T).map (·.size) = some cs.length)
    (hdf : a.defers = []) (hR : R (.returned (.tuple #[a.tmps.getD t1 undef, .agg cs.toArray])) w) : bodyPost P fn R .ret a w := by
  refine bodyPost_ret ?_ hdf hR
  have hp' : a.tmps[t4]?.getD undef = .pointer (some ⟨g, 0, none⟩) := by simpa using hp
  simp [results, h, hp', asAddr, run_loadVar_mid w g 0 T cs d hc hu hd hi]
def spotC (p : Nat × Int) : List Value := [.int .i64 (p.1 : Int), .int .i64 p.2]
theorem z10 {P : Program} {ops : Array Oper} {rest : List Oper} {o : Oper} {a : Act} {w : World} {Q : Exit → Act → World → Prop} (hgd : o.guard = none) (ty : TypeId) (x y : Operand) (ho : o.op = .store ty x y)
    (g : Nat) (p : Nat × Int) (hx : a.eval x = .pointer (some ⟨g, 0, none⟩)) (hy : a.eval y = .agg (spotC p).toArray) {T : TypeId} {q : Nat × Int} (hg : w.heap[g]? = some (.cells (spotC q).toArray T (0, 0))) (hi : (P.info? ty).map (·.size) = some 2)
    (h : ∀ w1, w1.heap[g]? = some (.cells (spotC p).toArray T (0, 0)) → w.grownBy w1 (some g) → wpList P ops Q rest (a.put o.dst undef) w1) : wpList P ops Q (o :: rest) a w := by
  refine wpList_store_row hgd ty x y ho g (spotC p).toArray hx hy T _ hg hi rfl ?_ (h _ (setRow_heap w g _ _ T _ hg) ⟨rfl, rfl, rfl, by simp [World.setRow], fun k _ hk => setRow_other w g k _ (fun e => hk (by rw [e]))⟩)
  simp only [spotC, List.all_toArray, List.all_cons, List.all_nil, Bool.and_true, Bool.and_eq_true]
  exact ⟨rfl, rfl⟩
theorem Bs.part {w : World} {ad : Option Addr} {n c : Nat} {l : List UInt8} (h : Bs w ad n c l) (i j : Nat) (hij : i ≤ j) (hj : j ≤ n) : Bs w (subAd ad c i 1) (j - i) (c - i) ((l.drop i).take (j - i)) := by
  have := Sl.sub h (l := i) (h := j) hij hj
  have e : ((BV l).drop (i * 1)).take ((j - i) * 1) = BV ((l.drop i).take (j - i)) := by
    simp only [Nat.mul_one]
    unfold BV
    rw [List.map_take, List.map_drop]
  rw [e] at this
  exact this
theorem getN_two_lt (l : List UInt8) (big : Bool) (h : l.length ≤ 2) : getN l big ≤ 65535 := by
  have h1 : ∀ m : List UInt8, m.length ≤ 2 → numBE m ≤ 65535 := fun m hm => by
    have h2 := numBE_lt m
    have h3 : 256 ^ m.length ≤ 256 ^ 2 := Nat.pow_le_pow_right (by omega) hm
    omega
  unfold getN
  split
  · exact h1 _ (by simp; omega)
  · exact h1 _ (by simp; omega)
theorem rows_step (big : Bool) (l : List UInt8) (at_ : Nat) (acc : List OV) (h : at_ < l.length) :
    rowsS big l.length (l.drop at_) at_ acc =
      if l.length - at_ < 4 then ([], 0, false, (at_, 2))
      else if codeOf big (l.drop at_) = 0 ∧ sizeOf2 big (l.drop at_) = 0 then (acc, at_ + 4, true, (0, 0))
      else if codeOf big (l.drop at_) = 0 then ([], 0, false, (at_, 3))
      else if l.length - at_ < 4 + sizeOf2 big (l.drop at_) + padN (sizeOf2 big (l.drop at_)) then ([], 0, false, (at_, 2))
      else rowsS big l.length (l.drop (at_ + (4 + sizeOf2 big (l.drop at_) + padN (sizeOf2 big (l.drop at_))))) (at_ + (4 + sizeOf2 big (l.drop at_) + padN (sizeOf2 big (l.drop at_)))) (acc ++ [((codeOf big (l.drop at_) : Int), ((l.drop at_).drop 4).take (sizeOf2 big (l.drop at_)))]) := by
  have hd : (l.drop at_).length = l.length - at_ := List.length_drop
  rw [z3k big l.length ((l.length - 1) + 1) _ _ _ (by omega) (by omega), rowsS, hd, if_neg (by omega)]
  split
  · rfl
  · split
    · rfl
    · split
      · rfl
      · split
        · rfl
        · rw [List.drop_drop]
          exact z3k big _ _ _ _ _ (by rw [List.length_drop]; omega) (by rw [List.length_drop]; omega)
theorem rows_end (big : Bool) (l : List UInt8) (at_ : Nat) (acc : List OV) (h : ¬ at_ < l.length) : rowsS big l.length (l.drop at_) at_ acc = (acc, at_, false, (0, 0)) := by
  rw [List.drop_of_length_le (by omega), rowsS_nil]
theorem codeOf_le (big : Bool) (s : List UInt8) : codeOf big s ≤ 65535 := getN_two_lt _ _ (by simp; omega)
theorem sizeOf2_le (big : Bool) (s : List UInt8) : sizeOf2 big s ≤ 65535 := getN_two_lt _ _ (by simp; omega)
theorem cW1 {w w' : World} {e : TypeId} {base : Nat} {ad : Option Addr} {n c : Nat} {os : List OptV} (h : Hid (OwnOps e base w ad n c os)) (hE : Below w.heap.size w w') : Hid (OwnOps e base w' ad n c os) := Hd (h.out.keep hE)
instance {w w' : World} {e : TypeId} {base : Nat} {ad : Option Addr} {n c : Nat} {os : List OptV} : Ck (OwnOps e base w ad n c os) w' w (OwnOps e base w' ad n c os) := ⟨fun h hE => h.keep hE⟩
theorem new_apart {v w' : World} {e T : TypeId} {base : Nat} {ad ado : Option Addr} {n c no co : Nat} {xs : List Value} {os : List OptV} (h : w'.ownsRow v.heap.size e 1 (.slice ad n c) n xs) (hown : OwnOps T base v ado no co os) (hb : base ≤ v.heap.size) :
    ∀ x, ad = some x → base ≤ x.block ∧ x.block < w'.heap.size ∧ ∀ y, ado = some y → x.block ≠ y.block := by
  intro x hx
  rcases z29 h with ⟨h1, _⟩ | ⟨g, h1, h2, h3⟩
  · rw [h1] at hx; cases hx
  · rw [h1] at hx; cases hx
    refine ⟨?_, h3, fun y hy => ?_⟩
    · show base ≤ g
      omega
    · rcases z29 hown.1 with ⟨h4, _⟩ | ⟨g', h4, h5, h6⟩
      · rw [h4] at hy; cases hy
      · rw [h4] at hy; cases hy
        show g ≠ g'
        omega
theorem Bs.drop8 {w : World} {ad : Option Addr} {n c : Nat} {l : List UInt8} (h : Bs w ad n c l) (k : Nat) (hk : k ≤ n) : Bs w (subAd ad c k 1) (n - k) (c - k) (l.drop k) := by
  have := Sl.sub h (l := k) (h := n) hk (Nat.le_refl _)
  have e : ((BV l).drop (k * 1)).take ((n - k) * 1) = BV (l.drop k) := by
    have hn := h.len
    simp only [Nat.mul_one]
    unfold BV
    rw [← List.map_drop, List.take_of_length_le (by simp; omega)]
  rw [e] at this
  exact this
theorem rows_any (ad : Option Addr) (n c : Nat) (l : List UInt8) (big : Bool) (w : World) (hs : Bs w ad n c l) (hsz : n ≤ 1000000000) :
    Calls Try.prog 84 #[.slice ad n c, .bool big] w fun e w' => ∃ ad' n' c' os, e = .returned (.tuple #[.slice ad' n' c', .int .i64 ((rowsB big l).2.1 : Int), .bool (rowsB big l).2.2.1, .agg (spotC (rowsB big l).2.2.2).toArray]) ∧ OwnOps 90 w.heap.size w' ad' n' c' os ∧ vals os = (rowsB big l).1 ∧ Below w.heap.size w w' := by
  have hn := hs.len
  have hle := hs.le
  obtain ⟨X, hX⟩ : ∃ X, X = rowsB big l := ⟨_, rfl⟩
  have HX0 := Hd (show X = rowsS big l.length (l.drop 0) 0 (vals []) by rw [hX, List.drop_zero]; rfl)
  rw [← hX]
  have HS := Hd hs
  have HN := Hd hn
  have HI : Hid ((Try.prog.info? 49).map (·.size) = some 2) := Hd (by kernel_rfl)
  clear hs hn hX
  go_enter Try.func84, Try.ntmps84
  go_wp2_with fail
  go_step3
  go_wp2_with fail
  go_step3
  go_wp2_with fail
  go_loopw [8, 9, 10] (fun v i en wr => ∃ (at_ : Nat) (ad' : Option Addr) (n' c' : Nat) (os : List OptV), at_ ≤ n ∧ en = .bool false ∧ 4 * n' ≤ at_ ∧ i = .int .i64 at_ ∧ v = .slice ad' n' c' ∧ OwnOps 90 (w.heap.size + 1) wr ad' n' c' os ∧ wr.heap[w.heap.size]? = some (.cells (spotC (0, 0)).toArray 49 (0, 0)) ∧ Below w.heap.size w wr ∧ Hid (X = rowsS big l.length (l.drop at_) at_ (vals os))) (fun _ i _ _ => n - (intOf i).toNat)
  case atStart => exact ⟨0, none, 0, 0, [], by omega, rfl, by omega, rfl, rfl, OwnOps.nil _ _ _, heap_alloc_last w _, (Below.refl _ _).alloc (Nat.le_refl _) _, HX0⟩
  case round =>
    obtain ⟨at_, ad1, n1, c1, os, hat, rfl, hn1, rfl, rfl, how, hg, hb, HX⟩ := hrel
    have HW := Hd how
    have HG := Hd hg
    have HB := Hd hb
    have hw1 : w.heap.size + 1 ≤ wr.heap.size := lt_of_block hg
    clear how hg hb HX0
    have hn := HN.out
    by_cases hlt : at_ < n
    · have HST := Hd (HX.out.trans (rows_step big l at_ (vals os) (by omega)))
      have HR0 := Hd (Bs.drop8 HS.out at_ (by omega))
      obtain ⟨R, hR⟩ : ∃ R, R = l.drop at_ := ⟨_, rfl⟩
      obtain ⟨rn, hrn⟩ : ∃ rn, rn = l.length - at_ := ⟨_, rfl⟩
      obtain ⟨rc, hrc⟩ : ∃ rc, rc = c - at_ := ⟨_, rfl⟩
      obtain ⟨cd, hcd⟩ : ∃ cd, cd = codeOf big R := ⟨_, rfl⟩
      obtain ⟨sz, hsz2⟩ : ∃ sz, sz = sizeOf2 big R := ⟨_, rfl⟩
      have hcd1 : cd ≤ 65535 := by rw [hcd]; exact codeOf_le _ _
      have hsz1 : sz ≤ 65535 := by rw [hsz2]; exact sizeOf2_le _ _
      rw [← hR, ← hcd, ← hsz2, ← hrn] at HST
      rw [← hn] at hrn
      rw [← hR, ← hrn, ← hrc] at HR0
      have hrb : rn + at_ = n := by omega
      have hrr : rn ≤ rc := by omega
      have HRN := Hd hrn
      have HRC := Hd hrc
      have HCD := Hd (show getN (R.take 2) big = cd from hcd.symm)
      have HSZ := Hd (show getN ((R.drop 2).take 2) big = sz from hsz2.symm)
      have HRL := Hd (show R.length = rn by rw [hR, List.length_drop]; omega)
      have HR := Hd hR
      have hp3 := padN_le sz
      have hac : at_ ≤ c := by omega
      clear hR hrn hrc hcd hsz2 hn
      by_cases h4 : (rn : Int) < 4
      · have HE := Hd (HST.out.trans (if_pos (by omega)))
        go_wp2_with (first
 | ((with_reducible refine sl 20 ?_); (refine z0t elB rfl (.tmp 18) (some (.tmp 19)) none rfl rfl at_ n (.inr ⟨.i64, rfl⟩) (.inl ⟨rfl, rfl⟩) (by omega) (by omega) ?_); intro adr hadr; rw [← HRN.out, ← HRC.out]; have HRR := Hd (show Bs w adr rn rc R by rw [hadr.out]; exact HR0.out); simp only [PT])
 | ((with_reducible show wpList _ _ _ (⟨none, .store _ _ _, _, _, _, _⟩ :: _) _ _); (refine z10 rfl 49 (.tmp 7) (.tmp 25) rfl w.heap.size (at_, 2) rfl rfl HG.out HI.out ?_); intro w9 hg9 hgr9; have HG9 := Hd hg9; have HB9 := Hd (HB.out.grown hgr9 HB.out.size (fun k e => by cases e; exact Nat.le_refl _)); have HW9 := Hd (HW.out.other hgr9 (by omega)); clear hg9 hgr9; simp only [PT]))
        (try simp only [Exit.inBlock, Exit.then, Exit.noGoto_ret])
        refine z1a (cs := spotC (at_, 2)) rfl rfl (z00 HG9.out) Try.underlying49 rfl HI.out rfl ?_
        exact ⟨none, 0, 0, [], by rw [HE.out]; rfl, OwnOps.nil _ _ _, by rw [HE.out]; rfl, HB9.out⟩
      · have h4n : 4 ≤ rn := by omega
        have HE1 := Hd (HST.out.trans (if_neg (by omega)))
        clear HST
        by_cases hc : cd = 0
        · by_cases hz : sz = 0
          · have HE := Hd (HE1.out.trans (if_pos ⟨hc, hz⟩))
            go_wp2_with (first
 | ((with_reducible refine sl 20 ?_); (refine z0t elB rfl (.tmp 18) (some (.tmp 19)) none rfl rfl at_ n (.inr ⟨.i64, rfl⟩) (.inl ⟨rfl, rfl⟩) (by omega) (by omega) ?_); intro adr hadr; rw [← HRN.out, ← HRC.out]; have HRR := Hd (show Bs w adr rn rc R by rw [hadr.out]; exact HR0.out); simp only [PT])
 | ((with_reducible refine sl 27 ?_); (refine z0t elB rfl (.tmp 26) none (some (.const (.int .i64 2))) rfl rfl 0 2 (.inl ⟨rfl, rfl⟩) (.inr ⟨.i64, rfl⟩) (by omega) (by omega) ?_); intro ad27 had27; have H27 := Hd (show Bs w ad27 2 rc (R.take 2) by rw [had27.out]; exact Bs.part HRR.out 0 2 (by omega) (by omega)); simp only [PT])
 | (go_at_call 57; (with_reducible show Calls _ _ #[Value.slice ad27 _ _, _] _ _); (refine (z1p ad27 2 rc _ big _ (H27.out.below (HB.out.trans (Below.mono bup HB.out.size)))).mono ?_); intro e w5 hr5; unfold RetN at hr5; rw [HCD.out] at hr5; obtain ⟨rfl, hb5⟩ := hr5; have hE__ := cU HB bup hb5; replace HB := ck HB hE__; replace HG := ck HG hE__; replace HW := ck HW hE__; clear hE__; clear hb5 H27)
 | ((with_reducible refine sl 32 ?_); (refine z0t elB rfl (.tmp 31) (some (.const (.int .i64 2))) (some (.const (.int .i64 4))) rfl rfl 2 4 (.inr ⟨.i64, rfl⟩) (.inr ⟨.i64, rfl⟩) (by omega) (by omega) ?_); intro ad32 had32; have H32 := Hd (show Bs w ad32 2 (rc - 2) ((R.drop 2).take 2) by rw [had32.out]; exact Bs.part HRR.out 2 4 (by omega) (by omega)); simp only [PT])
 | (go_at_call 57; (with_reducible show Calls _ _ #[Value.slice ad32 _ _, _] _ _); (refine (z1p ad32 2 (rc - 2) _ big _ (H32.out.below (HB.out.trans (Below.mono bup HB.out.size)))).mono ?_); intro e w6 hr6; unfold RetN at hr6; rw [HSZ.out] at hr6; obtain ⟨rfl, hb6⟩ := hr6; have hE__ := cU HB bup hb6; replace HB := ck HB hE__; replace HG := ck HG hE__; replace HW := ck HW hE__; clear hE__; clear hb6 H32)
 | ((with_reducible show wpList _ _ _ (⟨none, .store _ _ _, _, _, _, _⟩ :: _) _ _); (refine z10 rfl 49 (.tmp 7) (.tmp 81) rfl w.heap.size (0, 0) rfl rfl HG.out HI.out ?_); intro w9 hg9 hgr9; have HG9 := Hd hg9; have HB9 := Hd (HB.out.grown hgr9 HB.out.size (fun k e => by cases e; exact Nat.le_refl _)); have HW9 := Hd (HW.out.other hgr9 (by omega)); clear hg9 hgr9; simp only [PT]))
            (try simp only [Exit.inBlock, Exit.then, Exit.noGoto_ret])
            refine z1a (cs := spotC (0, 0)) rfl rfl (z00 HG9.out) Try.underlying49 rfl HI.out rfl ?_
            exact ⟨ad1, n1, c1, os, by rw [HE.out]; rfl, HW9.out.base (by omega), by rw [HE.out], HB9.out⟩
          · have HE := Hd ((HE1.out.trans (if_neg (by omega))).trans (if_pos hc))
            go_wp2_with (first
 | ((with_reducible refine sl 20 ?_); (refine z0t elB rfl (.tmp 18) (some (.tmp 19)) none rfl rfl at_ n (.inr ⟨.i64, rfl⟩) (.inl ⟨rfl, rfl⟩) (by omega) (by omega) ?_); intro adr hadr; rw [← HRN.out, ← HRC.out]; have HRR := Hd (show Bs w adr rn rc R by rw [hadr.out]; exact HR0.out); simp only [PT])
 | ((with_reducible refine sl 27 ?_); (refine z0t elB rfl (.tmp 26) none (some (.const (.int .i64 2))) rfl rfl 0 2 (.inl ⟨rfl, rfl⟩) (.inr ⟨.i64, rfl⟩) (by omega) (by omega) ?_); intro ad27 had27; have H27 := Hd (show Bs w ad27 2 rc (R.take 2) by rw [had27.out]; exact Bs.part HRR.out 0 2 (by omega) (by omega)); simp only [PT])
 | (go_at_call 57; (with_reducible show Calls _ _ #[Value.slice ad27 _ _, _] _ _); (refine (z1p ad27 2 rc _ big _ (H27.out.below (HB.out.trans (Below.mono bup HB.out.size)))).mono ?_); intro e w5 hr5; unfold RetN at hr5; rw [HCD.out] at hr5; obtain ⟨rfl, hb5⟩ := hr5; have hE__ := cU HB bup hb5; replace HB := ck HB hE__; replace HG := ck HG hE__; replace HW := ck HW hE__; clear hE__; clear hb5 H27)
 | ((with_reducible refine sl 32 ?_); (refine z0t elB rfl (.tmp 31) (some (.const (.int .i64 2))) (some (.const (.int .i64 4))) rfl rfl 2 4 (.inr ⟨.i64, rfl⟩) (.inr ⟨.i64, rfl⟩) (by omega) (by omega) ?_); intro ad32 had32; have H32 := Hd (show Bs w ad32 2 (rc - 2) ((R.drop 2).take 2) by rw [had32.out]; exact Bs.part HRR.out 2 4 (by omega) (by omega)); simp only [PT])
 | (go_at_call 57; (with_reducible show Calls _ _ #[Value.slice ad32 _ _, _] _ _); (refine (z1p ad32 2 (rc - 2) _ big _ (H32.out.below (HB.out.trans (Below.mono bup HB.out.size)))).mono ?_); intro e w6 hr6; unfold RetN at hr6; rw [HSZ.out] at hr6; obtain ⟨rfl, hb6⟩ := hr6; have hE__ := cU HB bup hb6; replace HB := ck HB hE__; replace HG := ck HG hE__; replace HW := ck HW hE__; clear hE__; clear hb6 H32)
 | ((with_reducible show wpList _ _ _ (⟨none, .store _ _ _, _, _, _, _⟩ :: _) _ _); (refine z10 rfl 49 (.tmp 7) (.tmp 49) rfl w.heap.size (at_, 3) rfl rfl HG.out HI.out ?_); intro w9 hg9 hgr9; have HG9 := Hd hg9; have HB9 := Hd (HB.out.grown hgr9 HB.out.size (fun k e => by cases e; exact Nat.le_refl _)); have HW9 := Hd (HW.out.other hgr9 (by omega)); clear hg9 hgr9; simp only [PT]))
            (try simp only [Exit.inBlock, Exit.then, Exit.noGoto_ret])
            refine z1a (cs := spotC (at_, 3)) rfl rfl (z00 HG9.out) Try.underlying49 rfl HI.out rfl ?_
            exact ⟨none, 0, 0, [], by rw [HE.out]; rfl, OwnOps.nil _ _ _, by rw [HE.out]; rfl, HB9.out⟩
        · by_cases h5 : (rn : Int) - 4 < (sz : Int) + (padN sz : Int)
          · have HE := Hd (((HE1.out.trans (if_neg (by omega))).trans (if_neg hc)).trans (if_pos (by omega)))
            go_wp2_with (first
 | ((with_reducible refine sl 20 ?_); (refine z0t elB rfl (.tmp 18) (some (.tmp 19)) none rfl rfl at_ n (.inr ⟨.i64, rfl⟩) (.inl ⟨rfl, rfl⟩) (by omega) (by omega) ?_); intro adr hadr; rw [← HRN.out, ← HRC.out]; have HRR := Hd (show Bs w adr rn rc R by rw [hadr.out]; exact HR0.out); simp only [PT])
 | ((with_reducible refine sl 27 ?_); (refine z0t elB rfl (.tmp 26) none (some (.const (.int .i64 2))) rfl rfl 0 2 (.inl ⟨rfl, rfl⟩) (.inr ⟨.i64, rfl⟩) (by omega) (by omega) ?_); intro ad27 had27; have H27 := Hd (show Bs w ad27 2 rc (R.take 2) by rw [had27.out]; exact Bs.part HRR.out 0 2 (by omega) (by omega)); simp only [PT])
 | (go_at_call 57; (with_reducible show Calls _ _ #[Value.slice ad27 _ _, _] _ _); (refine (z1p ad27 2 rc _ big _ (H27.out.below (HB.out.trans (Below.mono bup HB.out.size)))).mono ?_); intro e w5 hr5; unfold RetN at hr5; rw [HCD.out] at hr5; obtain ⟨rfl, hb5⟩ := hr5; have hE__ := cU HB bup hb5; replace HB := ck HB hE__; replace HG := ck HG hE__; replace HW := ck HW hE__; clear hE__; clear hb5 H27)
 | ((with_reducible refine sl 32 ?_); (refine z0t elB rfl (.tmp 31) (some (.const (.int .i64 2))) (some (.const (.int .i64 4))) rfl rfl 2 4 (.inr ⟨.i64, rfl⟩) (.inr ⟨.i64, rfl⟩) (by omega) (by omega) ?_); intro ad32 had32; have H32 := Hd (show Bs w ad32 2 (rc - 2) ((R.drop 2).take 2) by rw [had32.out]; exact Bs.part HRR.out 2 4 (by omega) (by omega)); simp only [PT])
 | (go_at_call 57; (with_reducible show Calls _ _ #[Value.slice ad32 _ _, _] _ _); (refine (z1p ad32 2 (rc - 2) _ big _ (H32.out.below (HB.out.trans (Below.mono bup HB.out.size)))).mono ?_); intro e w6 hr6; unfold RetN at hr6; rw [HSZ.out] at hr6; obtain ⟨rfl, hb6⟩ := hr6; have hE__ := cU HB bup hb6; replace HB := ck HB hE__; replace HG := ck HG hE__; replace HW := ck HW hE__; clear hE__; clear hb6 H32)
 | (go_at_call 72; (refine (pad_nat sz _ (by omega)).mono ?_); rintro e w8 ⟨rfl, rfl⟩)
 | ((with_reducible show wpList _ _ _ (⟨none, .store _ _ _, _, _, _, _⟩ :: _) _ _); (refine z10 rfl 49 (.tmp 7) (.tmp 60) rfl w.heap.size (at_, 2) rfl rfl HG.out HI.out ?_); intro w9 hg9 hgr9; have HG9 := Hd hg9; have HB9 := Hd (HB.out.grown hgr9 HB.out.size (fun k e => by cases e; exact Nat.le_refl _)); have HW9 := Hd (HW.out.other hgr9 (by omega)); clear hg9 hgr9; simp only [PT]))
            (try simp only [Exit.inBlock, Exit.then, Exit.noGoto_ret])
            refine z1a (cs := spotC (at_, 2)) rfl rfl (z00 HG9.out) Try.underlying49 rfl HI.out rfl ?_
            exact ⟨none, 0, 0, [], by rw [HE.out]; rfl, OwnOps.nil _ _ _, by rw [HE.out]; rfl, HB9.out⟩
          · have HE := Hd (((HE1.out.trans (if_neg (by omega))).trans (if_neg hc)).trans (if_neg (by omega)))
            obtain ⟨V, hV⟩ : ∃ V, V = (R.drop 4).take sz := ⟨_, rfl⟩
            have HV := Hd hV
            have HVL := Hd (show V.length = sz by rw [hV, List.length_take, List.length_drop, HRL.out]; omega)
            clear hV
            go_wp2_with (first
 | ((with_reducible refine sl 20 ?_); (refine z0t elB rfl (.tmp 18) (some (.tmp 19)) none rfl rfl at_ n (.inr ⟨.i64, rfl⟩) (.inl ⟨rfl, rfl⟩) (by omega) (by omega) ?_); intro adr hadr; rw [← HRN.out, ← HRC.out]; have HRR := Hd (show Bs w adr rn rc R by rw [hadr.out]; exact HR0.out); simp only [PT])
 | ((with_reducible refine sl 27 ?_); (refine z0t elB rfl (.tmp 26) none (some (.const (.int .i64 2))) rfl rfl 0 2 (.inl ⟨rfl, rfl⟩) (.inr ⟨.i64, rfl⟩) (by omega) (by omega) ?_); intro ad27 had27; have H27 := Hd (show Bs w ad27 2 rc (R.take 2) by rw [had27.out]; exact Bs.part HRR.out 0 2 (by omega) (by omega)); simp only [PT])
 | (go_at_call 57; (with_reducible show Calls _ _ #[Value.slice ad27 _ _, _] _ _); (refine (z1p ad27 2 rc _ big _ (H27.out.below (HB.out.trans (Below.mono bup HB.out.size)))).mono ?_); intro e w5 hr5; unfold RetN at hr5; rw [HCD.out] at hr5; obtain ⟨rfl, hb5⟩ := hr5; have hE__ := cU HB bup hb5; replace HB := ck HB hE__; replace HG := ck HG hE__; replace HW := ck HW hE__; clear hE__; clear hb5 H27)
 | ((with_reducible refine sl 32 ?_); (refine z0t elB rfl (.tmp 31) (some (.const (.int .i64 2))) (some (.const (.int .i64 4))) rfl rfl 2 4 (.inr ⟨.i64, rfl⟩) (.inr ⟨.i64, rfl⟩) (by omega) (by omega) ?_); intro ad32 had32; have H32 := Hd (show Bs w ad32 2 (rc - 2) ((R.drop 2).take 2) by rw [had32.out]; exact Bs.part HRR.out 2 4 (by omega) (by omega)); simp only [PT])
 | (go_at_call 57; (with_reducible show Calls _ _ #[Value.slice ad32 _ _, _] _ _); (refine (z1p ad32 2 (rc - 2) _ big _ (H32.out.below (HB.out.trans (Below.mono bup HB.out.size)))).mono ?_); intro e w6 hr6; unfold RetN at hr6; rw [HSZ.out] at hr6; obtain ⟨rfl, hb6⟩ := hr6; have hE__ := cU HB bup hb6; replace HB := ck HB hE__; replace HG := ck HG hE__; replace HW := ck HW hE__; clear hE__; clear hb6 H32)
 | (go_at_call 72; (refine (pad_nat sz _ (by omega)).mono ?_); rintro e w8 ⟨rfl, rfl⟩)
 | ((with_reducible refine sl 66 ?_); (refine z0t elB rfl (.tmp 63) (some (.const (.int .i64 4))) (some (.tmp 65)) rfl rfl 4 (4 + sz) (.inr ⟨.i64, rfl⟩) (.inr ⟨.i64, rfl⟩) (by omega) (by omega) ?_); intro ad66 had66; rw [show 4 + sz - 4 = sz by omega]; have H66 := Hd (show Bs w ad66 sz (rc - 4) V by rw [had66.out, HV.out]; have := Bs.part HRR.out 4 (4 + sz) (by omega) (by omega); rwa [show 4 + sz - 4 = sz by omega] at this); simp only [PT])
 | (go_at_call 68; (refine (z2d ad66 sz (rc - 4) V _ (H66.out.below (HB.out.trans (Below.mono bup HB.out.size))) (by omega)).mono ?_); intro e w7 hr7; unfold RetB at hr7; rw [HVL.out] at hr7; obtain ⟨ad7, c7, rfl, ho7, hb7⟩ := hr7; have HNB := Hd (new_apart ho7 HW.out (by have := HB.out.size; have := lt_of_block HG.out; omega)); have hE__ := cU HB bup hb7; replace HB := ck HB hE__; replace HG := ck HG hE__; replace HW := ck HW hE__; clear hE__; have H7 := Hd (Bs.of_own ho7); clear ho7 hb7 H66)
 | ((with_reducible refine sl 70 ?_); (refine wpL_pushO elO rfl (.tmp 61) (.tmp 69) rfl (w.heap.size + 1) rfl HW.out ⟨(cd : Int), ad7, sz, c7, V⟩ rfl rfl H7.out HNB.out (lt_of_block HG.out) (by omega) ?_); intro ad9 c9 w9 ho9 hb9; clear HW; have HW := Hd ho9; have HB9 := Hd (HB.out.trans (hb9.mono (by omega))); have HG9 := Hd ((hb9.block w.heap.size (by omega)).trans HG.out); clear HB HG; have HB := HB9; have HG := HG9; clear HB9 HG9 ho9 hb9 H7 HNB; simp only [PT]))
            go_roundw
            case rel => exact ⟨at_ + (4 + sz + padN sz), ad9, n1 + 1, c9, os ++ [⟨(cd : Int), ad7, sz, c7, V⟩], by omega, rfl, by omega, by go_num, rfl, HW.out, HG.out, HB.out, Hd (by rw [HE.out, vals_append, ← HV.out]; rfl)⟩
            case measure => simp [intOf]; omega
    · have HE := Hd (HX.out.trans (rows_end big l at_ (vals os) (by omega)))
      clear hn
      go_wp2_with (first
 | ((with_reducible show wpList _ _ _ (⟨none, .store _ _ _, _, _, _, _⟩ :: _) _ _); (refine z10 rfl 49 (.tmp 7) (.tmp 81) rfl w.heap.size (0, 0) rfl rfl HG.out HI.out ?_); intro w9 hg9 hgr9; have HG9 := Hd hg9; have HB9 := Hd (HB.out.grown hgr9 HB.out.size (fun k e => by cases e; exact Nat.le_refl _)); have HW9 := Hd (HW.out.other hgr9 (by omega)); clear hg9 hgr9; simp only [PT]))
      (try simp only [Exit.inBlock, Exit.then, Exit.noGoto_ret])
      refine z1a (cs := spotC (0, 0)) rfl rfl (z00 HG9.out) Try.underlying49 rfl HI.out rfl ?_
      exact ⟨ad1, n1, c1, os, by rw [HE.out]; rfl, HW9.out.base (by omega), by rw [HE.out], HB9.out⟩
theorem z2u (ad : Option Addr) (n c : Nat) (l : List UInt8) (big : Bool) (w : World) (hs : Bs w ad n c l) (hsz : n ≤ 1000000000) :
    Calls Try.prog 87 #[.slice ad n c, .bool big] w fun e w' => ∃ ad' n' c' os, e = .returned (.tuple #[.slice ad' n' c', .int .i64 ((rowsB big l).2.1 : Int), .bool (rowsB big l).2.2.1, .agg (spotC (rowsB big l).2.2.2).toArray]) ∧ OwnOps 90 w.heap.size w' ad' n' c' os ∧ vals os = (rowsB big l).1 ∧ Below w.heap.size w w' := by
  have hn := hs.len
  have hle := hs.le
  obtain ⟨X, hX⟩ : ∃ X, X = rowsB big l := ⟨_, rfl⟩
  have HX0 := Hd (show X = rowsS big l.length (l.drop 0) 0 (vals []) by rw [hX, List.drop_zero]; rfl)
  rw [← hX]
  have HS := Hd hs
  have HN := Hd hn
  have HI : Hid ((Try.prog.info? 49).map (·.size) = some 2) := Hd (by kernel_rfl)
  clear hs hn hX
  go_enter Try.func87, Try.ntmps87
  go_wp2_with fail
  go_loopw [8, 9] (fun v i wr => ∃ (at_ : Nat) (ad' : Option Addr) (n' c' : Nat) (os : List OptV), at_ ≤ n ∧ 4 * n' ≤ at_ ∧ i = .int .i64 at_ ∧ v = .slice ad' n' c' ∧ OwnOps 90 (w.heap.size + 1) wr ad' n' c' os ∧ wr.heap[w.heap.size]? = some (.cells (spotC (0, 0)).toArray 49 (0, 0)) ∧ Below w.heap.size w wr ∧ Hid (X = rowsS big l.length (l.drop at_) at_ (vals os))) (fun _ i _ => n - (intOf i).toNat)
  case atStart => exact ⟨0, none, 0, 0, [], by omega, by omega, rfl, rfl, OwnOps.nil _ _ _, heap_alloc_last w _, (Below.refl _ _).alloc (Nat.le_refl _) _, HX0⟩
  case round =>
    obtain ⟨at_, ad1, n1, c1, os, hat, hn1, rfl, rfl, how, hg, hb, HX⟩ := hrel
    have HW := Hd how
    have HG := Hd hg
    have HB := Hd hb
    have hw1 : w.heap.size + 1 ≤ wr.heap.size := lt_of_block hg
    clear how hg hb HX0
    have hn := HN.out
    by_cases hlt : at_ < n
    · have HST := Hd (HX.out.trans (rows_step big l at_ (vals os) (by omega)))
      have HR0 := Hd (Bs.drop8 HS.out at_ (by omega))
      obtain ⟨R, hR⟩ : ∃ R, R = l.drop at_ := ⟨_, rfl⟩
      obtain ⟨rn, hrn⟩ : ∃ rn, rn = l.length - at_ := ⟨_, rfl⟩
      obtain ⟨rc, hrc⟩ : ∃ rc, rc = c - at_ := ⟨_, rfl⟩
      obtain ⟨cd, hcd⟩ : ∃ cd, cd = codeOf big R := ⟨_, rfl⟩
      obtain ⟨sz, hsz2⟩ : ∃ sz, sz = sizeOf2 big R := ⟨_, rfl⟩
      have hcd1 : cd ≤ 65535 := by rw [hcd]; exact codeOf_le _ _
      have hsz1 : sz ≤ 65535 := by rw [hsz2]; exact sizeOf2_le _ _
      rw [← hR, ← hcd, ← hsz2, ← hrn] at HST
      rw [← hn] at hrn
      rw [← hR, ← hrn, ← hrc] at HR0
      have hrb : rn + at_ = n := by omega
      have hrr : rn ≤ rc := by omega
      have HRN := Hd hrn
      have HRC := Hd hrc
      have HCD := Hd (show getN (R.take 2) big = cd from hcd.symm)
      have HSZ := Hd (show getN ((R.drop 2).take 2) big = sz from hsz2.symm)
      have HRL := Hd (show R.length = rn by rw [hR, List.length_drop]; omega)
      have HR := Hd hR
      have hp3 := padN_le sz
      have hac : at_ ≤ c := by omega
      clear hR hrn hrc hcd hsz2 hn
      by_cases h4 : (n : Int) < (at_ : Int) + 4
      · have HE := Hd (HST.out.trans (if_pos (by omega)))
        go_wp2_with (first
 | ((with_reducible show wpList _ _ _ (⟨none, .store _ _ _, _, _, _, _⟩ :: _) _ _); (refine z10 rfl 49 (.tmp 7) (.tmp 24) rfl w.heap.size (at_, 2) rfl rfl HG.out HI.out ?_); intro w9 hg9 hgr9; have HG9 := Hd hg9; have HB9 := Hd (HB.out.grown hgr9 HB.out.size (fun k e => by cases e; exact Nat.le_refl _)); have HW9 := Hd (HW.out.other hgr9 (by omega)); clear hg9 hgr9; simp only [PT]))
        (try simp only [Exit.inBlock, Exit.then, Exit.noGoto_ret])
        refine z1a (cs := spotC (at_, 2)) rfl rfl (z00 HG9.out) Try.underlying49 rfl HI.out rfl ?_
        exact ⟨none, 0, 0, [], by rw [HE.out]; rfl, OwnOps.nil _ _ _, by rw [HE.out]; rfl, HB9.out⟩
      · have h4n : 4 ≤ rn := by omega
        have HE1 := Hd (HST.out.trans (if_neg (by omega)))
        clear HST
        by_cases hc : cd = 0
        · by_cases hz : sz = 0
          · have HE := Hd (HE1.out.trans (if_pos ⟨hc, hz⟩))
            go_wp2_with (first
 | ((with_reducible refine sl 29 ?_); (refine z0t elB rfl (.tmp 25) (some (.tmp 26)) (some (.tmp 28)) rfl rfl at_ (at_ + 2) (.inr ⟨.i64, rfl⟩) (.inr ⟨.i64, rfl⟩) (by omega) (by omega) ?_); intro ad29 had29; rw [show at_ + 2 - at_ = 2 by omega]; have H29 := Hd (show Bs w ad29 2 (c - at_) (R.take 2) by rw [had29.out, HR.out]; have := Bs.part HS.out at_ (at_ + 2) (by omega) (by omega); rwa [show at_ + 2 - at_ = 2 by omega] at this); simp only [PT])
 | (go_at_call 61; (with_reducible show Calls _ _ #[Value.slice ad29 _ _, _] _ _); (refine (z12 ad29 2 (c - at_) _ big _ (H29.out.below (HB.out.trans (Below.mono bup HB.out.size)))).mono ?_); intro e w5 hr5; (try unfold RetN at hr5); rw [HCD.out] at hr5; obtain ⟨rfl, hb5⟩ := hr5; (first | (have hE__ := cU HB bup hb5; replace HB := ck HB hE__; replace HG := ck HG hE__; replace HW := ck HW hE__; clear hE__) | (subst hb5)); (try clear hb5); clear H29)
 | ((with_reducible refine sl 38 ?_); (refine z0t elB rfl (.tmp 33) (some (.tmp 35)) (some (.tmp 37)) rfl rfl (at_ + 2) (at_ + 4) (.inr ⟨.i64, rfl⟩) (.inr ⟨.i64, rfl⟩) (by omega) (by omega) ?_); intro ad38 had38; rw [show at_ + 4 - (at_ + 2) = 2 by omega]; have H38 := Hd (show Bs w ad38 2 (c - (at_ + 2)) ((R.drop 2).take 2) by rw [had38.out, HR.out, List.drop_drop]; have := Bs.part HS.out (at_ + 2) (at_ + 4) (by omega) (by omega); rwa [show at_ + 4 - (at_ + 2) = 2 by omega] at this); simp only [PT])
 | (go_at_call 61; (with_reducible show Calls _ _ #[Value.slice ad38 _ _, _] _ _); (refine (z12 ad38 2 (c - (at_ + 2)) _ big _ (H38.out.below (HB.out.trans (Below.mono bup HB.out.size)))).mono ?_); intro e w6 hr6; (try unfold RetN at hr6); rw [HSZ.out] at hr6; obtain ⟨rfl, hb6⟩ := hr6; (first | (have hE__ := cU HB bup hb6; replace HB := ck HB hE__; replace HG := ck HG hE__; replace HW := ck HW hE__; clear hE__) | (subst hb6)); (try clear hb6); clear H38)
 | ((with_reducible show wpList _ _ _ (⟨none, .store _ _ _, _, _, _, _⟩ :: _) _ _); (refine z10 rfl 49 (.tmp 7) (.tmp 51) rfl w.heap.size (0, 0) rfl rfl HG.out HI.out ?_); intro w9 hg9 hgr9; have HG9 := Hd hg9; have HB9 := Hd (HB.out.grown hgr9 HB.out.size (fun k e => by cases e; exact Nat.le_refl _)); have HW9 := Hd (HW.out.other hgr9 (by omega)); clear hg9 hgr9; simp only [PT]))
            (try simp only [Exit.inBlock, Exit.then, Exit.noGoto_ret])
            refine z1a (cs := spotC (0, 0)) rfl rfl (z00 HG9.out) Try.underlying49 rfl HI.out rfl ?_
            exact ⟨ad1, n1, c1, os, by rw [HE.out]; rfl, HW9.out.base (by omega), by rw [HE.out], HB9.out⟩
          · have HE := Hd ((HE1.out.trans (if_neg (by omega))).trans (if_pos hc))
            go_wp2_with (first
 | ((with_reducible refine sl 29 ?_); (refine z0t elB rfl (.tmp 25) (some (.tmp 26)) (some (.tmp 28)) rfl rfl at_ (at_ + 2) (.inr ⟨.i64, rfl⟩) (.inr ⟨.i64, rfl⟩) (by omega) (by omega) ?_); intro ad29 had29; rw [show at_ + 2 - at_ = 2 by omega]; have H29 := Hd (show Bs w ad29 2 (c - at_) (R.take 2) by rw [had29.out, HR.out]; have := Bs.part HS.out at_ (at_ + 2) (by omega) (by omega); rwa [show at_ + 2 - at_ = 2 by omega] at this); simp only [PT])
 | (go_at_call 61; (with_reducible show Calls _ _ #[Value.slice ad29 _ _, _] _ _); (refine (z12 ad29 2 (c - at_) _ big _ (H29.out.below (HB.out.trans (Below.mono bup HB.out.size)))).mono ?_); intro e w5 hr5; (try unfold RetN at hr5); rw [HCD.out] at hr5; obtain ⟨rfl, hb5⟩ := hr5; (first | (have hE__ := cU HB bup hb5; replace HB := ck HB hE__; replace HG := ck HG hE__; replace HW := ck HW hE__; clear hE__) | (subst hb5)); (try clear hb5); clear H29)
 | ((with_reducible refine sl 38 ?_); (refine z0t elB rfl (.tmp 33) (some (.tmp 35)) (some (.tmp 37)) rfl rfl (at_ + 2) (at_ + 4) (.inr ⟨.i64, rfl⟩) (.inr ⟨.i64, rfl⟩) (by omega) (by omega) ?_); intro ad38 had38; rw [show at_ + 4 - (at_ + 2) = 2 by omega]; have H38 := Hd (show Bs w ad38 2 (c - (at_ + 2)) ((R.drop 2).take 2) by rw [had38.out, HR.out, List.drop_drop]; have := Bs.part HS.out (at_ + 2) (at_ + 4) (by omega) (by omega); rwa [show at_ + 4 - (at_ + 2) = 2 by omega] at this); simp only [PT])
 | (go_at_call 61; (with_reducible show Calls _ _ #[Value.slice ad38 _ _, _] _ _); (refine (z12 ad38 2 (c - (at_ + 2)) _ big _ (H38.out.below (HB.out.trans (Below.mono bup HB.out.size)))).mono ?_); intro e w6 hr6; (try unfold RetN at hr6); rw [HSZ.out] at hr6; obtain ⟨rfl, hb6⟩ := hr6; (first | (have hE__ := cU HB bup hb6; replace HB := ck HB hE__; replace HG := ck HG hE__; replace HW := ck HW hE__; clear hE__) | (subst hb6)); (try clear hb6); clear H38)
 | ((with_reducible show wpList _ _ _ (⟨none, .store _ _ _, _, _, _, _⟩ :: _) _ _); (refine z10 rfl 49 (.tmp 7) (.tmp 55) rfl w.heap.size (at_, 3) rfl rfl HG.out HI.out ?_); intro w9 hg9 hgr9; have HG9 := Hd hg9; have HB9 := Hd (HB.out.grown hgr9 HB.out.size (fun k e => by cases e; exact Nat.le_refl _)); have HW9 := Hd (HW.out.other hgr9 (by omega)); clear hg9 hgr9; simp only [PT]))
            (try simp only [Exit.inBlock, Exit.then, Exit.noGoto_ret])
            refine z1a (cs := spotC (at_, 3)) rfl rfl (z00 HG9.out) Try.underlying49 rfl HI.out rfl ?_
            exact ⟨none, 0, 0, [], by rw [HE.out]; rfl, OwnOps.nil _ _ _, by rw [HE.out]; rfl, HB9.out⟩
        · have HE2 := Hd ((HE1.out.trans (if_neg (by omega))).trans (if_neg hc))
          clear HE1
          go_wp2_with (first
 | ((with_reducible refine sl 29 ?_); (refine z0t elB rfl (.tmp 25) (some (.tmp 26)) (some (.tmp 28)) rfl rfl at_ (at_ + 2) (.inr ⟨.i64, rfl⟩) (.inr ⟨.i64, rfl⟩) (by omega) (by omega) ?_); intro ad29 had29; rw [show at_ + 2 - at_ = 2 by omega]; have H29 := Hd (show Bs w ad29 2 (c - at_) (R.take 2) by rw [had29.out, HR.out]; have := Bs.part HS.out at_ (at_ + 2) (by omega) (by omega); rwa [show at_ + 2 - at_ = 2 by omega] at this); simp only [PT])
 | (go_at_call 61; (with_reducible show Calls _ _ #[Value.slice ad29 _ _, _] _ _); (refine (z12 ad29 2 (c - at_) _ big _ (H29.out.below (HB.out.trans (Below.mono bup HB.out.size)))).mono ?_); intro e w5 hr5; (try unfold RetN at hr5); rw [HCD.out] at hr5; obtain ⟨rfl, hb5⟩ := hr5; (first | (have hE__ := cU HB bup hb5; replace HB := ck HB hE__; replace HG := ck HG hE__; replace HW := ck HW hE__; clear hE__) | (subst hb5)); (try clear hb5); clear H29)
 | ((with_reducible refine sl 38 ?_); (refine z0t elB rfl (.tmp 33) (some (.tmp 35)) (some (.tmp 37)) rfl rfl (at_ + 2) (at_ + 4) (.inr ⟨.i64, rfl⟩) (.inr ⟨.i64, rfl⟩) (by omega) (by omega) ?_); intro ad38 had38; rw [show at_ + 4 - (at_ + 2) = 2 by omega]; have H38 := Hd (show Bs w ad38 2 (c - (at_ + 2)) ((R.drop 2).take 2) by rw [had38.out, HR.out, List.drop_drop]; have := Bs.part HS.out (at_ + 2) (at_ + 4) (by omega) (by omega); rwa [show at_ + 4 - (at_ + 2) = 2 by omega] at this); simp only [PT])
 | (go_at_call 61; (with_reducible show Calls _ _ #[Value.slice ad38 _ _, _] _ _); (refine (z12 ad38 2 (c - (at_ + 2)) _ big _ (H38.out.below (HB.out.trans (Below.mono bup HB.out.size)))).mono ?_); intro e w6 hr6; (try unfold RetN at hr6); rw [HSZ.out] at hr6; obtain ⟨rfl, hb6⟩ := hr6; (first | (have hE__ := cU HB bup hb6; replace HB := ck HB hE__; replace HG := ck HG hE__; replace HW := ck HW hE__; clear hE__) | (subst hb6)); (try clear hb6); clear H38))
          go_loop [12] (fun v => ∃ (j m : Nat), j ≤ padN sz ∧ v = .int .i64 m ∧ Hid (m = sz + j)) (fun v => sz + padN sz - (intOf v).toNat)
          case atStart => exact ⟨0, sz, by omega, rfl, Hd rfl⟩
          case round =>
            obtain ⟨j, m, hj, rfl, HM⟩ := hrel
            have hmb : m ≤ 65538 := by have := HM.out; omega
            by_cases h6 : (m : Int) % 4 = 0
            · have hj2 : j = padN sz := padN_end sz j (by have := HM.out; omega) hj
              have hm2 : m = sz + padN sz := by rw [HM.out, hj2]
              have HM2 := Hd hm2
              clear HM hj2 hm2
              by_cases h5 : (n : Int) < (at_ : Int) + 4 + (m : Int)
              · have HE := Hd (HE2.out.trans (if_pos (by have := HM2.out; omega)))
                go_wp2_with (first
 | ((with_reducible show wpList _ _ _ (⟨none, .store _ _ _, _, _, _, _⟩ :: _) _ _); (refine z10 rfl 49 (.tmp 7) (.tmp 70) rfl w.heap.size (at_, 2) rfl rfl HG.out HI.out ?_); intro w9 hg9 hgr9; have HG9 := Hd hg9; have HB9 := Hd (HB.out.grown hgr9 HB.out.size (fun k e => by cases e; exact Nat.le_refl _)); have HW9 := Hd (HW.out.other hgr9 (by omega)); clear hg9 hgr9; simp only [PT]))
                (try simp only [Exit.inBlock, Exit.then, Exit.noGoto_ret])
                refine z1a (cs := spotC (at_, 2)) rfl rfl (z00 HG9.out) Try.underlying49 rfl HI.out rfl ?_
                exact ⟨none, 0, 0, by rw [HE.out]; rfl, [], OwnOps.nil _ _ _, by rw [HE.out]; rfl, HB9.out⟩
              · have HE := Hd (HE2.out.trans (if_neg (by have := HM2.out; omega)))
                have hszc : at_ + 4 + sz ≤ n := by have := HM2.out; omega
                obtain ⟨V, hV⟩ : ∃ V, V = (R.drop 4).take sz := ⟨_, rfl⟩
                have HV := Hd hV
                clear hV
                go_wp2_with (first
 | ((with_reducible refine sl 79 ?_); (refine z0t elB rfl (.tmp 72) (some (.tmp 74)) (some (.tmp 78)) rfl rfl (at_ + 4) (at_ + 4 + sz) (.inr ⟨.i64, rfl⟩) (.inr ⟨.i64, rfl⟩) (by omega) (by omega) ?_); intro ad79 had79; rw [show at_ + 4 + sz - (at_ + 4) = sz by omega]; have H79 := Hd (show Bs w ad79 sz (c - (at_ + 4)) V by rw [had79.out, HV.out, HR.out, List.drop_drop]; have := Bs.part HS.out (at_ + 4) (at_ + 4 + sz) (by omega) (by omega); rwa [show at_ + 4 + sz - (at_ + 4) = sz by omega] at this); simp only [PT])
 | ((with_reducible refine sl 80 ?_); (refine wpL_appB (l := []) elB rfl (.tmp 71) (.tmp 79) rfl wr.heap.size rfl (World.ownsRow_nil _ _ _ _) rfl (H79.out.below HB.out) (by omega) (Nat.le_refl _) ?_); intro ad7 c7 w7 ho7 hb7; rw [List.nil_append] at ho7; simp only [Nat.zero_add] at ho7; have HNB := Hd (new_apart ho7 HW.out (by have := lt_of_block HG.out; omega)); have hE__ := cU HB bup hb7; replace HB := ck HB hE__; replace HG := ck HG hE__; replace HW := ck HW hE__; clear hE__; have H7 := Hd (Bs.of_own ho7); clear ho7 hb7 H79; simp only [Nat.zero_add, Act.put, List.setIfInBounds_toArray, List.set_cons_zero, List.set_cons_succ])
 | ((with_reducible refine sl 86 ?_); (refine wpL_pushO elO rfl (.tmp 81) (.tmp 85) rfl (w.heap.size + 1) rfl HW.out ⟨(cd : Int), ad7, sz, c7, V⟩ rfl rfl H7.out HNB.out (lt_of_block HG.out) (by omega) ?_); intro ad9 c9 w9 ho9 hb9; clear HW; have HW := Hd ho9; have HB9 := Hd (HB.out.trans (hb9.mono (by omega))); have HG9 := Hd ((hb9.block w.heap.size (by omega)).trans HG.out); clear HB HG; have HB := HB9; have HG := HG9; clear HB9 HG9 ho9 hb9 H7 HNB; simp only [PT]))
                go_roundw
                case rel => exact ⟨at_ + (4 + sz + padN sz), ad9, n1 + 1, c9, os ++ [⟨(cd : Int), ad7, sz, c7, V⟩], by have := HM2.out; omega, by omega, by have := HM2.out; go_num, rfl, HW.out, HG.out, HB.out, Hd (by rw [HE.out, vals_append, ← HV.out]; rfl)⟩
                case measure => simp [intOf]; omega
            · have hj2 : j < padN sz := padN_more sz j (by have := HM.out; omega) hj
              go_wp2_with fail
              go_round
              case rel => exact ⟨j + 1, m + 1, by omega, by go_num, Hd (by rw [HM.out]; omega)⟩
              case measure => simp [intOf]; have := HM.out; omega
    · have HE := Hd (HX.out.trans (rows_end big l at_ (vals os) (by omega)))
      clear hn
      go_wp2_with (first
 | ((with_reducible show wpList _ _ _ (⟨none, .store _ _ _, _, _, _, _⟩ :: _) _ _); (refine z10 rfl 49 (.tmp 7) (.tmp 93) rfl w.heap.size (0, 0) rfl rfl HG.out HI.out ?_); intro w9 hg9 hgr9; have HG9 := Hd hg9; have HB9 := Hd (HB.out.grown hgr9 HB.out.size (fun k e => by cases e; exact Nat.le_refl _)); have HW9 := Hd (HW.out.other hgr9 (by omega)); clear hg9 hgr9; simp only [PT]))
      (try simp only [Exit.inBlock, Exit.then, Exit.noGoto_ret])
      refine z1a (cs := spotC (0, 0)) rfl rfl (z00 HG9.out) Try.underlying49 rfl HI.out rfl ?_
      exact ⟨ad1, n1, c1, os, by rw [HE.out]; rfl, HW9.out.base (by omega), by rw [HE.out], HB9.out⟩
theorem equal_spot (p q : Nat × Int) (w : World) : (Go.Op.equalIn 10000 49 (.agg (spotC p).toArray) (.agg (spotC q).toArray)).run Try.prog w = .ok (decide (p = q)) w := by
  obtain ⟨a, b⟩ := p
  obtain ⟨c, d⟩ := q
  rw [run_equalIn_agg (P := Try.prog) w 9999 49 _ _ (by kernel_rfl) (by kernel_rfl), show (Try.prog.fieldsOf 49).toList = _ from by rw [Program.fieldsOf, Try.underlying49]]
  simp [Op.eqFields, spotC, go_sem, part, isAgg, run_underlying Try.underlying3, run_underlying Try.underlying31, Try.underlying3, Try.underlying31]
  have e : ((a : Int) = (c : Int)) ↔ a = c := by omega
  by_cases h1 : a = c <;> by_cases h2 : b = d <;> simp [h1, h2, e]
theorem z3f {ops : Array Oper} {rest : List Oper} {o : Oper} {a : Act} {w : World} {Q : Exit → Act → World → Prop} (p q : Nat × Int) (b : Bool) (hb : b = decide (p = q)) (hgd : Region.wanted o (yielded ops a.tmps) = true) (x y : Operand) (ho : o.op = .binOp .eql 49 x y 49)
    (hx : a.eval x = .agg (spotC p).toArray) (hy : a.eval y = .agg (spotC q).toArray) (h : wpList Try.prog ops Q rest (a.put o.dst (.bool b)) w) : wpList Try.prog ops Q (o :: rest) a w := by
  subst hb
  refine z23 hgd (v := .bool (decide (p = q))) (w' := w) ?_ h
  have hgd := run_eqGuard_agg (P := Try.prog) w .eql 49 x y (spotC p).toArray (spotC q).toArray (by kernel_rfl)
  have hes := run_eql_struct (P := Try.prog) w 49 (spotC p).toArray (spotC q).toArray
  rw [equal_spot] at hes
  simp only [execOp, ho, hx, hy, Sem.run_bind, hgd, hes, Result.andThen_ok, Sem.run_pure]
theorem z3e {ops : Array Oper} {rest : List Oper} {o : Oper} {a : Act} {w : World} {Q : Exit → Act → World → Prop} (p q : Nat × Int) (b : Bool) (hb : b = !decide (p = q)) (hgd : Region.wanted o (yielded ops a.tmps) = true) (x y : Operand) (ho : o.op = .binOp .neq 49 x y 49)
    (hx : a.eval x = .agg (spotC p).toArray) (hy : a.eval y = .agg (spotC q).toArray) (h : wpList Try.prog ops Q rest (a.put o.dst (.bool b)) w) : wpList Try.prog ops Q (o :: rest) a w := by
  subst hb
  refine z23 hgd (v := .bool (!decide (p = q))) (w' := w) ?_ h
  have hgd := run_eqGuard_agg (P := Try.prog) w .neq 49 x y (spotC p).toArray (spotC q).toArray (by kernel_rfl)
  have hes := run_neq_struct (P := Try.prog) w 49 (spotC p).toArray (spotC q).toArray
  rw [equal_spot] at hes
  simp only [execOp, ho, hx, hy, Sem.run_bind, hgd, hes, Result.andThen_ok, Sem.run_pure]
theorem z2b {P : Program} {ops : Array Oper} {o : Oper} {a : Act} {w : World} {K : Act → World → Prop} {Q : Exit → Act → World → Prop} {E : Prop} (hgd : Region.wanted o (yielded ops a.tmps) = true) (ty : TypeId) (x y : Operand) (ho : o.op = .store ty x y)
    (g : Nat) (p : Nat × Int) (hx : a.eval x = .pointer (some ⟨g, 0, none⟩)) (hy : a.eval y = .agg (spotC p).toArray) {T : TypeId} {q : Nat × Int} (hg : w.heap[g]? = some (.cells (spotC q).toArray T (0, 0))) (hi : (P.info? ty).map (·.size) = some 2)
    (h : ∀ w1, w1.heap[g]? = some (.cells (spotC p).toArray T (0, 0)) → w.grownBy w1 (some g) → K (a.put o.dst undef) w1) : if Region.wanted o (yielded ops a.tmps) = true then Oper.wp P o a w K Q else E := by
  rw [if_pos hgd]
  refine wp_store_row ty x y ho g (spotC p).toArray hx hy T _ hg hi rfl ?_ (h _ (setRow_heap w g _ _ T _ hg) ⟨rfl, rfl, rfl, by simp [World.setRow], fun k _ hk => setRow_other w g k _ (fun e => hk (by rw [e]))⟩)
  simp only [spotC, List.all_toArray, List.all_cons, List.all_nil, Bool.and_true, Bool.and_eq_true]
  exact ⟨rfl, rfl⟩
theorem read_any (ad : Option Addr) (n c : Nat) (l : List UInt8) (big : Bool) (w : World) (hs : Bs w ad n c l) (hsz : n ≤ 1000000000) :
    Calls Try.prog 60 #[.slice ad n c, .bool big] w fun e w' => ∃ ad' n' c' os, e = .returned (.tuple #[.slice ad' n' c', .agg (spotC (readO big l).2).toArray]) ∧ OwnOps 90 w.heap.size w' ad' n' c' os ∧ vals os = (readO big l).1 ∧ Below w.heap.size w w' := by
  have hn := hs.len
  obtain ⟨Y, hY⟩ : ∃ Y, Y = readO big l := ⟨_, rfl⟩
  obtain ⟨X, hX⟩ : ∃ X, X = rowsB big l := ⟨_, rfl⟩
  have hY2 : Y = readR n X := by rw [hY, hX, hn]; rfl
  rw [← hY]
  obtain ⟨xl, xn, xe, xs⟩ := X
  have HX := Hd hX.symm
  have HS := Hd hs
  have HN := Hd hn
  have HI : Hid ((Try.prog.info? 49).map (·.size) = some 2) := Hd (by kernel_rfl)
  have HY : Hid (Y = if xs = (0, 0) then (if xn < n then ([], (xn, 3)) else (xl, (0, 0))) else ([], xs)) := Hd hY2
  clear hs hn hX hY hY2
  by_cases hz : xs = (0, 0)
  · by_cases hlt : xn < n
    · have HE := Hd ((HY.out.trans (if_pos hz)).trans (if_pos hlt))
      subst hz
      clear HY
      go_enter Try.func60, Try.ntmps60
      go_wp2_with (first
 | (go_at_call 84; (refine (rows_any ad n c l big _ (HS.out.below bup) hsz).mono ?_); intro e w5 hr5; rw [HX.out] at hr5; obtain ⟨ad5, n5, c5, os, rfl, how, hvs, hb5⟩ := hr5; have HW := Hd (how.base (base' := w.heap.size + 1) (by simp)); have HV := Hd hvs; have HG := Hd ((hb5.block w.heap.size (by simp)).trans (heap_alloc_last w (.cells (spotC (0, 0)).toArray 49))); have HB := Hd (show Below w.heap.size w w5 from Below.trans bup (hb5.mono (by simp))); have HGF := Hd (lt_of_block HG.out); clear how hvs hb5)
 | ((with_reducible show wpList _ _ _ (⟨none, .store _ _ (.tmp 17), _, _, _, _⟩ :: _) _ _); (refine z10 (T := 49) (q := (0, 0)) rfl 49 (.tmp 9) (.tmp 17) rfl w5.heap.size (0, 0) rfl rfl (heap_alloc_last w5 _) HI.out ?_); intro w6 hg6 hgr6; have hb6 : Below w5.heap.size w5 w6 := ((Below.refl w5.heap.size w5).alloc (Nat.le_refl _) _).grown hgr6 (by simp) (fun k e => by cases e; exact Nat.le_refl _); have HF := Hd hg6; replace HW := ckk HW bup hb6; replace HG := ckk HG bup hb6; replace HB := ckk HB bup hb6; clear hg6 hgr6 hb6; simp only [PT])
 | ((with_reducible refine sl 18 ?_); (refine z05 rfl 49 (.tmp 9) rfl w5.heap.size 0 rfl (spotC (0, 0)) _ (z00 HF.out) Try.underlying49 rfl HI.out ?_); simp only [PT])
 | ((with_reducible refine sl 20 ?_); (refine z3f (0, 0) (0, 0) true (by rfl) rfl (.tmp 18) (.tmp 19) rfl rfl rfl ?_); simp only [PT])
 | ((with_reducible show wpList _ _ _ (⟨none, .store _ _ (.tmp 28), _, _, _, _⟩ :: _) _ _); (refine z10 (T := 49) (q := (0, 0)) rfl 49 (.tmp 9) (.tmp 28) rfl w5.heap.size (xn, 3) rfl rfl HF.out HI.out ?_); intro w7 hg7 hgr7; have HG7 := Hd ((hgr7.block w.heap.size (lt_of_block HG.out) (by have := HGF.out; intro e; injection e with e; omega)).trans HG.out); have HB7 := Hd (HB.out.grown hgr7 HB.out.size (fun k e => by have := HGF.out; cases e; omega)); clear HF HG HB HW; have HF := Hd hg7; have HG := HG7; have HB := HB7; clear HG7 HB7 hg7 hgr7; simp only [PT])
 | ((with_reducible refine sl 29 ?_); (refine z05 rfl 49 (.tmp 9) rfl w5.heap.size 0 rfl (spotC (xn, 3)) _ (z00 HF.out) Try.underlying49 rfl HI.out ?_); simp only [PT])
 | ((with_reducible refine sl 31 ?_); (refine z3e (xn, 3) (0, 0) true (by simp) rfl (.tmp 29) (.tmp 30) rfl rfl rfl ?_); simp only [PT]))
      refine wp_region_held_drew (S := fun v => v.rangeAt w5.heap.size 0 (spotC (xn, 3))) (by kernel_rfl) ?_ (fun hHeld => ?_); (focus (first | exact z00 HF8.out | exact z00 HF.out)); refine' tk 0 (oi := ⟨some 32, _, _, _, _, _⟩) (v := _) rfl (by kernel_rfl) (yieldsIf_load_mid (by rfl) _ _ rfl _ _ rfl (spotC (xn, 3)) _ (fun v hv => hv) (Try.underlying49) rfl (HI.out)) hHeld ?_; simp only [PT]; (refine tk 1 (oi := ⟨some 4, _, _, _, _, _⟩) (v := ?_) rfl (by kernel_rfl) (.inl ⟨by rfl, ?_⟩) hHeld ?_; rotate_left; focus (intro w hSw; (try dsimp only at hSw); go_simp; try with_reducible rfl)); simp only [PT]; refine wpAnyH_ready (rs := [2]) (by kernel_rfl) (by simp) ?_; refine (AllReadyH.cons (o := ⟨none, _, _, _, _, _⟩) rfl (fun K hK => ?_) AllReadyH.nil); ((refine z2b (T := 49) (q := (0, 0)) rfl 49 (.tmp 5) (.tmp 32) rfl w.heap.size (xn, 3) rfl rfl HG.out HI.out ?_); intro w8 hg8 hgr8; have HG8 := Hd hg8; have HF8 := Hd ((hgr8.block w5.heap.size (lt_of_block HF.out) (by have := HGF.out; intro e; injection e with e; omega)).trans HF.out); have HB8 := Hd ((show Below w.heap.size w _ from Below.trans HB.out (Below.drew (Below.refl _ _))).grown hgr8 HB.out.size (fun k e => by cases e; exact Nat.le_refl _)); clear hg8 hgr8); refine hK.out _ _ ?_ (fun hHeld => ?_); (focus (first | exact z00 HF8.out | exact z00 HF.out)); clear hK K; (try simp only [PT]); refine wpAnyH_done (by kernel_rfl) ?_ _
      all_goals
        go_wp2_with fail
        (try simp only [Exit.inBlock, Exit.then, Exit.noGoto_ret])
        refine z25 (cs := spotC (xn, 3)) rfl rfl (z00 HG8.out) Try.underlying49 rfl HI.out rfl ?_
        exact ⟨none, 0, 0, [], by rw [HE.out]; rfl, OwnOps.nil _ _ _, by rw [HE.out]; rfl, HB8.out⟩
    · have HE := Hd ((HY.out.trans (if_pos hz)).trans (if_neg hlt))
      subst hz
      clear HY
      go_enter Try.func60, Try.ntmps60
      go_wp2_with (first
 | (go_at_call 84; (refine (rows_any ad n c l big _ (HS.out.below bup) hsz).mono ?_); intro e w5 hr5; rw [HX.out] at hr5; obtain ⟨ad5, n5, c5, os, rfl, how, hvs, hb5⟩ := hr5; have HW := Hd (how.base (base' := w.heap.size + 1) (by simp)); have HV := Hd hvs; have HG := Hd ((hb5.block w.heap.size (by simp)).trans (heap_alloc_last w (.cells (spotC (0, 0)).toArray 49))); have HB := Hd (show Below w.heap.size w w5 from Below.trans bup (hb5.mono (by simp))); have HGF := Hd (lt_of_block HG.out); clear how hvs hb5)
 | ((with_reducible show wpList _ _ _ (⟨none, .store _ _ (.tmp 17), _, _, _, _⟩ :: _) _ _); (refine z10 (T := 49) (q := (0, 0)) rfl 49 (.tmp 9) (.tmp 17) rfl w5.heap.size (0, 0) rfl rfl (heap_alloc_last w5 _) HI.out ?_); intro w6 hg6 hgr6; have hb6 : Below w5.heap.size w5 w6 := ((Below.refl w5.heap.size w5).alloc (Nat.le_refl _) _).grown hgr6 (by simp) (fun k e => by cases e; exact Nat.le_refl _); have HF := Hd hg6; replace HW := ckk HW bup hb6; replace HG := ckk HG bup hb6; replace HB := ckk HB bup hb6; clear hg6 hgr6 hb6; simp only [PT])
 | ((with_reducible refine sl 18 ?_); (refine z05 rfl 49 (.tmp 9) rfl w5.heap.size 0 rfl (spotC (0, 0)) _ (z00 HF.out) Try.underlying49 rfl HI.out ?_); simp only [PT])
 | ((with_reducible refine sl 20 ?_); (refine z3f (0, 0) (0, 0) true (by rfl) rfl (.tmp 18) (.tmp 19) rfl rfl rfl ?_); simp only [PT])
 | ((with_reducible refine sl 29 ?_); (refine z05 rfl 49 (.tmp 9) rfl w5.heap.size 0 rfl (spotC (0, 0)) _ (z00 HF.out) Try.underlying49 rfl HI.out ?_); simp only [PT])
 | ((with_reducible refine sl 31 ?_); (refine z3e (0, 0) (0, 0) false (by rfl) rfl (.tmp 29) (.tmp 30) rfl rfl rfl ?_); simp only [PT]))
      refine wp_region_held_drew (S := fun v => v.rangeAt w5.heap.size 0 (spotC (0, 0))) (by kernel_rfl) ?_ (fun hHeld => ?_); (focus (first | exact z00 HF8.out | exact z00 HF.out)); (refine tk 0 (oi := ⟨some 33, _, _, _, _, _⟩) (v := ?_) rfl (by kernel_rfl) (.inl ⟨by rfl, ?_⟩) hHeld ?_; rotate_left; focus (intro w hSw; (try dsimp only at hSw); go_simp; try with_reducible rfl)); simp only [PT]; refine' tk 1 (oi := ⟨some 34, _, _, _, _, _⟩) (v := _) rfl (by kernel_rfl) (yieldsIf_load_mid (by rfl) _ _ rfl _ _ rfl (spotC (0, 0)) _ (fun v hv => hv) (Try.underlying49) rfl (HI.out)) hHeld ?_; simp only [PT]; (refine tk 2 (oi := ⟨some 4, _, _, _, _, _⟩) (v := ?_) rfl (by kernel_rfl) (.inl ⟨by rfl, ?_⟩) hHeld ?_; rotate_left; focus (intro w hSw; (try dsimp only at hSw); go_simp; try with_reducible rfl)); simp only [PT]; refine wpAnyH_ready (rs := [3]) (by kernel_rfl) (by simp) ?_; refine (AllReadyH.cons (o := ⟨none, _, _, _, _, _⟩) rfl (fun K hK => ?_) AllReadyH.nil); ((refine z2b (T := 49) (q := (0, 0)) rfl 49 (.tmp 5) (.tmp 34) rfl w.heap.size (0, 0) rfl rfl HG.out HI.out ?_); intro w8 hg8 hgr8; have HG8 := Hd hg8; have HF8 := Hd ((hgr8.block w5.heap.size (lt_of_block HF.out) (by have := HGF.out; intro e; injection e with e; omega)).trans HF.out); have HB8 := Hd ((show Below w.heap.size w _ from Below.trans HB.out (Below.drew (Below.refl _ _))).grown hgr8 HB.out.size (fun k e => by cases e; exact Nat.le_refl _)); have HW8 := Hd ((show OwnOps _ _ _ _ _ _ _ from HW.out.keep (Below.drew (Below.refl _ _))).other hgr8 (by omega)); clear hg8 hgr8); refine hK.out _ _ ?_ (fun hHeld => ?_); (focus (first | exact z00 HF8.out | exact z00 HF.out)); clear hK K; (try simp only [PT]); refine wpAnyH_done (by kernel_rfl) ?_ _
      all_goals
        go_wp2_with fail
        (try simp only [Exit.inBlock, Exit.then, Exit.noGoto_ret])
        refine z25 (cs := spotC (0, 0)) rfl rfl (z00 HG8.out) Try.underlying49 rfl HI.out rfl ?_
        exact ⟨ad5, n5, c5, os, by rw [HE.out]; rfl, HW8.out.base (by omega), by rw [HE.out]; exact HV.out, HB8.out⟩
  · have HE := Hd (HY.out.trans (if_neg hz))
    have HZ1 := Hd (show false = decide (xs = (0, 0)) by simp [hz])
    have HZ2 := Hd (show true = !decide (xs = (0, 0)) by simp [hz])
    clear HY hz
    go_enter Try.func60, Try.ntmps60
    go_wp2_with (first
 | (go_at_call 84; (refine (rows_any ad n c l big _ (HS.out.below bup) hsz).mono ?_); intro e w5 hr5; rw [HX.out] at hr5; obtain ⟨ad5, n5, c5, os, rfl, how, hvs, hb5⟩ := hr5; have HW := Hd (how.base (base' := w.heap.size + 1) (by simp)); have HV := Hd hvs; have HG := Hd ((hb5.block w.heap.size (by simp)).trans (heap_alloc_last w (.cells (spotC (0, 0)).toArray 49))); have HB := Hd (show Below w.heap.size w w5 from Below.trans bup (hb5.mono (by simp))); have HGF := Hd (lt_of_block HG.out); clear how hvs hb5)
 | ((with_reducible show wpList _ _ _ (⟨none, .store _ _ (.tmp 17), _, _, _, _⟩ :: _) _ _); (refine z10 (T := 49) (q := (0, 0)) rfl 49 (.tmp 9) (.tmp 17) rfl w5.heap.size xs rfl rfl (heap_alloc_last w5 _) HI.out ?_); intro w6 hg6 hgr6; have hb6 : Below w5.heap.size w5 w6 := ((Below.refl w5.heap.size w5).alloc (Nat.le_refl _) _).grown hgr6 (by simp) (fun k e => by cases e; exact Nat.le_refl _); have HF := Hd hg6; replace HW := ckk HW bup hb6; replace HG := ckk HG bup hb6; replace HB := ckk HB bup hb6; clear hg6 hgr6 hb6; simp only [PT])
 | ((with_reducible refine sl 18 ?_); (refine z05 rfl 49 (.tmp 9) rfl w5.heap.size 0 rfl (spotC xs) _ (z00 HF.out) Try.underlying49 rfl HI.out ?_); simp only [PT])
 | ((with_reducible refine sl 20 ?_); (refine z3f xs (0, 0) false (HZ1.out) rfl (.tmp 18) (.tmp 19) rfl rfl rfl ?_); simp only [PT])
 | ((with_reducible refine sl 29 ?_); (refine z05 rfl 49 (.tmp 9) rfl w5.heap.size 0 rfl (spotC xs) _ (z00 HF.out) Try.underlying49 rfl HI.out ?_); simp only [PT])
 | ((with_reducible refine sl 31 ?_); (refine z3e xs (0, 0) true (HZ2.out) rfl (.tmp 29) (.tmp 30) rfl rfl rfl ?_); simp only [PT]))
    refine wp_region_held_drew (S := fun v => v.rangeAt w5.heap.size 0 (spotC xs)) (by kernel_rfl) ?_ (fun hHeld => ?_); (focus (first | exact z00 HF8.out | exact z00 HF.out)); refine' tk 0 (oi := ⟨some 32, _, _, _, _, _⟩) (v := _) rfl (by kernel_rfl) (yieldsIf_load_mid (by rfl) _ _ rfl _ _ rfl (spotC xs) _ (fun v hv => hv) (Try.underlying49) rfl (HI.out)) hHeld ?_; simp only [PT]; (refine tk 1 (oi := ⟨some 4, _, _, _, _, _⟩) (v := ?_) rfl (by kernel_rfl) (.inl ⟨by rfl, ?_⟩) hHeld ?_; rotate_left; focus (intro w hSw; (try dsimp only at hSw); go_simp; try with_reducible rfl)); simp only [PT]; refine wpAnyH_ready (rs := [2]) (by kernel_rfl) (by simp) ?_; refine (AllReadyH.cons (o := ⟨none, _, _, _, _, _⟩) rfl (fun K hK => ?_) AllReadyH.nil); ((refine z2b (T := 49) (q := (0, 0)) rfl 49 (.tmp 5) (.tmp 32) rfl w.heap.size xs rfl rfl HG.out HI.out ?_); intro w8 hg8 hgr8; have HG8 := Hd hg8; have HF8 := Hd ((hgr8.block w5.heap.size (lt_of_block HF.out) (by have := HGF.out; intro e; injection e with e; omega)).trans HF.out); have HB8 := Hd ((show Below w.heap.size w _ from Below.trans HB.out (Below.drew (Below.refl _ _))).grown hgr8 HB.out.size (fun k e => by cases e; exact Nat.le_refl _)); clear hg8 hgr8); refine hK.out _ _ ?_ (fun hHeld => ?_); (focus (first | exact z00 HF8.out | exact z00 HF.out)); clear hK K; (try simp only [PT]); refine wpAnyH_done (by kernel_rfl) ?_ _
    all_goals
      go_wp2_with fail
      (try simp only [Exit.inBlock, Exit.then, Exit.noGoto_ret])
      refine z25 (cs := spotC xs) rfl rfl (z00 HG8.out) Try.underlying49 rfl HI.out rfl ?_
      exact ⟨none, 0, 0, [], by rw [HE.out]; rfl, OwnOps.nil _ _ _, by rw [HE.out]; rfl, HB8.out⟩
end Go.Proofs.Ytmfplinbbcoahaa
