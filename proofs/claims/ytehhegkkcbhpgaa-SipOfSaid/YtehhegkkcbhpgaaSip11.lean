/-
  When two tuples are alike.
-/
import Derived.Test.YtehhegkkcbhpgaaSip10
import Derived.DeepKeys
namespace Go.Proofs.Ytehhegkkcbhpgaa
open Go.RowKit Go.Sort
set_option linter.unusedVariables false

theorem mapM_some' {α β : Type} (f : α → Option β) (g : α → β) : ∀ l : List α, (∀ x ∈ l, f x = some (g x)) → l.mapM f = some (l.map g)
  | [], _ => rfl
  | x :: l, h => by
    rw [List.mapM_cons, h x (by simp), mapM_some' f g l (fun y hy => h y (by simp [hy]))]
    rfl

theorem flat_single {α β : Type} (g : α → β) : ∀ l : List α, (l.map fun x => [g x]).flatten = l.map g
  | [] => rfl
  | x :: l => by simp [flat_single g l]
/-- in range -/
def Tup.wf (t : Tup) : Prop := (Lit.int .i64 t.proto).wf = true ∧ (Lit.int .i64 t.sport).wf = true ∧ (Lit.int .i64 t.dport).wf = true
def LB (l : List UInt8) : List Lit := l.map fun b => Lit.int .u8 (b.toNat : Int)
def Tup.lits (t : Tup) : List Lit := .bool t.s6 :: (LB t.sb ++ (.bool t.d6 :: (LB t.db ++ [.int .i64 t.proto, .int .i64 t.sport, .int .i64 t.dport])))
theorem LB_length (l : List UInt8) : (LB l).length = l.length := by simp [LB]
theorem LB_inj {l m : List UInt8} (h : LB l = LB m) : l = m := by
  unfold LB at h
  refine List.map_inj_right (fun a b hab => ?_) |>.1 h
  simp at hab
  exact UInt8.toNat_inj.1 (by omega)
theorem Tup.lits_inj {t u : Tup} (ht : t.ok) (hu : u.ok) (h : t.lits = u.lits) : t = u := by
  obtain ⟨s6, sb, d6, db, p, s, d⟩ := t
  obtain ⟨s6', sb', d6', db', p', s', d'⟩ := u
  obtain ⟨h1, h2⟩ := ht
  obtain ⟨h3, h4⟩ := hu
  have h1 : sb.length = 16 := h1
  have h2 : db.length = 16 := h2
  have h3 : sb'.length = 16 := h3
  have h4 : db'.length = 16 := h4
  simp only [Tup.lits, List.cons.injEq, Lit.bool.injEq] at h
  obtain ⟨e0, h⟩ := h
  obtain ⟨e1, h⟩ := List.append_inj h (by rw [LB_length, LB_length, h1, h3])
  simp only [List.cons.injEq, Lit.bool.injEq] at h
  obtain ⟨e2, h⟩ := h
  obtain ⟨e3, h⟩ := List.append_inj h (by rw [LB_length, LB_length, h2, h4])
  simp only [List.cons.injEq, Lit.int.injEq, true_and, and_true] at h
  obtain ⟨e4, e5, e6⟩ := h
  rw [e0, e2, e4, e5, e6, LB_inj e1, LB_inj e3]

theorem wf_byte (b : UInt8) : (Lit.int .u8 (b.toNat : Int)).wf = true := by
  have := b.toNat_lt
  simp [Lit.wf, IntKind.min, IntKind.max, IntKind.signed, IntKind.bits]
  omega
theorem lits_bytes (D : Nat) (l : List UInt8) (hl : l.length = 16) : Try.prog.keyLits (D + 2) 22 (BV l) = some (LB l) := by
  have hc : Try.prog.cellsOf 22 = 16 := by kernel_rfl
  have hc1 : Try.prog.cellsOf 5 = 1 := by kernel_rfl
  have hu : Try.prog.underlying 5 = some (.int .u8) := Try.underlying5
  unfold Program.keyLits
  simp only [Try.underlying22, hc, hc1, BV_length, hl, if_true, Nat.mul_one]
  rw [mapM_some' _ (fun i => [Lit.int .u8 ((at8 l i).toNat : Int)]) _ (fun i hi => ?_)]
  · rw [Option.map_some, flat_single]
    congr 1
    unfold LB
    apply List.ext_getElem
    · simp [hl]
    · intro i h1 h2
      have hi : i < 16 := by simpa using h1
      simp [at8, List.getD, show i < l.length by omega]
  · have hi16 : i < 16 := by simpa using hi
    have e : ((BV l).drop i).take 1 = [.int .u8 ((at8 l i).toNat : Int)] := by
      rw [List.drop_eq_getElem_cons (by rw [BV_length, hl]; exact hi16), List.take_succ_cons, List.take_zero, BV_get, at8_get _ _ (by omega)]
    rw [e]
    unfold Program.keyLits
    simp only [hu, wf_byte, and_self, if_true]
theorem lits_addr (D : Nat) (b : Bool) (l : List UInt8) (hl : l.length = 16) : Try.prog.keyLits (D + 3) 32 (.bool b :: BV l) = some (.bool b :: LB l) := by
  have hc : Try.prog.cellsOf 32 = 17 := by kernel_rfl
  have hc1 : Try.prog.cellsOf 4 = 1 := by kernel_rfl
  have hc2 : Try.prog.cellsOf 22 = 16 := by kernel_rfl
  have e2 : (BV l).take 16 = BV l := List.take_of_length_le (by rw [BV_length, hl]; exact Nat.le_refl _)
  have e3 : Try.prog.keyLits (D + 2) 4 [.bool b] = some [.bool b] := by
    unfold Program.keyLits
    simp only [Try.underlying4]
  have e4 := lits_bytes D l hl
  unfold Program.keyLits
  simp only [Try.underlying32, hc, hc1, hc2, List.length_cons, BV_length, hl]
  simp [hc1, hc2, e2, e3, e4]
theorem take_one {cs : List Value} {k : Nat} {x : Value} (h : cs[k]? = some x) : (cs.drop k).take 1 = [x] := by
  obtain ⟨hk, hx⟩ := List.getElem?_eq_some_iff.1 h
  rw [List.drop_eq_getElem_cons hk, List.take_succ_cons, List.take_zero, hx]
theorem lits_tup (D : Nat) (t : Tup) (ht : t.ok) (hw : t.wf) : Try.prog.keyLits (D + 4) 34 t.cells = some t.lits := by
  have hc : Try.prog.cellsOf 34 = 37 := by kernel_rfl
  have hc1 : Try.prog.cellsOf 32 = 17 := by kernel_rfl
  have hc2 : Try.prog.cellsOf 3 = 1 := by kernel_rfl
  have hl := Tup.length ht
  have l1 : (BV t.sb).length = 16 := by rw [BV_length, ht.1]
  have l2 : (BV t.db).length = 16 := by rw [BV_length, ht.2]
  have d1 : (t.cells.drop 0).take 17 = .bool t.s6 :: BV t.sb := by
    simp [Tup.cells, List.take_append, l1]
  have d2 : (t.cells.drop 17).take 17 = .bool t.d6 :: BV t.db := by
    simp [Tup.cells, List.drop_append, List.take_append, l1, l2]
  have hg := Tup.get ht
  have d3 := take_one hg.2.2.1
  have d4 := take_one hg.2.2.2.1
  have d5 := take_one hg.2.2.2.2.1
  have e1 := lits_addr D t.s6 t.sb ht.1
  have e2 := lits_addr D t.d6 t.db ht.2
  have e3 : ∀ n : Int, (Lit.int .i64 n).wf = true → Try.prog.keyLits (D + 3) 3 [.int .i64 n] = some [.int .i64 n] := by
    intro n hn
    unfold Program.keyLits
    simp only [Try.underlying3, hn, and_self, if_true]
  unfold Program.keyLits
  simp only [Try.underlying34, hc, hc1, hc2, hl]
  rw [List.drop_zero] at d1
  simp [hc1, hc2, d1, d2, d3, d4, d5, e1, e2, e3 _ hw.1, e3 _ hw.2.1, e3 _ hw.2.2, Tup.lits]

def tupSame (t u : Tup) : Bool := sameB t.bytes u.bytes
theorem equal_tup (t u : Tup) (ht : t.ok) (hu : u.ok) (wt : t.wf) (wu : u.wf) (b : Bool) (hb : b = true ↔ t = u) (w : World) :
    (Go.Op.equalIn 10000 34 (.agg t.cells.toArray) (.agg u.cells.toArray)).run Try.prog w = .ok b w := by
  have hf : ∀ v : Tup, v.ok → (Value.agg v.cells.toArray).formed Try.prog 34 = true := by
    intro v hv
    have hc : Try.prog.cellsOf 34 = 37 := by kernel_rfl
    simp [Value.formed, Try.underlying34, hc, Tup.length hv]
  obtain ⟨r, hr, hiff⟩ := run_equalIn_deep (P := Try.prog) 9996 4 34 (by kernel_rfl) w 4 4 (.agg t.cells.toArray) (.agg u.cells.toArray) t.lits u.lits (hf t ht) (hf u hu) (lits_tup 0 t ht wt) (lits_tup 0 u hu wu)
  have e : r = b := by
    rw [Bool.eq_iff_iff, hiff, hb]
    exact ⟨fun h => Tup.lits_inj ht hu h, fun h => by rw [h]⟩
  rw [← e]
  exact hr
theorem yields_tup {ops : Array Oper} {o : Oper} {a : Act} {S : World → Prop} (t u : Tup) (ht : t.ok) (hu : u.ok) (wt : t.wf) (wu : u.wf) (b : Bool) (hb : b = true ↔ t = u)
    (hg : Region.wanted o (yielded ops a.tmps) = true) (x y : Operand) (hop : o.op = Op.binOp BinOp.eql 34 x y 34) (hx : a.eval x = .agg t.cells.toArray) (hy : a.eval y = .agg u.cells.toArray) :
    YieldsIf Try.prog ops S o (.bool b) a := by
  refine Or.inl ⟨hg, fun w _ => ?_⟩
  have hh := equal_tup t u ht hu wt wu b hb w
  have hgd := run_eqGuard_agg (P := Try.prog) w .eql 34 x y t.cells.toArray u.cells.toArray (by kernel_rfl)
  have hes := run_eql_struct (P := Try.prog) w 34 t.cells.toArray u.cells.toArray
  rw [hh] at hes
  simp only [execOp, hop, hx, hy, Sem.run_bind, hgd, hes, Result.andThen_ok, Sem.run_pure]

theorem byteOf_inj {a b : Int} (ha : 0 ≤ a) (ha' : a ≤ 255) (hb : 0 ≤ b) (hb' : b ≤ 255) (h : byteOf a = byteOf b) : a = b := by
  have h2 := congrArg UInt8.toNat h
  unfold byteOf at h2
  rw [UInt8.toNat_ofNat_of_lt' (by show (a % 256).toNat < 256; omega), UInt8.toNat_ofNat_of_lt' (by show (b % 256).toNat < 256; omega)] at h2
  omega
theorem fam_inj {a b : Bool} (h : fam a = fam b) : a = b := by
  cases a <;> cases b <;> first | rfl | (exact absurd h (by decide))
theorem bytes_inj {t u : Tup} (ht : t.ok) (hu : u.ok) (ft : t.fit = true) (fu : u.fit = true) (h : t.bytes = u.bytes) : t = u := by
  obtain ⟨k0, k1, k2, k3, k4, k5, k6⟩ := Tup.fit_ports ft
  obtain ⟨m0, m1, m2, m3, m4, m5, m6⟩ := Tup.fit_ports fu
  obtain ⟨s6, sb, d6, db, p, s, d⟩ := t
  obtain ⟨s6', sb', d6', db', p', s', d'⟩ := u
  have h1 : sb.length = 16 := ht.1
  have h2 : db.length = 16 := ht.2
  have h3 : sb'.length = 16 := hu.1
  have h4 : db'.length = 16 := hu.2
  simp only at k0 k1 k2 k3 k4 k5 k6 m0 m1 m2 m3 m4 m5 m6
  unfold Tup.bytes at h
  simp only at h
  rw [be16_two _ k3 k4, be16_two _ k5 k6, be16_two _ m3 m4, be16_two _ m5 m6] at h
  simp only [List.append_assoc, List.cons_append, List.nil_append, List.cons.injEq] at h
  obtain ⟨e0, h⟩ := h
  obtain ⟨e1, h⟩ := List.append_inj h (by rw [h1, h3])
  obtain ⟨e2, h⟩ := List.append_inj h (by rw [h2, h4])
  simp only [List.cons.injEq, and_true] at h
  obtain ⟨e3, e4, e5, e6, e7⟩ := h
  have f0 := fam_inj e0
  have f3 := byteOf_inj k1 k2 m1 m2 e3
  have f4 := byteOf_inj (by omega) (by omega) (by omega) (by omega) e4
  have f5 := byteOf_inj (by omega) (by omega) (by omega) (by omega) e5
  have f6 := byteOf_inj (by omega) (by omega) (by omega) (by omega) e6
  have f7 := byteOf_inj (by omega) (by omega) (by omega) (by omega) e7
  have g1 : s = s' := by omega
  have g2 : d = d' := by omega
  rw [f0, e1, e2, f3, g1, g2, ← k0, ← m0, f0]
theorem same_iff {t u : Tup} (ht : t.ok) (hu : u.ok) (ft : t.fit = true) (fu : u.fit = true) : sameB t.bytes u.bytes = true ↔ t = u := by
  unfold sameB
  rw [beq_iff_eq]
  exact ⟨fun h => bytes_inj ht hu ft fu h, fun h => by rw [h]⟩
end Go.Proofs.Ytehhegkkcbhpgaa
