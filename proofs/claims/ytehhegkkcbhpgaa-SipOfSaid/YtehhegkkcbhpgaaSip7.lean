/-
  Tuples: their bytes.
-/
import Derived.Test.YtehhegkkcbhpgaaSip6
import Derived.Test.YtehhegkkcbhpgaaStep
import Derived.Laws.Rows
namespace Go.Proofs.Ytehhegkkcbhpgaa
open Go.RowKit Go.Sort
set_option linter.unusedVariables false

/-- a tuple -/
structure Tup where
  s6 : Bool
  sb : List UInt8
  d6 : Bool
  db : List UInt8
  proto : Int
  sport : Int
  dport : Int
def Tup.ok (t : Tup) : Prop := t.sb.length = 16 ∧ t.db.length = 16
/-- its cells -/
def Tup.cells (t : Tup) : List Value := .bool t.s6 :: (BV t.sb ++ .bool t.d6 :: (BV t.db ++ [.int .i64 t.proto, .int .i64 t.sport, .int .i64 t.dport]))
/-- its bytes -/
def be16 (n : Int) : List UInt8 := putL (IntKind.u64.wrap n).toNat 2 true
def fam (b : Bool) : UInt8 := if b then 6 else 4
def byteOf (n : Int) : UInt8 := UInt8.ofNat (n % 256).toNat
def Tup.bytes (t : Tup) : List UInt8 := [fam t.s6] ++ t.sb ++ t.db ++ [byteOf t.proto] ++ (be16 t.sport ++ be16 t.dport)
theorem byteOf_wrap (n : Int) : IntKind.u8.wrap n = ((byteOf n).toNat : Int) := by
  unfold byteOf
  rw [IntKind.wrap_u8, UInt8.toNat_ofNat_of_lt' (by show (n % 256).toNat < 256; omega)]
  omega
theorem Tup.length {t : Tup} (h : t.ok) : t.cells.length = 37 := by
  obtain ⟨h1, h2⟩ := h
  simp [Tup.cells, BV_length, h1, h2]

theorem cells_get {w : World} {g : Nat} {cs : List Value} {ty : TypeId} {fz : Nat × Nat} (h : w.heap[g]? = some (.cells cs.toArray ty fz)) (j : Nat) : w.cell? ⟨g, j, none⟩ = cs[j]? := by
  simp [World.cell?, h]
theorem Tup.get {t : Tup} (h : t.ok) : t.cells[0]? = some (.bool t.s6) ∧ t.cells[17]? = some (.bool t.d6) ∧ t.cells[34]? = some (.int .i64 t.proto) ∧ t.cells[35]? = some (.int .i64 t.sport) ∧ t.cells[36]? = some (.int .i64 t.dport) ∧
    (∀ i, i < 16 → t.cells[1 + i]? = some (.int .u8 ((at8 t.sb i).toNat : Int))) ∧ ∀ i, i < 16 → t.cells[18 + i]? = some (.int .u8 ((at8 t.db i).toNat : Int)) := by
  obtain ⟨h1, h2⟩ := h
  have e1 : (BV t.sb).length = 16 := by rw [BV_length, h1]
  have e2 : (BV t.db).length = 16 := by rw [BV_length, h2]
  unfold Tup.cells
  refine ⟨rfl, ?_, ?_, ?_, ?_, fun i hi => ?_, fun i hi => ?_⟩
  · simp [List.getElem?_append, e1]
  · simp [List.getElem?_cons, List.getElem?_append, e1, e2]
  · simp [List.getElem?_cons, List.getElem?_append, e1, e2]
  · simp [List.getElem?_cons, List.getElem?_append, e1, e2]
  · rw [Nat.add_comm, List.getElem?_cons_succ, List.getElem?_append_left (by omega), List.getElem?_eq_getElem (by omega), BV_get, at8_get _ _ (by omega)]
  · rw [show 18 + i = (17 + i) + 1 by omega, List.getElem?_cons_succ, List.getElem?_append_right (by omega), e1, show 17 + i - 16 = i + 1 by omega, List.getElem?_cons_succ, List.getElem?_append_left (by omega), List.getElem?_eq_getElem (by omega), BV_get, at8_get _ _ (by omega)]

/-- a tuple lies in block g -/
def TupAt (w : World) (g : Nat) (t : Tup) : Prop := ∃ ty fz, w.heap[g]? = some (.cells t.cells.toArray ty fz)
theorem TupAt.below {w w' : World} {g : Nat} {t : Tup} {B : Nat} (h : TupAt w g t) (hg : g < B) (hb : Below B w w') : TupAt w' g t :=
  let ⟨ty, fz, h⟩ := h; ⟨ty, fz, (hb.block g hg).trans h⟩
theorem TupAt.lt {w : World} {g : Nat} {t : Tup} (h : TupAt w g t) : g < w.heap.size := let ⟨_, _, h⟩ := h; lt_of_block h
theorem TupAt.cell {w : World} {g : Nat} {t : Tup} (h : TupAt w g t) (j : Nat) : w.cell? ⟨g, j, none⟩ = t.cells[j]? := let ⟨_, _, h⟩ := h; cells_get h j
theorem TupAt.sb {w : World} {g : Nat} {t : Tup} (h : TupAt w g t) (ho : t.ok) : Bs w (some ⟨g, 1, none⟩) 16 16 t.sb :=
  ⟨by rw [BV_length, ho.1], Nat.le_refl _, by simp [maxLen], by simp, fun j u hj => ⟨_, rfl, by
    have hl : j < 16 := by have := (List.getElem?_eq_some_iff.1 hj).1; rw [BV_length, ho.1] at this; exact this
    rw [addr_add, h.cell, (Tup.get ho).2.2.2.2.2.1 j hl, ← hj, List.getElem?_eq_getElem (by rw [BV_length, ho.1]; exact hl), BV_get, at8_get _ _ (by rw [ho.1]; exact hl)]⟩⟩
theorem TupAt.db {w : World} {g : Nat} {t : Tup} (h : TupAt w g t) (ho : t.ok) : Bs w (some ⟨g, 18, none⟩) 16 16 t.db :=
  ⟨by rw [BV_length, ho.2], Nat.le_refl _, by simp [maxLen], by simp, fun j u hj => ⟨_, rfl, by
    have hl : j < 16 := by have := (List.getElem?_eq_some_iff.1 hj).1; rw [BV_length, ho.2] at this; exact this
    rw [addr_add, h.cell, (Tup.get ho).2.2.2.2.2.2 j hl, ← hj, List.getElem?_eq_getElem (by rw [BV_length, ho.2]; exact hl), BV_get, at8_get _ _ (by rw [ho.2]; exact hl)]⟩⟩

theorem one_at {v W : World} {b : Nat} {e : TypeId} (hb : b = v.heap.size) (x : UInt8) (hW : Below (v.alloc (.cells #[.int .u8 (x.toNat : Int)] e)).heap.size (v.alloc (.cells #[.int .u8 (x.toNat : Int)] e)) W) : Bs W (some ⟨b, 0, none⟩) 1 1 [x] := by
  subst hb
  exact (Bs.one v e x).below hW
theorem pts_at {v W : World} {b m : Nat} {e : TypeId} (cs : Array Value) (ps : List (Option Addr × Nat × Nat × List UInt8)) (hb : b = v.heap.size) (hcs : cs.toList = ps.map fun p => Value.slice p.1 p.2.1 p.2.2.1) (hm : ps.length = m) (hle : m ≤ maxLen)
    (hp : ∀ p ∈ ps, Bs v p.1 p.2.1 p.2.2.1 p.2.2.2) (hW : Below (v.alloc (.cells cs e)).heap.size (v.alloc (.cells cs e)) W) : Pts W (some ⟨b, 0, none⟩) m m ps := by
  subst hb
  refine Pts.below ⟨?_, fun p hq => (hp p hq).below ((Below.refl _ _).alloc (Nat.le_refl _) _)⟩ hW
  rw [← hcs]
  exact Sl.lit v cs e m 1 (by rw [← Array.length_toList, hcs, List.length_map, hm]; omega) hle

set_option maxHeartbeats 1000000 in
theorem bytes_any (t : Tup) (ho : t.ok) (w : World) :
    Calls Try.prog 12 #[.agg t.cells.toArray] w (RetB 5 t.bytes w) := by
  have h0 : TupAt (w.alloc (.cells t.cells.toArray 34)) w.heap.size t := ⟨_, _, heap_alloc_new _ _⟩
  have b0 := (Below.refl w.heap.size w).alloc (Nat.le_refl _) (.cells t.cells.toArray 34)
  obtain ⟨c0, c17, c34, c35, c36, _, _⟩ := Tup.get ho
  have HO := Lib.hid ho
  have H0 := Lib.hid h0
  have HB := Lib.hid b0
  obtain ⟨l1, hl1⟩ : ∃ l, l = putL (IntKind.u64.wrap t.sport).toNat 2 true := ⟨_, rfl⟩
  obtain ⟨l2, hl2⟩ : ∃ l, l = putL (IntKind.u64.wrap t.dport).toNat 2 true := ⟨_, rfl⟩
  have n1 : l1.length = 2 := by rw [hl1, putL_length]; rfl
  have n2 : l2.length = 2 := by rw [hl2, putL_length]; rfl
  have HL1 := Lib.hid hl1
  have HL2 := Lib.hid hl2
  have N1 := Lib.hid n1
  have N2 := Lib.hid n2
  clear hl1 hl2 n1 n2
  obtain ⟨fb, hfb⟩ : ∃ fb, fb = fam t.s6 := ⟨_, rfl⟩
  obtain ⟨pb, hpb⟩ : ∃ pb, pb = byteOf t.proto := ⟨_, rfl⟩
  have bw := byteOf_wrap t.proto
  rw [← hpb] at bw
  have HFF : Hid ([fb] ++ (t.sb ++ (t.db ++ ([pb] ++ ((l1 ++ l2) ++ [])))) = t.bytes) := Lib.hid (by rw [HL1.out, HL2.out, hfb, hpb]; simp [Tup.bytes, be16])
  have HSZ : Hid (t.bytes.length ≤ 140737488351232) := Lib.hid (by have := ho.1; have := ho.2; have := N1.out; have := N2.out; rw [← HFF.out]; simp; omega)
  have HPB := Lib.hid hpb
  have r1 : (0 : Int) ≤ IntKind.u64.wrap t.sport ∧ IntKind.u64.wrap t.sport ≤ 18446744073709551615 := by rw [IntKind.wrap_u64]; omega
  have r2 : (0 : Int) ≤ IntKind.u64.wrap t.dport ∧ IntKind.u64.wrap t.dport ≤ 18446744073709551615 := by rw [IntKind.wrap_u64]; omega
  have R1 := Lib.hid r1
  have R2 := Lib.hid r2
  clear h0 b0 hpb r1 r2
  have hff : (t.s6 = false ∧ fb = 4) ∨ (t.s6 = true ∧ fb = 6) := by rw [hfb]; cases t.s6 <;> simp [fam]
  clear hfb
  go_enter Try.func12, Try.ntmps12
  rcases hff with ⟨h6, rfl⟩ | ⟨h6, rfl⟩
  · rw [h6] at c0
    go_wp2_with fail
    generalize w.alloc (.cells t.cells.toArray 34) = w1 at *
    clear c0 c17
    have HB1 := Lib.hid ((Below.refl w1.heap.size w1).drew)
    go_region_held3 (fun v => v.cell? ⟨w.heap.size, 35, none⟩ = some (.int .i64 t.sport) ∧ v.cell? ⟨w.heap.size, 36, none⟩ = some (.int .i64 t.dport))
      ((have k := TupAt.below H0.out (TupAt.lt H0.out) HB1.out; exact ⟨(k.cell 35).trans c35, (k.cell 36).trans c36⟩))
      (first
      | (go_at_call 23; (with_reducible show Calls _ _ #[.int .u64 (IntKind.u64.wrap t.sport), _, _] _ _); refine (put_int _ 2 true _ R1.out.1 R1.out.2).mono ?_; intro e w2 hr2; unfold RetB at hr2; rw [← HL1.out] at hr2; obtain ⟨ad2, c2, rfl, ho2, hb2⟩ := hr2; rw [N1.out] at ho2 ⊢; have HB2 := Lib.hid (HB1.out.trans (hb2.mono HB1.out.size)); have H2 := Lib.hid ho2; clear ho2 hb2 HB1; have HB1 := HB2; clear HB2)
      | (go_at_call 23; (with_reducible show Calls _ _ #[.int .u64 (IntKind.u64.wrap t.dport), _, _] _ _); refine (put_int _ 2 true _ R2.out.1 R2.out.2).mono ?_; intro e w3 hr3; unfold RetB at hr3; rw [← HL2.out] at hr3; obtain ⟨ad3, c3, rfl, ho3, hb3⟩ := hr3; rw [N2.out] at ho3 ⊢; have HB2 := Lib.hid (HB1.out.trans (hb3.mono HB1.out.size)); have t2 := H2; (first | (have H2' := cB H2 (by repeat (first | exact Below.refl _ _ | refine Below.drew ?_ | refine Below.alloc ?_ (by first | exact Nat.le_refl _ | (simp; done) | (simp; omega)) _)) hb3; clear H2; have H2 := H2'; clear H2') | (have H2' := cO H2 (by repeat (first | exact Below.refl _ _ | refine Below.drew ?_ | refine Below.alloc ?_ (by first | exact Nat.le_refl _ | (simp; done) | (simp; omega)) _)) hb3; clear H2; have H2 := H2'; clear H2') | (have H2' := cK H2 (by repeat (first | exact Below.refl _ _ | refine Below.drew ?_ | refine Below.alloc ?_ (by first | exact Nat.le_refl _ | (simp; done) | (simp; omega)) _)) hb3; clear H2; have H2 := H2'; clear H2')); have H3 := Lib.hid ho3; clear ho3 hb3 HB1 t2; have HB1 := HB2; clear HB2)
      | (have t3 := H3; go_must (refine step_append elB rfl (.tmp 11) (.tmp 15) rfl w1.heap.size rfl (own_base H2.out (by simp)) rfl (Bs.of_own t3.out) (BV_one _) (by simp [maxLen]) (by omega) HB1.out.size ?_); intro ad4 c4 w4 ho4 hg4 _ _; have HB2 := Lib.hid (HB1.out.grown hg4 HB1.out.size (ownBlock_ge (own_base H2.out (by simp)))); have H4 : Hid (w4.ownsRow w1.heap.size 5 1 (.slice ad4 4 c4) 4 (BV (l1 ++ l2))) := Lib.hid (by rw [BV_append]; exact ho4); clear ho4 hg4 HB1 H2 H3 t3; have HB1 := HB2; clear HB2))
    go_wp2_with fail
    have HZ4 := Lib.hid HB1.out.size
    go_region_held3 (fun v => v.cell? ⟨w.heap.size, 34, none⟩ = some (.int .i64 t.proto))
      (exact ((TupAt.below H0.out (TupAt.lt H0.out) (HB1.out.trans (Below.mono (by repeat (first | exact Below.refl _ _ | refine Below.drew ?_ | refine Below.alloc ?_ (by first | exact Nat.le_refl _ | (simp; done) | (simp; omega)) _)) HB1.out.size))).cell 34).trans c34)
      (first
      | (go_at_call 17; go_must (refine (concat_any _ 5 5 [(some ⟨_, 0, none⟩, 1, 1, [4]), (some ⟨w.heap.size, 1, none⟩, 16, 16, t.sb), (some ⟨w.heap.size, 18, none⟩, 16, 16, t.db), (some ⟨_, 0, none⟩, 1, 1, [pb]), (ad4, 4, c4, l1 ++ l2)] _ (pts_at _ _ (by simp) (by rfl) rfl (by simp [maxLen]) (by intro p hp; simp only [List.mem_cons, List.not_mem_nil, or_false] at hp; rcases hp with rfl | rfl | rfl | rfl | rfl; (first | exact one_at rfl 4 ((Below.refl _ _).alloc (Nat.le_refl _) _) | exact one_at (v := w4.alloc _) (by simp) 4 (Below.refl _ _)); exact TupAt.sb (TupAt.below H0.out (TupAt.lt H0.out) (HB1.out.trans (Below.mono (by repeat (first | exact Below.refl _ _ | refine Below.drew ?_ | refine Below.alloc ?_ (by first | exact Nat.le_refl _ | (simp; done) | (simp; omega)) _)) HB1.out.size))) HO.out; exact TupAt.db (TupAt.below H0.out (TupAt.lt H0.out) (HB1.out.trans (Below.mono (by repeat (first | exact Below.refl _ _ | refine Below.drew ?_ | refine Below.alloc ?_ (by first | exact Nat.le_refl _ | (simp; done) | (simp; omega)) _)) HB1.out.size))) HO.out; (first | exact one_at rfl pb ((Below.refl _ _).alloc (Nat.le_refl _) _) | exact one_at (v := w4.alloc _) (by simp) pb (Below.refl _ _)); exact (Bs.of_own H4.out).below (by repeat (first | exact Below.refl _ _ | refine Below.drew ?_ | refine Below.alloc ?_ (by first | exact Nat.le_refl _ | (simp; done) | (simp; omega)) _))) ((Below.refl _ _).drew)) (by show ([4] ++ (t.sb ++ (t.db ++ ([pb] ++ ((l1 ++ l2) ++ []))))).length ≤ _; rw [HFF.out]; exact HSZ.out)).mono ?_); intro e w6 hr; change RetB _ ([4] ++ (t.sb ++ (t.db ++ ([pb] ++ ((l1 ++ l2) ++ []))))) _ e w6 at hr; rw [HFF.out] at hr; obtain ⟨ad6, c6, rfl, ho6, hb6⟩ := hr; have H6 := Lib.hid ho6; have HB6 := Lib.hid (HB1.out.trans ((Below.mono (by repeat (first | exact Below.refl _ _ | refine Below.drew ?_ | refine Below.alloc ?_ (by first | exact Nat.le_refl _ | (simp; done) | (simp; omega)) _)) HB1.out.size).trans (hb6.mono (by have := HB1.out.size; simp; omega)))); clear ho6 hb6 HB1 H4; have HB1 := HB6; clear HB6))
    all_goals
      go_wp2_with fail
      go_ret
      exact ⟨ad6, c6, rfl, own_base H6.out (by have := HB.out.size; have := HZ4.out; simp; omega), HB.out.trans (HB1.out.mono HB.out.size)⟩
  · rw [h6] at c0
    go_wp2_with fail
    generalize w.alloc (.cells t.cells.toArray 34) = w1 at *
    clear c0 c17
    have HB1 := Lib.hid ((Below.refl w1.heap.size w1).drew)
    go_region_held3 (fun v => v.cell? ⟨w.heap.size, 35, none⟩ = some (.int .i64 t.sport) ∧ v.cell? ⟨w.heap.size, 36, none⟩ = some (.int .i64 t.dport))
      ((have k := TupAt.below H0.out (TupAt.lt H0.out) HB1.out; exact ⟨(k.cell 35).trans c35, (k.cell 36).trans c36⟩))
      (first
      | (go_at_call 23; (with_reducible show Calls _ _ #[.int .u64 (IntKind.u64.wrap t.sport), _, _] _ _); refine (put_int _ 2 true _ R1.out.1 R1.out.2).mono ?_; intro e w2 hr2; unfold RetB at hr2; rw [← HL1.out] at hr2; obtain ⟨ad2, c2, rfl, ho2, hb2⟩ := hr2; rw [N1.out] at ho2 ⊢; have HB2 := Lib.hid (HB1.out.trans (hb2.mono HB1.out.size)); have H2 := Lib.hid ho2; clear ho2 hb2 HB1; have HB1 := HB2; clear HB2)
      | (go_at_call 23; (with_reducible show Calls _ _ #[.int .u64 (IntKind.u64.wrap t.dport), _, _] _ _); refine (put_int _ 2 true _ R2.out.1 R2.out.2).mono ?_; intro e w3 hr3; unfold RetB at hr3; rw [← HL2.out] at hr3; obtain ⟨ad3, c3, rfl, ho3, hb3⟩ := hr3; rw [N2.out] at ho3 ⊢; have HB2 := Lib.hid (HB1.out.trans (hb3.mono HB1.out.size)); have t2 := H2; (first | (have H2' := cB H2 (by repeat (first | exact Below.refl _ _ | refine Below.drew ?_ | refine Below.alloc ?_ (by first | exact Nat.le_refl _ | (simp; done) | (simp; omega)) _)) hb3; clear H2; have H2 := H2'; clear H2') | (have H2' := cO H2 (by repeat (first | exact Below.refl _ _ | refine Below.drew ?_ | refine Below.alloc ?_ (by first | exact Nat.le_refl _ | (simp; done) | (simp; omega)) _)) hb3; clear H2; have H2 := H2'; clear H2') | (have H2' := cK H2 (by repeat (first | exact Below.refl _ _ | refine Below.drew ?_ | refine Below.alloc ?_ (by first | exact Nat.le_refl _ | (simp; done) | (simp; omega)) _)) hb3; clear H2; have H2 := H2'; clear H2')); have H3 := Lib.hid ho3; clear ho3 hb3 HB1 t2; have HB1 := HB2; clear HB2)
      | (have t3 := H3; go_must (refine step_append elB rfl (.tmp 11) (.tmp 15) rfl w1.heap.size rfl (own_base H2.out (by simp)) rfl (Bs.of_own t3.out) (BV_one _) (by simp [maxLen]) (by omega) HB1.out.size ?_); intro ad4 c4 w4 ho4 hg4 _ _; have HB2 := Lib.hid (HB1.out.grown hg4 HB1.out.size (ownBlock_ge (own_base H2.out (by simp)))); have H4 : Hid (w4.ownsRow w1.heap.size 5 1 (.slice ad4 4 c4) 4 (BV (l1 ++ l2))) := Lib.hid (by rw [BV_append]; exact ho4); clear ho4 hg4 HB1 H2 H3 t3; have HB1 := HB2; clear HB2))
    go_wp2_with fail
    have HZ4 := Lib.hid HB1.out.size
    go_region_held3 (fun v => v.cell? ⟨w.heap.size, 34, none⟩ = some (.int .i64 t.proto))
      (exact ((TupAt.below H0.out (TupAt.lt H0.out) (HB1.out.trans (Below.mono (by repeat (first | exact Below.refl _ _ | refine Below.drew ?_ | refine Below.alloc ?_ (by first | exact Nat.le_refl _ | (simp; done) | (simp; omega)) _)) HB1.out.size))).cell 34).trans c34)
      (first
      | (go_at_call 17; go_must (refine (concat_any _ 5 5 [(some ⟨_, 0, none⟩, 1, 1, [6]), (some ⟨w.heap.size, 1, none⟩, 16, 16, t.sb), (some ⟨w.heap.size, 18, none⟩, 16, 16, t.db), (some ⟨_, 0, none⟩, 1, 1, [pb]), (ad4, 4, c4, l1 ++ l2)] _ (pts_at _ _ (by simp) (by rfl) rfl (by simp [maxLen]) (by intro p hp; simp only [List.mem_cons, List.not_mem_nil, or_false] at hp; rcases hp with rfl | rfl | rfl | rfl | rfl; (first | exact one_at rfl 6 ((Below.refl _ _).alloc (Nat.le_refl _) _) | exact one_at (v := w4.alloc _) (by simp) 6 (Below.refl _ _)); exact TupAt.sb (TupAt.below H0.out (TupAt.lt H0.out) (HB1.out.trans (Below.mono (by repeat (first | exact Below.refl _ _ | refine Below.drew ?_ | refine Below.alloc ?_ (by first | exact Nat.le_refl _ | (simp; done) | (simp; omega)) _)) HB1.out.size))) HO.out; exact TupAt.db (TupAt.below H0.out (TupAt.lt H0.out) (HB1.out.trans (Below.mono (by repeat (first | exact Below.refl _ _ | refine Below.drew ?_ | refine Below.alloc ?_ (by first | exact Nat.le_refl _ | (simp; done) | (simp; omega)) _)) HB1.out.size))) HO.out; (first | exact one_at rfl pb ((Below.refl _ _).alloc (Nat.le_refl _) _) | exact one_at (v := w4.alloc _) (by simp) pb (Below.refl _ _)); exact (Bs.of_own H4.out).below (by repeat (first | exact Below.refl _ _ | refine Below.drew ?_ | refine Below.alloc ?_ (by first | exact Nat.le_refl _ | (simp; done) | (simp; omega)) _))) ((Below.refl _ _).drew)) (by show ([6] ++ (t.sb ++ (t.db ++ ([pb] ++ ((l1 ++ l2) ++ []))))).length ≤ _; rw [HFF.out]; exact HSZ.out)).mono ?_); intro e w6 hr; change RetB _ ([6] ++ (t.sb ++ (t.db ++ ([pb] ++ ((l1 ++ l2) ++ []))))) _ e w6 at hr; rw [HFF.out] at hr; obtain ⟨ad6, c6, rfl, ho6, hb6⟩ := hr; have H6 := Lib.hid ho6; have HB6 := Lib.hid (HB1.out.trans ((Below.mono (by repeat (first | exact Below.refl _ _ | refine Below.drew ?_ | refine Below.alloc ?_ (by first | exact Nat.le_refl _ | (simp; done) | (simp; omega)) _)) HB1.out.size).trans (hb6.mono (by have := HB1.out.size; simp; omega)))); clear ho6 hb6 HB1 H4; have HB1 := HB6; clear HB6))
    all_goals
      go_wp2_with fail
      go_ret
      exact ⟨ad6, c6, rfl, own_base H6.out (by have := HB.out.size; have := HZ4.out; simp; omega), HB.out.trans (HB1.out.mono HB.out.size)⟩
end Go.Proofs.Ytehhegkkcbhpgaa
