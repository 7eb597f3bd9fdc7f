/-
  Joined by program (merge.py): Tup, Plain1, PlainSip, Tup2, Flo1, Kit2, Fk, Flo2, Flo3.
-/
import Derived.Laws.Rows
import Derived.DeepKeys
import Derived.WalkMore
import Derived.Deep.MidRow
import Derived.OrdersHeld
import Derived.RegionTactic
import Derived.BigRegion
import Derived.Test.YtgpdlhbndoeldaaC1
/-
  Tuples, for whatever seat: their bytes, the hash, the document's bytes, when two are alike, one that came in (written by program out of Sip7, Sip8, Sip11, OpenTup).
-/
namespace Go.Proofs.Ytgpdlhbndoeldaa
open Go.RowKit Go.Sort
set_option linter.unusedVariables false
set_option linter.unusedSimpArgs false

/-- a tuple -/
structure Tup where
  s6 : Bool
  sb : List UInt8
  d6 : Bool
  db : List UInt8
  proto : Int
  sport : Int
  dport : Int
def Tup.ok (t : Tup) : Prop := t.sb.length = 16 ∧ t.db.length = 16
/-- its cells -/
def Tup.cells (t : Tup) : List Value := .bool t.s6 :: (BV t.sb ++ .bool t.d6 :: (BV t.db ++ [.int .i64 t.proto, .int .i64 t.sport, .int .i64 t.dport]))
/-- its bytes -/
def be16 (n : Int) : List UInt8 := putL (IntKind.u64.wrap n).toNat 2 true
def fam (b : Bool) : UInt8 := if b then 6 else 4
def byteOf (n : Int) : UInt8 := UInt8.ofNat (n % 256).toNat
def Tup.bytes (t : Tup) : List UInt8 := [fam t.s6] ++ t.sb ++ t.db ++ [byteOf t.proto] ++ (be16 t.sport ++ be16 t.dport)
theorem byteOf_wrap (n : Int) : IntKind.u8.wrap n = ((byteOf n).toNat : Int) := by
  unfold byteOf
  rw [IntKind.wrap_u8, UInt8.toNat_ofNat_of_lt' (by show (n % 256).toNat < 256; omega)]
  omega
theorem Tup.length {t : Tup} (h : t.ok) : t.cells.length = 37 := by
  obtain ⟨h1, h2⟩ := h
  simp [Tup.cells, BV_length, h1, h2]

theorem Tup.get {t : Tup} (h : t.ok) : t.cells[0]? = some (.bool t.s6) ∧ t.cells[17]? = some (.bool t.d6) ∧ t.cells[34]? = some (.int .i64 t.proto) ∧ t.cells[35]? = some (.int .i64 t.sport) ∧ t.cells[36]? = some (.int .i64 t.dport) ∧
    (∀ i, i < 16 → t.cells[1 + i]? = some (.int .u8 ((at8 t.sb i).toNat : Int))) ∧ ∀ i, i < 16 → t.cells[18 + i]? = some (.int .u8 ((at8 t.db i).toNat : Int)) := by
  obtain ⟨h1, h2⟩ := h
  have e1 : (BV t.sb).length = 16 := by rw [BV_length, h1]
  have e2 : (BV t.db).length = 16 := by rw [BV_length, h2]
  unfold Tup.cells
  refine ⟨rfl, ?_, ?_, ?_, ?_, fun i hi => ?_, fun i hi => ?_⟩
  · simp [List.getElem?_append, e1]
  · simp [List.getElem?_cons, List.getElem?_append, e1, e2]
  · simp [List.getElem?_cons, List.getElem?_append, e1, e2]
  · simp [List.getElem?_cons, List.getElem?_append, e1, e2]
  · rw [Nat.add_comm, List.getElem?_cons_succ, List.getElem?_append_left (by omega), List.getElem?_eq_getElem (by omega), BV_get, at8_get _ _ (by omega)]
  · rw [show 18 + i = (17 + i) + 1 by omega, List.getElem?_cons_succ, List.getElem?_append_right (by omega), e1, show 17 + i - 16 = i + 1 by omega, List.getElem?_cons_succ, List.getElem?_append_left (by omega), List.getElem?_eq_getElem (by omega), BV_get, at8_get _ _ (by omega)]

/-- a tuple lies in block g -/
def TupAt (w : World) (g : Nat) (t : Tup) : Prop := ∃ ty fz, w.heap[g]? = some (.cells t.cells.toArray ty fz)
theorem TupAt.below {w w' : World} {g : Nat} {t : Tup} {B : Nat} (h : TupAt w g t) (hg : g < B) (hb : Below B w w') : TupAt w' g t :=
  let ⟨ty, fz, h⟩ := h; ⟨ty, fz, (hb.block g hg).trans h⟩
theorem TupAt.lt {w : World} {g : Nat} {t : Tup} (h : TupAt w g t) : g < w.heap.size := let ⟨_, _, h⟩ := h; lt_of_block h
theorem TupAt.cell {w : World} {g : Nat} {t : Tup} (h : TupAt w g t) (j : Nat) : w.cell? ⟨g, j, none⟩ = t.cells[j]? := let ⟨_, _, h⟩ := h; cells_get h j
theorem TupAt.sb {w : World} {g : Nat} {t : Tup} (h : TupAt w g t) (ho : t.ok) : Bs w (some ⟨g, 1, none⟩) 16 16 t.sb :=
  ⟨by rw [BV_length, ho.1], Nat.le_refl _, by simp [maxLen], by simp, fun j u hj => ⟨_, rfl, by
    have hl : j < 16 := by have := (List.getElem?_eq_some_iff.1 hj).1; rw [BV_length, ho.1] at this; exact this
    rw [addr_add, h.cell, (Tup.get ho).2.2.2.2.2.1 j hl, ← hj, List.getElem?_eq_getElem (by rw [BV_length, ho.1]; exact hl), BV_get, at8_get _ _ (by rw [ho.1]; exact hl)]⟩⟩
theorem TupAt.db {w : World} {g : Nat} {t : Tup} (h : TupAt w g t) (ho : t.ok) : Bs w (some ⟨g, 18, none⟩) 16 16 t.db :=
  ⟨by rw [BV_length, ho.2], Nat.le_refl _, by simp [maxLen], by simp, fun j u hj => ⟨_, rfl, by
    have hl : j < 16 := by have := (List.getElem?_eq_some_iff.1 hj).1; rw [BV_length, ho.2] at this; exact this
    rw [addr_add, h.cell, (Tup.get ho).2.2.2.2.2.2 j hl, ← hj, List.getElem?_eq_getElem (by rw [BV_length, ho.2]; exact hl), BV_get, at8_get _ _ (by rw [ho.2]; exact hl)]⟩⟩

theorem one_at {v W : World} {b : Nat} {e : TypeId} (hb : b = v.heap.size) (x : UInt8) (hW : Below (v.alloc (.cells #[.int .u8 (x.toNat : Int)] e)).heap.size (v.alloc (.cells #[.int .u8 (x.toNat : Int)] e)) W) : Bs W (some ⟨b, 0, none⟩) 1 1 [x] := by
  subst hb
  exact (Bs.one v e x).below hW
theorem pts_at {v W : World} {b m : Nat} {e : TypeId} (cs : Array Value) (ps : List (Option Addr × Nat × Nat × List UInt8)) (hb : b = v.heap.size) (hcs : cs.toList = ps.map fun p => Value.slice p.1 p.2.1 p.2.2.1) (hm : ps.length = m) (hle : m ≤ maxLen)
    (hp : ∀ p ∈ ps, Bs v p.1 p.2.1 p.2.2.1 p.2.2.2) (hW : Below (v.alloc (.cells cs e)).heap.size (v.alloc (.cells cs e)) W) : Pts W (some ⟨b, 0, none⟩) m m ps := by
  subst hb
  refine Pts.below ⟨?_, fun p hq => (hp p hq).below ((Below.refl _ _).alloc (Nat.le_refl _) _)⟩ hW
  rw [← hcs]
  exact Sl.lit v cs e m 1 (by rw [← Array.length_toList, hcs, List.length_map, hm]; omega) hle

set_option maxHeartbeats 1000000 in
set_option maxRecDepth 100000 in
theorem bytes_any (t : Tup) (ho : t.ok) (w : World) :
    Calls Try.prog 50 #[.agg t.cells.toArray] w (RetB 5 t.bytes w) := by
  have h0 : TupAt (w.alloc (.cells t.cells.toArray 26)) w.heap.size t := ⟨_, _, heap_alloc_new _ _⟩
  have b0 := (Below.refl w.heap.size w).alloc (Nat.le_refl _) (.cells t.cells.toArray 26)
  obtain ⟨c0, c17, c34, c35, c36, _, _⟩ := Tup.get ho
  have HO := Lib.hid ho
  have H0 := Lib.hid h0
  have HB := Lib.hid b0
  obtain ⟨l1, hl1⟩ : ∃ l, l = putL (IntKind.u64.wrap t.sport).toNat 2 true := ⟨_, rfl⟩
  obtain ⟨l2, hl2⟩ : ∃ l, l = putL (IntKind.u64.wrap t.dport).toNat 2 true := ⟨_, rfl⟩
  have n1 : l1.length = 2 := by rw [hl1, putL_length]; rfl
  have n2 : l2.length = 2 := by rw [hl2, putL_length]; rfl
  have HL1 := Lib.hid hl1
  have HL2 := Lib.hid hl2
  have N1 := Lib.hid n1
  have N2 := Lib.hid n2
  clear hl1 hl2 n1 n2
  obtain ⟨fb, hfb⟩ : ∃ fb, fb = fam t.s6 := ⟨_, rfl⟩
  obtain ⟨pb, hpb⟩ : ∃ pb, pb = byteOf t.proto := ⟨_, rfl⟩
  have bw := byteOf_wrap t.proto
  rw [← hpb] at bw
  have HFF : Hid ([fb] ++ (t.sb ++ (t.db ++ ([pb] ++ ((l1 ++ l2) ++ [])))) = t.bytes) := Lib.hid (by rw [HL1.out, HL2.out, hfb, hpb]; simp [Tup.bytes, be16])
  have HSZ : Hid (t.bytes.length ≤ 140737488351232) := Lib.hid (by have := ho.1; have := ho.2; have := N1.out; have := N2.out; rw [← HFF.out]; simp; omega)
  have HPB := Lib.hid hpb
  have r1 : (0 : Int) ≤ IntKind.u64.wrap t.sport ∧ IntKind.u64.wrap t.sport ≤ 18446744073709551615 := by rw [IntKind.wrap_u64]; omega
  have r2 : (0 : Int) ≤ IntKind.u64.wrap t.dport ∧ IntKind.u64.wrap t.dport ≤ 18446744073709551615 := by rw [IntKind.wrap_u64]; omega
  have R1 := Lib.hid r1
  have R2 := Lib.hid r2
  clear h0 b0 hpb r1 r2
  have hff : (t.s6 = false ∧ fb = 4) ∨ (t.s6 = true ∧ fb = 6) := by rw [hfb]; cases t.s6 <;> simp [fam]
  clear hfb
  go_enter Try.func50, Try.ntmps50
  rcases hff with ⟨h6, rfl⟩ | ⟨h6, rfl⟩
  · rw [h6] at c0
    go_wp2_with fail
    generalize w.alloc (.cells t.cells.toArray 26) = w1 at *
    clear c0 c17
    have HB1 := Lib.hid ((Below.refl w1.heap.size w1).drew)
    go_region_held3 (fun v => v.cell? ⟨w.heap.size, 35, none⟩ = some (.int .i64 t.sport) ∧ v.cell? ⟨w.heap.size, 36, none⟩ = some (.int .i64 t.dport))
      ((have k := TupAt.below H0.out (TupAt.lt H0.out) HB1.out; exact ⟨(k.cell 35).trans c35, (k.cell 36).trans c36⟩))
      (first
      | (go_at_call 61; (with_reducible show Calls _ _ #[.int .u64 (IntKind.u64.wrap t.sport), _, _] _ _); refine (put_int _ 2 true _ R1.out.1 R1.out.2).mono ?_; intro e w2 hr2; unfold RetB at hr2; rw [← HL1.out] at hr2; obtain ⟨ad2, c2, rfl, ho2, hb2⟩ := hr2; rw [N1.out] at ho2 ⊢; have HB2 := Lib.hid (HB1.out.trans (hb2.mono HB1.out.size)); have H2 := Lib.hid ho2; clear ho2 hb2 HB1; have HB1 := HB2; clear HB2)
      | (go_at_call 61; (with_reducible show Calls _ _ #[.int .u64 (IntKind.u64.wrap t.dport), _, _] _ _); refine (put_int _ 2 true _ R2.out.1 R2.out.2).mono ?_; intro e w3 hr3; unfold RetB at hr3; rw [← HL2.out] at hr3; obtain ⟨ad3, c3, rfl, ho3, hb3⟩ := hr3; rw [N2.out] at ho3 ⊢; have HB2 := Lib.hid (HB1.out.trans (hb3.mono HB1.out.size)); have t2 := H2; replace H2 := ckk H2 bup hb3; have H3 := Lib.hid ho3; clear ho3 hb3 HB1 t2; have HB1 := HB2; clear HB2)
      | (have t3 := H3; go_must (refine step_append elB rfl (.tmp 11) (.tmp 15) rfl w1.heap.size rfl (own_base H2.out (by simp)) rfl (Bs.of_own t3.out) (BV_one _) (by simp [maxLen]) (by omega) HB1.out.size ?_); intro ad4 c4 w4 ho4 hg4 _ _; have HB2 := Lib.hid (HB1.out.grown hg4 HB1.out.size (ownBlock_ge (own_base H2.out (by simp)))); have H4 : Hid (w4.ownsRow w1.heap.size 5 1 (.slice ad4 4 c4) 4 (BV (l1 ++ l2))) := Lib.hid (by rw [BV_append]; exact ho4); clear ho4 hg4 HB1 H2 H3 t3; have HB1 := HB2; clear HB2))
    go_wp2_with fail
    have HZ4 := Lib.hid HB1.out.size
    go_region_held3 (fun v => v.cell? ⟨w.heap.size, 34, none⟩ = some (.int .i64 t.proto))
      (exact ((TupAt.below H0.out (TupAt.lt H0.out) (HB1.out.trans (Below.mono bup HB1.out.size))).cell 34).trans c34)
      (first
      | (go_at_call 62; go_must (refine (concat_any _ 5 5 [(some ⟨_, 0, none⟩, 1, 1, [4]), (some ⟨w.heap.size, 1, none⟩, 16, 16, t.sb), (some ⟨w.heap.size, 18, none⟩, 16, 16, t.db), (some ⟨_, 0, none⟩, 1, 1, [pb]), (ad4, 4, c4, l1 ++ l2)] _ (pts_at _ _ (by simp) (by rfl) rfl (by simp [maxLen]) (by intro p hp; simp only [List.mem_cons, List.not_mem_nil, or_false] at hp; rcases hp with rfl | rfl | rfl | rfl | rfl; (first | exact one_at rfl 4 ((Below.refl _ _).alloc (Nat.le_refl _) _) | exact one_at (v := w4.alloc _) (by simp) 4 (Below.refl _ _)); exact TupAt.sb (TupAt.below H0.out (TupAt.lt H0.out) (HB1.out.trans (Below.mono bup HB1.out.size))) HO.out; exact TupAt.db (TupAt.below H0.out (TupAt.lt H0.out) (HB1.out.trans (Below.mono bup HB1.out.size))) HO.out; (first | exact one_at rfl pb ((Below.refl _ _).alloc (Nat.le_refl _) _) | exact one_at (v := w4.alloc _) (by simp) pb (Below.refl _ _)); exact (Bs.of_own H4.out).below bup) ((Below.refl _ _).drew)) (by show ([4] ++ (t.sb ++ (t.db ++ ([pb] ++ ((l1 ++ l2) ++ []))))).length ≤ _; rw [HFF.out]; exact HSZ.out)).mono ?_); intro e w6 hr; change RetB _ ([4] ++ (t.sb ++ (t.db ++ ([pb] ++ ((l1 ++ l2) ++ []))))) _ e w6 at hr; rw [HFF.out] at hr; obtain ⟨ad6, c6, rfl, ho6, hb6⟩ := hr; have H6 := Lib.hid ho6; have HB6 := Lib.hid (HB1.out.trans ((Below.mono bup HB1.out.size).trans (hb6.mono (by have := HB1.out.size; simp; omega)))); clear ho6 hb6 HB1 H4; have HB1 := HB6; clear HB6))
    all_goals
      go_wp2_with fail
      go_ret
      exact ⟨ad6, c6, rfl, own_base H6.out (by have := HB.out.size; have := HZ4.out; simp; omega), HB.out.trans (HB1.out.mono HB.out.size)⟩
  · rw [h6] at c0
    go_wp2_with fail
    generalize w.alloc (.cells t.cells.toArray 26) = w1 at *
    clear c0 c17
    have HB1 := Lib.hid ((Below.refl w1.heap.size w1).drew)
    go_region_held3 (fun v => v.cell? ⟨w.heap.size, 35, none⟩ = some (.int .i64 t.sport) ∧ v.cell? ⟨w.heap.size, 36, none⟩ = some (.int .i64 t.dport))
      ((have k := TupAt.below H0.out (TupAt.lt H0.out) HB1.out; exact ⟨(k.cell 35).trans c35, (k.cell 36).trans c36⟩))
      (first
      | (go_at_call 61; (with_reducible show Calls _ _ #[.int .u64 (IntKind.u64.wrap t.sport), _, _] _ _); refine (put_int _ 2 true _ R1.out.1 R1.out.2).mono ?_; intro e w2 hr2; unfold RetB at hr2; rw [← HL1.out] at hr2; obtain ⟨ad2, c2, rfl, ho2, hb2⟩ := hr2; rw [N1.out] at ho2 ⊢; have HB2 := Lib.hid (HB1.out.trans (hb2.mono HB1.out.size)); have H2 := Lib.hid ho2; clear ho2 hb2 HB1; have HB1 := HB2; clear HB2)
      | (go_at_call 61; (with_reducible show Calls _ _ #[.int .u64 (IntKind.u64.wrap t.dport), _, _] _ _); refine (put_int _ 2 true _ R2.out.1 R2.out.2).mono ?_; intro e w3 hr3; unfold RetB at hr3; rw [← HL2.out] at hr3; obtain ⟨ad3, c3, rfl, ho3, hb3⟩ := hr3; rw [N2.out] at ho3 ⊢; have HB2 := Lib.hid (HB1.out.trans (hb3.mono HB1.out.size)); have t2 := H2; replace H2 := ckk H2 bup hb3; have H3 := Lib.hid ho3; clear ho3 hb3 HB1 t2; have HB1 := HB2; clear HB2)
      | (have t3 := H3; go_must (refine step_append elB rfl (.tmp 11) (.tmp 15) rfl w1.heap.size rfl (own_base H2.out (by simp)) rfl (Bs.of_own t3.out) (BV_one _) (by simp [maxLen]) (by omega) HB1.out.size ?_); intro ad4 c4 w4 ho4 hg4 _ _; have HB2 := Lib.hid (HB1.out.grown hg4 HB1.out.size (ownBlock_ge (own_base H2.out (by simp)))); have H4 : Hid (w4.ownsRow w1.heap.size 5 1 (.slice ad4 4 c4) 4 (BV (l1 ++ l2))) := Lib.hid (by rw [BV_append]; exact ho4); clear ho4 hg4 HB1 H2 H3 t3; have HB1 := HB2; clear HB2))
    go_wp2_with fail
    have HZ4 := Lib.hid HB1.out.size
    go_region_held3 (fun v => v.cell? ⟨w.heap.size, 34, none⟩ = some (.int .i64 t.proto))
      (exact ((TupAt.below H0.out (TupAt.lt H0.out) (HB1.out.trans (Below.mono bup HB1.out.size))).cell 34).trans c34)
      (first
      | (go_at_call 62; go_must (refine (concat_any _ 5 5 [(some ⟨_, 0, none⟩, 1, 1, [6]), (some ⟨w.heap.size, 1, none⟩, 16, 16, t.sb), (some ⟨w.heap.size, 18, none⟩, 16, 16, t.db), (some ⟨_, 0, none⟩, 1, 1, [pb]), (ad4, 4, c4, l1 ++ l2)] _ (pts_at _ _ (by simp) (by rfl) rfl (by simp [maxLen]) (by intro p hp; simp only [List.mem_cons, List.not_mem_nil, or_false] at hp; rcases hp with rfl | rfl | rfl | rfl | rfl; (first | exact one_at rfl 6 ((Below.refl _ _).alloc (Nat.le_refl _) _) | exact one_at (v := w4.alloc _) (by simp) 6 (Below.refl _ _)); exact TupAt.sb (TupAt.below H0.out (TupAt.lt H0.out) (HB1.out.trans (Below.mono bup HB1.out.size))) HO.out; exact TupAt.db (TupAt.below H0.out (TupAt.lt H0.out) (HB1.out.trans (Below.mono bup HB1.out.size))) HO.out; (first | exact one_at rfl pb ((Below.refl _ _).alloc (Nat.le_refl _) _) | exact one_at (v := w4.alloc _) (by simp) pb (Below.refl _ _)); exact (Bs.of_own H4.out).below bup) ((Below.refl _ _).drew)) (by show ([6] ++ (t.sb ++ (t.db ++ ([pb] ++ ((l1 ++ l2) ++ []))))).length ≤ _; rw [HFF.out]; exact HSZ.out)).mono ?_); intro e w6 hr; change RetB _ ([6] ++ (t.sb ++ (t.db ++ ([pb] ++ ((l1 ++ l2) ++ []))))) _ e w6 at hr; rw [HFF.out] at hr; obtain ⟨ad6, c6, rfl, ho6, hb6⟩ := hr; have H6 := Lib.hid ho6; have HB6 := Lib.hid (HB1.out.trans ((Below.mono bup HB1.out.size).trans (hb6.mono (by have := HB1.out.size; simp; omega)))); clear ho6 hb6 HB1 H4; have HB1 := HB6; clear HB6))
    all_goals
      go_wp2_with fail
      go_ret
      exact ⟨ad6, c6, rfl, own_base H6.out (by have := HB.out.size; have := HZ4.out; simp; omega), HB.out.trans (HB1.out.mono HB.out.size)⟩

end Go.Proofs.Ytgpdlhbndoeldaa
/-
  Plain laws of numbers as bytes.
-/
namespace Go.Proofs.Ytgpdlhbndoeldaa
open Go.RowKit Go.Sort
set_option linter.unusedVariables false
set_option linter.unusedSimpArgs false

theorem numBE_from (a : Nat) (m : List UInt8) : m.foldl (fun n b => n * 256 + b.toNat) a = a * 256 ^ m.length + numBE m := by
  induction m generalizing a with
  | nil => simp [numBE]
  | cons b m ih =>
    have e : numBE (b :: m) = b.toNat * 256 ^ m.length + numBE m := by
      unfold numBE
      rw [List.foldl_cons, ih (0 * 256 + b.toNat)]
      simp [numBE]
    rw [List.foldl_cons, ih, e, List.length_cons, Nat.pow_succ, Nat.add_mul, Nat.mul_assoc, Nat.mul_comm 256, Nat.add_assoc]
theorem numBE_cons (b : UInt8) (m : List UInt8) : numBE (b :: m) = b.toNat * 256 ^ m.length + numBE m := by
  unfold numBE
  rw [List.foldl_cons, numBE_from]
  simp [numBE]
theorem numBE_append (l m : List UInt8) : numBE (l ++ m) = numBE l * 256 ^ m.length + numBE m := by
  unfold numBE
  rw [List.foldl_append, numBE_from]
  rfl
theorem pow256 (k : Nat) : 2 ^ (8 * k) = 256 ^ k := by rw [show (256 : Nat) = 2 ^ 8 from rfl, ← Nat.pow_mul]
theorem numBE_putLE (n k : Nat) : numBE (putLE n k).reverse = n % 256 ^ k := by
  induction k with
  | zero => simp [putLE, numBE, Nat.mod_one]
  | succ k ih =>
    rw [putLE_succ, List.reverse_append, List.reverse_cons, List.reverse_nil, List.nil_append, List.cons_append, List.nil_append, numBE_cons, ih, List.length_reverse, putLE_length, byteAt_toNat, pow256, Nat.mod_pow_succ, Nat.mul_comm]
    omega
theorem getN_putL (n : Nat) (size : Int) (big : Bool) : getN (putL n size big) big = n % 256 ^ sizeOf8 size := by
  have h8 : sizeOf8 size ≤ 8 := by unfold sizeOf8; omega
  unfold getN putL
  cases big
  · simp only [Bool.false_eq_true, if_false]
    rw [List.take_of_length_le (by rw [putLE_length]; exact h8), numBE_putLE]
  · simp only [if_true]
    rw [List.take_of_length_le (by rw [List.length_reverse, putLE_length]; exact h8), numBE_putLE]
theorem byteAt_first (n : Nat) (b : UInt8) : byteAt (n * 256 + b.toNat) 0 = b := by
  have := b.toNat_lt
  apply UInt8.toNat_inj.1
  rw [byteAt_toNat]
  simp
theorem byteAt_next (n i : Nat) (b : UInt8) : byteAt (n * 256 + b.toNat) (i + 1) = byteAt n i := by
  have := b.toNat_lt
  apply UInt8.toNat_inj.1
  rw [byteAt_toNat, byteAt_toNat, show 8 * (i + 1) = 8 + 8 * i by omega, Nat.pow_add, ← Nat.div_div_eq_div_mul]
  congr 2
  omega
theorem putLE_numBE (m : List UInt8) : putLE (numBE m.reverse) m.length = m := by
  induction m with
  | nil => rfl
  | cons b m ih =>
    rw [List.reverse_cons, numBE_snoc, List.length_cons]
    unfold putLE
    rw [List.range_succ_eq_map, List.map_cons, byteAt_first, List.map_map]
    congr 1
    refine Eq.trans ?_ ih
    unfold putLE
    refine List.map_congr_left fun i _ => ?_
    exact byteAt_next _ _ _
theorem putL_getN (l : List UInt8) (big : Bool) (h : l.length ≤ 8) : putL (getN l big) (l.length : Int) big = l := by
  have e : sizeOf8 (l.length : Int) = l.length := by unfold sizeOf8; omega
  unfold putL getN
  rw [e, List.take_of_length_le h]
  cases big
  · simp only [Bool.false_eq_true, if_false]
    exact putLE_numBE l
  · simp only [if_true]
    have := putLE_numBE l.reverse
    rw [List.reverse_reverse, List.length_reverse] at this
    rw [this, List.reverse_reverse]
theorem putL_turn (n : Nat) (size : Int) : putL n size true = (putL n size false).reverse := by unfold putL; simp
theorem getN_turn (l : List UInt8) (h : l.length ≤ 8) : getN l true = getN l.reverse false := by
  unfold getN
  rw [List.take_of_length_le h, List.take_of_length_le (by simpa using h)]
  simp
/-- two of four bytes are one of eight -/
theorem parts_big (a b : Nat) (ha : a < 4294967296) (hb : b < 4294967296) : getN (putL a 4 true ++ putL b 4 true) true = a * 4294967296 + b := by
  unfold getN
  simp only [if_true]
  have l4 : ∀ n, (putL n 4 true).length = 4 := fun n => putL_length n 4 true
  have v4 : ∀ n, n < 4294967296 → numBE (putL n 4 true) = n := fun n h => by
    unfold putL
    simp only [if_true]
    rw [numBE_putLE]
    exact Nat.mod_eq_of_lt h
  rw [List.take_of_length_le (by rw [List.length_append, l4, l4]; omega), numBE_append, l4, v4 a ha, v4 b hb]
theorem parts_small (a b : Nat) (ha : a < 4294967296) (hb : b < 4294967296) : getN (putL b 4 false ++ putL a 4 false) false = a * 4294967296 + b := by
  have e : ∀ n, (putL n 4 false) = (putL n 4 true).reverse := fun n => by rw [putL_turn, List.reverse_reverse]
  have l4 : ∀ n, (putL n 4 true).length = 4 := fun n => putL_length n 4 true
  rw [e, e, ← List.reverse_append, ← getN_turn _ (by rw [List.length_append, l4, l4]; omega), parts_big a b ha hb]
end Go.Proofs.Ytgpdlhbndoeldaa
/-
  Plain laws of SipHash's words: the words in a list are the words that are taken in.
-/
namespace Go.Proofs.Ytgpdlhbndoeldaa
open Go.RowKit Go.Sort
set_option linter.unusedVariables false
set_option linter.unusedSimpArgs false

/-- how many noughts -/
def pad7 (n : Nat) : Nat := (15 - n % 8) % 8
/-- the bytes with noughts and the last one -/
def allOf (l : List UInt8) : List UInt8 := l ++ List.replicate (pad7 l.length) 0 ++ [UInt8.ofNat (l.length % 256)]
theorem allOf_length (l : List UInt8) : (allOf l).length = 8 * (l.length / 8 + 1) := by
  simp [allOf, pad7]
  omega
def wordAt (l : List UInt8) (i : Nat) : Nat := getN ((allOf l).drop (8 * i)) false
def wordsOf (l : List UInt8) : List Nat := (List.range (l.length / 8 + 1)).map (wordAt l)
theorem wordAt_in (l : List UInt8) (i : Nat) (h : i < l.length / 8) : wordAt l i = getN (l.drop (8 * i)) false := by
  unfold wordAt getN allOf
  simp only [Bool.false_eq_true, if_false]
  congr 2
  rw [List.append_assoc, List.drop_append_of_le_length (by omega), List.take_append_of_le_length (by rw [List.length_drop]; omega)]
theorem wordAt_last (l : List UInt8) : wordAt l (l.length / 8) = sipLast l := by
  unfold wordAt sipLast getN allOf
  simp only [Bool.false_eq_true, if_false]
  obtain ⟨r, hr⟩ : ∃ r, r = l.drop (8 * (l.length / 8)) := ⟨_, rfl⟩
  have hrl : r.length = l.length % 8 := by rw [hr, List.length_drop]; omega
  rw [List.append_assoc, List.drop_append_of_le_length (by omega), ← hr, List.take_of_length_le (by simp [pad7]; omega), List.take_of_length_le (show r.length ≤ 8 by omega)]
  have hp : pad7 l.length = 7 - r.length := by unfold pad7; omega
  have hz : ∀ k, numBE (List.replicate k (0 : UInt8)) = 0 := by
    intro k
    induction k with
    | zero => rfl
    | succ k ih => rw [List.replicate_succ, numBE_cons, ih]; simp
  have hr7 := numBE_lt r.reverse
  rw [List.length_reverse] at hr7
  have hr8 : numBE r.reverse < 72057594037927936 := Nat.lt_of_lt_of_le hr7 (show 256 ^ r.length ≤ 256 ^ 7 from Nat.pow_le_pow_right (by omega) (by omega))
  rw [List.reverse_append, List.reverse_append, List.reverse_cons, List.reverse_nil, List.nil_append, List.reverse_replicate, List.append_assoc, numBE_append, numBE_append, hz, Nat.zero_mul, Nat.zero_add]
  have e1 : numBE [UInt8.ofNat (l.length % 256)] = l.length % 256 := by simp [numBE]
  rw [e1, List.length_append, List.length_replicate, List.length_reverse, hp, show 7 - r.length + r.length = 7 by omega]
  unfold orN
  have e2 : l.length * 72057594037927936 % 18446744073709551616 = l.length % 256 * 72057594037927936 := by omega
  rw [e2, Nat.mod_eq_of_lt (show l.length % 256 * 72057594037927936 < 18446744073709551616 by omega), Nat.mod_eq_of_lt (show numBE r.reverse < 18446744073709551616 by omega)]
  have := Nat.two_pow_add_eq_or_of_lt (i := 56) (b := numBE r.reverse) hr8 (l.length % 256)
  rw [Nat.mul_comm] at this
  exact this
/-- taken in one behind the other -/
def eatN (s : Nat × Nat × Nat × Nat) (ws : List Nat) : Nat × Nat × Nat × Nat := ws.foldl wordN s
theorem eat_some (kb l : List UInt8) (i : Nat) (h : i ≤ l.length / 8) : eatN (sip0 kb) ((List.range i).map (wordAt l)) = sipI kb l i := by
  induction i with
  | zero => rfl
  | succ i ih =>
    rw [List.range_succ, List.map_append, List.map_cons, List.map_nil]
    unfold eatN at *
    rw [List.foldl_append, ih (by omega), List.foldl_cons, List.foldl_nil, wordAt_in l i (by omega)]
    rfl
theorem eat_all (kb l : List UInt8) : sipEnd (eatN (sip0 kb) (wordsOf l)) = sipN kb l := by
  unfold wordsOf
  rw [List.range_succ, List.map_append, List.map_cons, List.map_nil]
  have := eat_some kb l (l.length / 8) (Nat.le_refl _)
  unfold eatN at *
  rw [List.foldl_append, this, List.foldl_cons, List.foldl_nil, wordAt_last]
  rfl
end Go.Proofs.Ytgpdlhbndoeldaa
/-
  Tuples: the hash, the document's bytes, when two are alike, one that came in.
-/
namespace Go.Proofs.Ytgpdlhbndoeldaa
open Go.RowKit Go.Sort
set_option linter.unusedVariables false
set_option linter.unusedSimpArgs false
set_option maxRecDepth 100000

set_option maxHeartbeats 1000000 in
set_option maxRecDepth 100000 in
theorem hash_any (kb : List UInt8) (hkb : kb.length = 16) (t : Tup) (ho : t.ok) (w : World) :
    Calls Try.prog 53 #[.agg (BV kb).toArray, .agg t.cells.toArray] w fun e w' => e = .returned (.int .u64 (sipN kb t.bytes)) ∧ Below w.heap.size w w' := by
  have u1 := Try.underlying22
  have i1 : (Try.prog.info? 22).map (·.size) = some (BV kb).length := by rw [BV_length, hkb]; kernel_rfl
  have i2 : (Try.prog.info? 26).map (·.size) = some t.cells.length := by rw [Tup.length ho]; kernel_rfl
  obtain ⟨w1, hw1⟩ : ∃ w1, w1 = (w.alloc (.cells (BV kb).toArray 22)).alloc (.cells t.cells.toArray 26) := ⟨_, rfl⟩
  have hB : Below w.heap.size w w1 := by rw [hw1]; exact bup
  have hs1 : w1.heap.size = w.heap.size + 1 + 1 := by rw [hw1]; simp
  have hr1 : w1.rangeAt w.heap.size 0 (BV kb) := range_block (ty := 22) (fz := (0, 0)) (by rw [hw1]; exact heap_alloc2_old _ _ _)
  have hr2 : w1.rangeAt (w.heap.size + 1) 0 t.cells := range_block (ty := 26) (fz := (0, 0)) (by rw [hw1]; exact heap_alloc2_new _ _ _)
  have HB := Lib.hid hB
  have HR1 := Lib.hid hr1
  have HR2 := Lib.hid hr2
  have HS1 := Lib.hid hs1
  have HI1 := Lib.hid i1
  have HI2 := Lib.hid i2
  have HSZ : Hid (t.bytes.length = 38) := Lib.hid (by have := ho.1; have := ho.2; simp [Tup.bytes, be16, putL_length, sizeOf8]; omega)
  have HW1 := Lib.hid hw1
  clear hB hr1 hr2 hs1 i1 i2 hw1
  go_enter Try.func53, Try.ntmps53
  go_wp2_with fail
  rw [← HW1.out]
  have HB1 := Lib.hid ((Below.refl w1.heap.size w1).drew)
  have i1 := HI1.out
  refine wp_region_held_drew (S := fun v => v.rangeAt w.heap.size 0 (BV kb) ∧ v.rangeAt (w.heap.size + 1) 0 t.cells) (by kernel_rfl) ?_ (fun hHeld => ?_)
  focus (have hz := HS1.out; exact ⟨range_below HR1.out (by omega) (HB1.out.trans (Below.mono bup HB1.out.size)), range_below HR2.out (by omega) (HB1.out.trans (Below.mono bup HB1.out.size))⟩)
  refine' tk 0 (oi := ⟨some 5, _, _, _, _, _⟩) (v := _) rfl (by kernel_rfl) (yieldsIf_load_mid (by rfl) _ _ rfl _ _ rfl (BV kb) _ (fun v hv => hv.1) (Try.underlying22) rfl (HI1.out)) hHeld ?_
  simp only [PT]
  refine' tk 1 (oi := ⟨some 6, _, _, _, _, _⟩) (v := _) rfl (by kernel_rfl) (yieldsIf_load_mid (by rfl) _ _ rfl _ _ rfl (t.cells) _ (fun v hv => hv.2) (Try.underlying26) rfl (HI2.out)) hHeld ?_
  simp only [PT]
  refine wpAnyH_ready (rs := [2]) (by kernel_rfl) (by simp) ?_
  refine (AllReadyH.cons (o := ⟨some 7, _, _, _, _, _⟩) rfl (fun K hK => ?_) AllReadyH.nil)
  focus (go_simp; go_must (refine (bytes_any t ho _).mono ?_); intro e w2 hr2; unfold RetB at hr2; obtain ⟨ad2, c2, rfl, ho2, hb2⟩ := hr2; have hE__ := cU HB1 bup hb2; replace HB1 := ck HB1 hE__; clear hE__; have H2 := Lib.hid ho2; clear hb2 ho2; go_wp2_with fail)
  refine hK.out _ _ ?_ (fun hHeld => ?_)
  focus (have hz := HS1.out; exact ⟨range_below HR1.out (by omega) (HB1.out.trans (Below.mono bup HB1.out.size)), range_below HR2.out (by omega) (HB1.out.trans (Below.mono bup HB1.out.size))⟩)
  clear hK K
  try simp only [PT]
  refine wpAnyH_ready (rs := [3]) (by kernel_rfl) (by simp) ?_
  refine (AllReadyH.cons (o := ⟨some 8, _, _, _, _, _⟩) rfl (fun K hK => ?_) AllReadyH.nil)
  (go_simp)
  refine hK.out _ _ ?_ (fun hHeld => ?_)
  focus (have hz := HS1.out; exact ⟨range_below HR1.out (by omega) (HB1.out.trans (Below.mono bup HB1.out.size)), range_below HR2.out (by omega) (HB1.out.trans (Below.mono bup HB1.out.size))⟩)
  clear hK K
  try simp only [PT]
  refine wpAnyH_ready (rs := [4]) (by kernel_rfl) (by simp) ?_
  refine (AllReadyH.cons (o := ⟨some 9, _, _, _, _, _⟩) rfl (fun K hK => ?_) AllReadyH.nil)
  focus (go_simp; go_must (refine (of_any kb hkb _ 1 1 [(ad2, t.bytes.length, c2, t.bytes)] _ (pts_at _ _ rfl (by rfl) rfl (by simp [maxLen]) (by intro p hp; simp only [List.mem_cons, List.not_mem_nil, or_false] at hp; subst hp; exact Bs.of_own H2.out) (Below.refl _ _)) (by have := HSZ.out; simp [flat]; omega)).mono ?_); rintro e w3 ⟨rfl, hb3⟩; have hE__ := cU HB1 bup hb3; replace HB1 := ck HB1 hE__; clear hE__; clear hb3 H2; go_wp2_with fail)
  refine hK.out _ _ ?_ (fun hHeld => ?_)
  focus (have hz := HS1.out; exact ⟨range_below HR1.out (by omega) (HB1.out.trans (Below.mono bup HB1.out.size)), range_below HR2.out (by omega) (HB1.out.trans (Below.mono bup HB1.out.size))⟩)
  clear hK K
  try simp only [PT]
  refine tk 5 (oi := ⟨some 4, _, _, _, _, _⟩) (v := ?_) rfl (by kernel_rfl) (.inl ⟨by rfl, ?_⟩) hHeld ?_; rotate_left; focus (intro w hSw; (try dsimp only at hSw); go_simp; try with_reducible rfl)
  simp only [PT]
  refine wpAnyH_done (by kernel_rfl) ?_ _
  go_wp2_with fail
  go_ret
  exact ⟨by simp [flat], HB.out.trans (HB1.out.mono HB.out.size)⟩

/-- may a tuple be? -/
def Tup.fit (t : Tup) : Bool := (t.s6 == t.d6) && decide (0 ≤ t.proto) && decide (t.proto ≤ 255) && decide (0 ≤ t.sport) && decide (t.sport ≤ 65535) && decide (0 ≤ t.dport) && decide (t.dport ≤ 65535)
theorem Tup.fit_ports {t : Tup} (h : t.fit = true) : t.s6 = t.d6 ∧ 0 ≤ t.proto ∧ t.proto ≤ 255 ∧ 0 ≤ t.sport ∧ t.sport ≤ 65535 ∧ 0 ≤ t.dport ∧ t.dport ≤ 65535 := by
  simp [Tup.fit, and_assoc] at h
  exact h
theorem be16_two (n : Int) (h0 : 0 ≤ n) (h1 : n ≤ 65535) : be16 n = [byteOf (n / 256), byteOf (n % 256)] := by
  have e : (IntKind.u64.wrap n).toNat = n.toNat := by rw [IntKind.wrap_u64]; omega
  unfold be16 putL
  rw [e]
  have e2 : sizeOf8 2 = 2 := by rfl
  rw [e2]
  have e3 : putLE n.toNat 2 = [byteAt n.toNat 0, byteAt n.toNat 1] := by rfl
  rw [if_pos rfl, e3]
  have b0 : byteAt n.toNat 0 = byteOf (n % 256) := by
    apply UInt8.toNat_inj.1
    rw [byteAt_toNat]
    unfold byteOf
    rw [UInt8.toNat_ofNat_of_lt' (by show (n % 256 % 256).toNat < 256; omega)]
    simp
    omega
  have b1 : byteAt n.toNat 1 = byteOf (n / 256) := by
    apply UInt8.toNat_inj.1
    rw [byteAt_toNat]
    unfold byteOf
    rw [UInt8.toNat_ofNat_of_lt' (by show (n / 256 % 256).toNat < 256; omega)]
    simp
    omega
  rw [b0, b1]
  rfl

set_option maxRecDepth 100000 in
set_option maxHeartbeats 1000000 in
theorem refBytes_any (t : Tup) (ho : t.ok) (hf : t.fit = true) (w : World) :
    Calls Try.prog 37 #[.agg t.cells.toArray] w (RetB 5 t.bytes w) := by
  obtain ⟨_, hp0, hp1, hs0, hs1, hd0, hd1⟩ := Tup.fit_ports hf
  have h0 : TupAt (w.alloc (.cells t.cells.toArray 26)) w.heap.size t := ⟨_, _, heap_alloc_new _ _⟩
  have HB := Lib.hid ((Below.refl w.heap.size w).alloc (Nat.le_refl _) (.cells t.cells.toArray 26))
  have HG := Lib.hid (Tup.get ho)
  have HO := Lib.hid ho
  have H0 := Lib.hid h0
  obtain ⟨fb, hfb⟩ : ∃ fb, fb = fam t.s6 := ⟨_, rfl⟩
  have hff : (t.s6 = false ∧ fb = 4) ∨ (t.s6 = true ∧ fb = 6) := by rw [hfb]; cases t.s6 <;> simp [fam]
  have HFB := Lib.hid hfb
  have c0 := HG.out.1
  clear h0 hfb
  go_enter Try.func37, Try.ntmps37
  rcases hff with ⟨h6, rfl⟩ | ⟨h6, rfl⟩
  · rw [h6] at c0
    go_wp2_with fail
    have HZ : Hid ((w.alloc (.cells t.cells.toArray 26)).heap.size = w.heap.size + 1) := Lib.hid (by simp)
    generalize w.alloc (.cells t.cells.toArray 26) = w1 at *
    clear c0
    go_loopw [3, 4] (fun v i wr => ∃ (j : Nat) (ad' : Option Addr) (c' : Nat), j ≤ 16 ∧ i = .int .i64 j ∧ v = .slice ad' (1 + j) c' ∧ wr.ownsRow w1.heap.size 5 1 (.slice ad' (1 + j) c') (1 + j) (BV ([4] ++ t.sb.take j)) ∧ Below w1.heap.size w1 wr) (fun v _ _ => 1 + 16 - lenV v)
    case atStart => exact ⟨0, _, _, Nat.zero_le _, rfl, rfl, own_lit #[.int .u8 4] 1 1 HZ.out.symm (Nat.le_refl _) rfl (by omega), bup⟩
    case round =>
      obtain ⟨j, ad2, c2, hj, rfl, rfl, ho2, hb2⟩ := hrel
      have HOO := Lib.hid ho2
      have HBB := Lib.hid hb2
      have hbs := hb2.size
      have hg0 := (HG.out.2.2.2.2.2.1) j
      have hcl := (TupAt.below H0.out (TupAt.lt H0.out) hb2).cell (1 + j)
      clear ho2 hb2
      by_cases hlt : (j : Int) < 16
      · have hjl : j < 16 := by omega
        have hcx := hcl.trans (hg0 hjl)
        have hst := take_snoc8 t.sb j (by rw [HO.out.1]; exact hjl)
        obtain ⟨by8, hby⟩ : ∃ by8, by8 = at8 t.sb j := ⟨_, rfl⟩
        rw [← hby] at hcx hst
        have HST := Lib.hid hst
        clear hst hby hcl hg0
        go_wp2_with ((with_reducible refine sl 22 ?_); go_must (refine wpL_push elB rfl (.tmp 15) (.tmp 21) rfl w1.heap.size rfl HOO.out _ 1 rfl rfl rfl (BV_one [by8]) (by omega) (by omega) (by omega) hbs HBB.out (Nat.le_refl _) ?_); intro ad3 c3 w3 ho3 hb3 hg3; clear hg3)
        have HO3 := Lib.hid ho3
        have HB3 := Lib.hid hb3
        clear ho3 hb3
        go_wp2_with fail
        go_roundw
        case rel => exact ⟨j + 1, ad3, c3, by omega, by go_num, rfl, by rw [HST.out, ← List.append_assoc, BV_append]; exact HO3.out, HB3.out⟩
        case measure => simp only [lenV]; omega
      · obtain rfl : j = 16 := by omega
        rw [show ((16 : Nat) : Int) = 16 from rfl]
        have hkk : t.sb.take 16 = t.sb := List.take_of_length_le (by rw [HO.out.1]; exact Nat.le_refl _)
        rw [hkk] at HOO
        clear hkk hg0 hcl hlt
        go_wp2_with fail
        obtain ⟨L1, hL1⟩ : ∃ L, L = ([4] : List UInt8) ++ t.sb := ⟨_, rfl⟩
        rw [← hL1] at HOO
        have HL1 := Lib.hid hL1
        clear hL1
        go_loopw [3, 5] (fun v i wr => ∃ (j : Nat) (ad' : Option Addr) (c' : Nat), j ≤ 16 ∧ i = .int .i64 j ∧ v = .slice ad' (17 + j) c' ∧ wr.ownsRow w1.heap.size 5 1 (.slice ad' (17 + j) c') (17 + j) (BV (L1 ++ t.db.take j)) ∧ Below w1.heap.size w1 wr) (fun v _ _ => 17 + 16 - lenV v)
        case atStart =>
          exact ⟨0, _, _, Nat.zero_le _, rfl, rfl, by simpa using HOO.out, HBB.out⟩
        case round =>
          clear HOO HBB hbs
          obtain ⟨j, ad2, c2, hj, rfl, rfl, ho2, hb2⟩ := hrel
          have HOO := Lib.hid ho2
          have HBB := Lib.hid hb2
          have hbs := hb2.size
          have hg0 := (HG.out.2.2.2.2.2.2) j
          have hcl := (TupAt.below H0.out (TupAt.lt H0.out) hb2).cell (18 + j)
          clear ho2 hb2
          by_cases hlt : (j : Int) < 16
          · have hjl : j < 16 := by omega
            have hcx := hcl.trans (hg0 hjl)
            have hst := take_snoc8 t.db j (by rw [HO.out.2]; exact hjl)
            obtain ⟨by8, hby⟩ : ∃ by8, by8 = at8 t.db j := ⟨_, rfl⟩
            rw [← hby] at hcx hst
            have HST := Lib.hid hst
            clear hst hby hcl hg0
            go_wp2_with ((with_reducible refine sl 34 ?_); go_must (refine wpL_push elB rfl (.tmp 27) (.tmp 33) rfl w1.heap.size rfl HOO.out _ 1 rfl rfl rfl (BV_one [by8]) (by omega) (by omega) (by omega) hbs HBB.out (Nat.le_refl _) ?_); intro ad3 c3 w3 ho3 hb3 hg3; clear hg3)
            have HO3 := Lib.hid ho3
            have HB3 := Lib.hid hb3
            clear ho3 hb3
            go_wp2_with fail
            go_roundw
            case rel => exact ⟨j + 1, ad3, c3, by omega, by go_num, rfl, by rw [HST.out, ← List.append_assoc, BV_append]; exact HO3.out, HB3.out⟩
            case measure => simp only [lenV]; omega
          · obtain rfl : j = 16 := by omega
            rw [show ((16 : Nat) : Int) = 16 from rfl]
            have hkk : t.db.take 16 = t.db := List.take_of_length_le (by rw [HO.out.2]; exact Nat.le_refl _)
            rw [hkk] at HOO
            clear hkk hg0 hcl hlt
            have gk := TupAt.below H0.out (TupAt.lt H0.out) HBB.out
            have k34 := (gk.cell 34).trans HG.out.2.2.1
            have k35 := (gk.cell 35).trans HG.out.2.2.2.1
            have k36 := (gk.cell 36).trans HG.out.2.2.2.2.1
            clear gk
            have e0 : (t.proto : Int) = ((byteOf t.proto).toNat : Int) := by rw [← byteOf_wrap, IntKind.wrap_u8]; omega
            have e1 : t.sport / 256 = ((byteOf (t.sport / 256)).toNat : Int) := by rw [← byteOf_wrap, IntKind.wrap_u8]; omega
            have e2 : t.sport % 256 = ((byteOf (t.sport % 256)).toNat : Int) := by rw [← byteOf_wrap, IntKind.wrap_u8]; omega
            have e3 : t.dport / 256 = ((byteOf (t.dport / 256)).toNat : Int) := by rw [← byteOf_wrap, IntKind.wrap_u8]; omega
            have e4 : t.dport % 256 = ((byteOf (t.dport % 256)).toNat : Int) := by rw [← byteOf_wrap, IntKind.wrap_u8]; omega
            have hv : BV [byteOf t.proto, byteOf (t.sport / 256), byteOf (t.sport % 256), byteOf (t.dport / 256), byteOf (t.dport % 256)] = [.int .u8 t.proto, .int .u8 (t.sport / 256), .int .u8 (t.sport % 256), .int .u8 (t.dport / 256), .int .u8 (t.dport % 256)] := by
              unfold BV
              simp only [List.map_cons, List.map_nil]
              rw [← e0, ← e1, ← e2, ← e3, ← e4]
            have hall : L1 ++ t.db ++ [byteOf t.proto, byteOf (t.sport / 256), byteOf (t.sport % 256), byteOf (t.dport / 256), byteOf (t.dport % 256)] = t.bytes := by
              rw [HL1.out]
              unfold Tup.bytes
              rw [← HFB.out, be16_two _ hs0 hs1, be16_two _ hd0 hd1]
              simp
            have HV := Lib.hid hv
            have HALL := Lib.hid hall
            clear e0 e1 e2 e3 e4 hv hall
            go_wp2_with ((with_reducible refine sl 56 ?_); go_must (refine wpL_push elB rfl (.tmp 35) (.tmp 55) rfl w1.heap.size rfl HOO.out _ 5 rfl rfl rfl (by rw [← HV.out]; exact BV_one _) (by omega) (by omega) (by omega) hbs HBB.out (Nat.le_refl _) ?_); intro ad4 c4 w4 ho4 hb4 hg4; clear hg4)
            have HO4 : Hid (w4.ownsRow w1.heap.size 5 1 (.slice ad4 38 c4) 38 (BV t.bytes)) := Lib.hid (by rw [← HALL.out, BV_append, HV.out]; exact ho4)
            have HB4 := Lib.hid hb4
            clear ho4 hb4
            go_wp2_with fail
            go_ret
            have hbl : t.bytes.length = 38 := by have := ho.1; have := ho.2; simp [Tup.bytes, be16, putL_length, sizeOf8]; omega
            exact ⟨ad4, c4, by rw [hbl]; rfl, by rw [hbl]; exact own_base HO4.out HB.out.size, HB.out.trans (HB4.out.mono HB.out.size)⟩
  · rw [h6] at c0
    go_wp2_with fail
    have HZ : Hid ((w.alloc (.cells t.cells.toArray 26)).heap.size = w.heap.size + 1) := Lib.hid (by simp)
    generalize w.alloc (.cells t.cells.toArray 26) = w1 at *
    clear c0
    go_loopw [3, 4] (fun v i wr => ∃ (j : Nat) (ad' : Option Addr) (c' : Nat), j ≤ 16 ∧ i = .int .i64 j ∧ v = .slice ad' (1 + j) c' ∧ wr.ownsRow w1.heap.size 5 1 (.slice ad' (1 + j) c') (1 + j) (BV ([6] ++ t.sb.take j)) ∧ Below w1.heap.size w1 wr) (fun v _ _ => 1 + 16 - lenV v)
    case atStart => exact ⟨0, _, _, Nat.zero_le _, rfl, rfl, own_lit (v := w1.alloc _) #[.int .u8 6] 1 1 (by have := HZ.out; simp; omega) (by simp) rfl (by omega), bup⟩
    case round =>
      obtain ⟨j, ad2, c2, hj, rfl, rfl, ho2, hb2⟩ := hrel
      have HOO := Lib.hid ho2
      have HBB := Lib.hid hb2
      have hbs := hb2.size
      have hg0 := (HG.out.2.2.2.2.2.1) j
      have hcl := (TupAt.below H0.out (TupAt.lt H0.out) hb2).cell (1 + j)
      clear ho2 hb2
      by_cases hlt : (j : Int) < 16
      · have hjl : j < 16 := by omega
        have hcx := hcl.trans (hg0 hjl)
        have hst := take_snoc8 t.sb j (by rw [HO.out.1]; exact hjl)
        obtain ⟨by8, hby⟩ : ∃ by8, by8 = at8 t.sb j := ⟨_, rfl⟩
        rw [← hby] at hcx hst
        have HST := Lib.hid hst
        clear hst hby hcl hg0
        go_wp2_with ((with_reducible refine sl 22 ?_); go_must (refine wpL_push elB rfl (.tmp 15) (.tmp 21) rfl w1.heap.size rfl HOO.out _ 1 rfl rfl rfl (BV_one [by8]) (by omega) (by omega) (by omega) hbs HBB.out (Nat.le_refl _) ?_); intro ad3 c3 w3 ho3 hb3 hg3; clear hg3)
        have HO3 := Lib.hid ho3
        have HB3 := Lib.hid hb3
        clear ho3 hb3
        go_wp2_with fail
        go_roundw
        case rel => exact ⟨j + 1, ad3, c3, by omega, by go_num, rfl, by rw [HST.out, ← List.append_assoc, BV_append]; exact HO3.out, HB3.out⟩
        case measure => simp only [lenV]; omega
      · obtain rfl : j = 16 := by omega
        rw [show ((16 : Nat) : Int) = 16 from rfl]
        have hkk : t.sb.take 16 = t.sb := List.take_of_length_le (by rw [HO.out.1]; exact Nat.le_refl _)
        rw [hkk] at HOO
        clear hkk hg0 hcl hlt
        go_wp2_with fail
        obtain ⟨L1, hL1⟩ : ∃ L, L = ([6] : List UInt8) ++ t.sb := ⟨_, rfl⟩
        rw [← hL1] at HOO
        have HL1 := Lib.hid hL1
        clear hL1
        go_loopw [3, 5] (fun v i wr => ∃ (j : Nat) (ad' : Option Addr) (c' : Nat), j ≤ 16 ∧ i = .int .i64 j ∧ v = .slice ad' (17 + j) c' ∧ wr.ownsRow w1.heap.size 5 1 (.slice ad' (17 + j) c') (17 + j) (BV (L1 ++ t.db.take j)) ∧ Below w1.heap.size w1 wr) (fun v _ _ => 17 + 16 - lenV v)
        case atStart =>
          exact ⟨0, _, _, Nat.zero_le _, rfl, rfl, by simpa using HOO.out, HBB.out⟩
        case round =>
          clear HOO HBB hbs
          obtain ⟨j, ad2, c2, hj, rfl, rfl, ho2, hb2⟩ := hrel
          have HOO := Lib.hid ho2
          have HBB := Lib.hid hb2
          have hbs := hb2.size
          have hg0 := (HG.out.2.2.2.2.2.2) j
          have hcl := (TupAt.below H0.out (TupAt.lt H0.out) hb2).cell (18 + j)
          clear ho2 hb2
          by_cases hlt : (j : Int) < 16
          · have hjl : j < 16 := by omega
            have hcx := hcl.trans (hg0 hjl)
            have hst := take_snoc8 t.db j (by rw [HO.out.2]; exact hjl)
            obtain ⟨by8, hby⟩ : ∃ by8, by8 = at8 t.db j := ⟨_, rfl⟩
            rw [← hby] at hcx hst
            have HST := Lib.hid hst
            clear hst hby hcl hg0
            go_wp2_with ((with_reducible refine sl 34 ?_); go_must (refine wpL_push elB rfl (.tmp 27) (.tmp 33) rfl w1.heap.size rfl HOO.out _ 1 rfl rfl rfl (BV_one [by8]) (by omega) (by omega) (by omega) hbs HBB.out (Nat.le_refl _) ?_); intro ad3 c3 w3 ho3 hb3 hg3; clear hg3)
            have HO3 := Lib.hid ho3
            have HB3 := Lib.hid hb3
            clear ho3 hb3
            go_wp2_with fail
            go_roundw
            case rel => exact ⟨j + 1, ad3, c3, by omega, by go_num, rfl, by rw [HST.out, ← List.append_assoc, BV_append]; exact HO3.out, HB3.out⟩
            case measure => simp only [lenV]; omega
          · obtain rfl : j = 16 := by omega
            rw [show ((16 : Nat) : Int) = 16 from rfl]
            have hkk : t.db.take 16 = t.db := List.take_of_length_le (by rw [HO.out.2]; exact Nat.le_refl _)
            rw [hkk] at HOO
            clear hkk hg0 hcl hlt
            have gk := TupAt.below H0.out (TupAt.lt H0.out) HBB.out
            have k34 := (gk.cell 34).trans HG.out.2.2.1
            have k35 := (gk.cell 35).trans HG.out.2.2.2.1
            have k36 := (gk.cell 36).trans HG.out.2.2.2.2.1
            clear gk
            have e0 : (t.proto : Int) = ((byteOf t.proto).toNat : Int) := by rw [← byteOf_wrap, IntKind.wrap_u8]; omega
            have e1 : t.sport / 256 = ((byteOf (t.sport / 256)).toNat : Int) := by rw [← byteOf_wrap, IntKind.wrap_u8]; omega
            have e2 : t.sport % 256 = ((byteOf (t.sport % 256)).toNat : Int) := by rw [← byteOf_wrap, IntKind.wrap_u8]; omega
            have e3 : t.dport / 256 = ((byteOf (t.dport / 256)).toNat : Int) := by rw [← byteOf_wrap, IntKind.wrap_u8]; omega
            have e4 : t.dport % 256 = ((byteOf (t.dport % 256)).toNat : Int) := by rw [← byteOf_wrap, IntKind.wrap_u8]; omega
            have hv : BV [byteOf t.proto, byteOf (t.sport / 256), byteOf (t.sport % 256), byteOf (t.dport / 256), byteOf (t.dport % 256)] = [.int .u8 t.proto, .int .u8 (t.sport / 256), .int .u8 (t.sport % 256), .int .u8 (t.dport / 256), .int .u8 (t.dport % 256)] := by
              unfold BV
              simp only [List.map_cons, List.map_nil]
              rw [← e0, ← e1, ← e2, ← e3, ← e4]
            have hall : L1 ++ t.db ++ [byteOf t.proto, byteOf (t.sport / 256), byteOf (t.sport % 256), byteOf (t.dport / 256), byteOf (t.dport % 256)] = t.bytes := by
              rw [HL1.out]
              unfold Tup.bytes
              rw [← HFB.out, be16_two _ hs0 hs1, be16_two _ hd0 hd1]
              simp
            have HV := Lib.hid hv
            have HALL := Lib.hid hall
            clear e0 e1 e2 e3 e4 hv hall
            go_wp2_with ((with_reducible refine sl 56 ?_); go_must (refine wpL_push elB rfl (.tmp 35) (.tmp 55) rfl w1.heap.size rfl HOO.out _ 5 rfl rfl rfl (by rw [← HV.out]; exact BV_one _) (by omega) (by omega) (by omega) hbs HBB.out (Nat.le_refl _) ?_); intro ad4 c4 w4 ho4 hb4 hg4; clear hg4)
            have HO4 : Hid (w4.ownsRow w1.heap.size 5 1 (.slice ad4 38 c4) 38 (BV t.bytes)) := Lib.hid (by rw [← HALL.out, BV_append, HV.out]; exact ho4)
            have HB4 := Lib.hid hb4
            clear ho4 hb4
            go_wp2_with fail
            go_ret
            have hbl : t.bytes.length = 38 := by have := ho.1; have := ho.2; simp [Tup.bytes, be16, putL_length, sizeOf8]; omega
            exact ⟨ad4, c4, by rw [hbl]; rfl, by rw [hbl]; exact own_base HO4.out HB.out.size, HB.out.trans (HB4.out.mono HB.out.size)⟩

theorem mapM_some' {α β : Type} (f : α → Option β) (g : α → β) : ∀ l : List α, (∀ x ∈ l, f x = some (g x)) → l.mapM f = some (l.map g)
  | [], _ => rfl
  | x :: l, h => by
    rw [List.mapM_cons, h x (by simp), mapM_some' f g l (fun y hy => h y (by simp [hy]))]
    rfl

theorem flat_single {α β : Type} (g : α → β) : ∀ l : List α, (l.map fun x => [g x]).flatten = l.map g
  | [] => rfl
  | x :: l => by simp [flat_single g l]
/-- in range -/
def Tup.wf (t : Tup) : Prop := (Lit.int .i64 t.proto).wf = true ∧ (Lit.int .i64 t.sport).wf = true ∧ (Lit.int .i64 t.dport).wf = true
def LB (l : List UInt8) : List Lit := l.map fun b => Lit.int .u8 (b.toNat : Int)
def Tup.lits (t : Tup) : List Lit := .bool t.s6 :: (LB t.sb ++ (.bool t.d6 :: (LB t.db ++ [.int .i64 t.proto, .int .i64 t.sport, .int .i64 t.dport])))
theorem LB_length (l : List UInt8) : (LB l).length = l.length := by simp [LB]
theorem LB_inj {l m : List UInt8} (h : LB l = LB m) : l = m := by
  unfold LB at h
  refine List.map_inj_right (fun a b hab => ?_) |>.1 h
  simp at hab
  exact UInt8.toNat_inj.1 (by omega)
theorem Tup.lits_inj {t u : Tup} (ht : t.ok) (hu : u.ok) (h : t.lits = u.lits) : t = u := by
  obtain ⟨s6, sb, d6, db, p, s, d⟩ := t
  obtain ⟨s6', sb', d6', db', p', s', d'⟩ := u
  obtain ⟨h1, h2⟩ := ht
  obtain ⟨h3, h4⟩ := hu
  have h1 : sb.length = 16 := h1
  have h2 : db.length = 16 := h2
  have h3 : sb'.length = 16 := h3
  have h4 : db'.length = 16 := h4
  simp only [Tup.lits, List.cons.injEq, Lit.bool.injEq] at h
  obtain ⟨e0, h⟩ := h
  obtain ⟨e1, h⟩ := List.append_inj h (by rw [LB_length, LB_length, h1, h3])
  simp only [List.cons.injEq, Lit.bool.injEq] at h
  obtain ⟨e2, h⟩ := h
  obtain ⟨e3, h⟩ := List.append_inj h (by rw [LB_length, LB_length, h2, h4])
  simp only [List.cons.injEq, Lit.int.injEq, true_and, and_true] at h
  obtain ⟨e4, e5, e6⟩ := h
  rw [e0, e2, e4, e5, e6, LB_inj e1, LB_inj e3]

theorem wf_byte (b : UInt8) : (Lit.int .u8 (b.toNat : Int)).wf = true := by
  have := b.toNat_lt
  simp [Lit.wf, IntKind.min, IntKind.max, IntKind.signed, IntKind.bits]
  omega
theorem lits_bytes (D : Nat) (l : List UInt8) (hl : l.length = 16) : Try.prog.keyLits (D + 2) 22 (BV l) = some (LB l) := by
  have hc : Try.prog.cellsOf 22 = 16 := by kernel_rfl
  have hc1 : Try.prog.cellsOf 5 = 1 := by kernel_rfl
  have hu : Try.prog.underlying 5 = some (.int .u8) := Try.underlying5
  unfold Program.keyLits
  simp only [Try.underlying22, hc, hc1, BV_length, hl, if_true, Nat.mul_one]
  rw [mapM_some' _ (fun i => [Lit.int .u8 ((at8 l i).toNat : Int)]) _ (fun i hi => ?_)]
  · rw [Option.map_some, flat_single]
    congr 1
    unfold LB
    apply List.ext_getElem
    · simp [hl]
    · intro i h1 h2
      have hi : i < 16 := by simpa using h1
      simp [at8, List.getD, show i < l.length by omega]
  · have hi16 : i < 16 := by simpa using hi
    have e : ((BV l).drop i).take 1 = [.int .u8 ((at8 l i).toNat : Int)] := by
      rw [List.drop_eq_getElem_cons (by rw [BV_length, hl]; exact hi16), List.take_succ_cons, List.take_zero, BV_get, at8_get _ _ (by omega)]
    rw [e]
    unfold Program.keyLits
    simp only [hu, wf_byte, and_self, if_true]
theorem lits_addr (D : Nat) (b : Bool) (l : List UInt8) (hl : l.length = 16) : Try.prog.keyLits (D + 3) 24 (.bool b :: BV l) = some (.bool b :: LB l) := by
  have hc : Try.prog.cellsOf 24 = 17 := by kernel_rfl
  have hc1 : Try.prog.cellsOf 4 = 1 := by kernel_rfl
  have hc2 : Try.prog.cellsOf 22 = 16 := by kernel_rfl
  have e2 : (BV l).take 16 = BV l := List.take_of_length_le (by rw [BV_length, hl]; exact Nat.le_refl _)
  have e3 : Try.prog.keyLits (D + 2) 4 [.bool b] = some [.bool b] := by
    unfold Program.keyLits
    simp only [Try.underlying4]
  have e4 := lits_bytes D l hl
  unfold Program.keyLits
  simp only [Try.underlying24, hc, hc1, hc2, List.length_cons, BV_length, hl]
  simp [hc1, hc2, e2, e3, e4]
theorem take_one {cs : List Value} {k : Nat} {x : Value} (h : cs[k]? = some x) : (cs.drop k).take 1 = [x] := by
  obtain ⟨hk, hx⟩ := List.getElem?_eq_some_iff.1 h
  rw [List.drop_eq_getElem_cons hk, List.take_succ_cons, List.take_zero, hx]
theorem lits_tup (D : Nat) (t : Tup) (ht : t.ok) (hw : t.wf) : Try.prog.keyLits (D + 4) 26 t.cells = some t.lits := by
  have hc : Try.prog.cellsOf 26 = 37 := by kernel_rfl
  have hc1 : Try.prog.cellsOf 24 = 17 := by kernel_rfl
  have hc2 : Try.prog.cellsOf 3 = 1 := by kernel_rfl
  have hl := Tup.length ht
  have l1 : (BV t.sb).length = 16 := by rw [BV_length, ht.1]
  have l2 : (BV t.db).length = 16 := by rw [BV_length, ht.2]
  have d1 : (t.cells.drop 0).take 17 = .bool t.s6 :: BV t.sb := by
    simp [Tup.cells, List.take_append, l1]
  have d2 : (t.cells.drop 17).take 17 = .bool t.d6 :: BV t.db := by
    simp [Tup.cells, List.drop_append, List.take_append, l1, l2]
  have hg := Tup.get ht
  have d3 := take_one hg.2.2.1
  have d4 := take_one hg.2.2.2.1
  have d5 := take_one hg.2.2.2.2.1
  have e1 := lits_addr D t.s6 t.sb ht.1
  have e2 := lits_addr D t.d6 t.db ht.2
  have e3 : ∀ n : Int, (Lit.int .i64 n).wf = true → Try.prog.keyLits (D + 3) 3 [.int .i64 n] = some [.int .i64 n] := by
    intro n hn
    unfold Program.keyLits
    simp only [Try.underlying3, hn, and_self, if_true]
  unfold Program.keyLits
  simp only [Try.underlying26, hc, hc1, hc2, hl]
  rw [List.drop_zero] at d1
  simp [hc1, hc2, d1, d2, d3, d4, d5, e1, e2, e3 _ hw.1, e3 _ hw.2.1, e3 _ hw.2.2, Tup.lits]

def tupSame (t u : Tup) : Bool := sameB t.bytes u.bytes
theorem equal_tup (t u : Tup) (ht : t.ok) (hu : u.ok) (wt : t.wf) (wu : u.wf) (b : Bool) (hb : b = true ↔ t = u) (w : World) :
    (Go.Op.equalIn 10000 26 (.agg t.cells.toArray) (.agg u.cells.toArray)).run Try.prog w = .ok b w := by
  have hf : ∀ v : Tup, v.ok → (Value.agg v.cells.toArray).formed Try.prog 26 = true := by
    intro v hv
    have hc : Try.prog.cellsOf 26 = 37 := by kernel_rfl
    simp [Value.formed, Try.underlying26, hc, Tup.length hv]
  obtain ⟨r, hr, hiff⟩ := run_equalIn_deep (P := Try.prog) 9996 4 26 (by kernel_rfl) w 4 4 (.agg t.cells.toArray) (.agg u.cells.toArray) t.lits u.lits (hf t ht) (hf u hu) (lits_tup 0 t ht wt) (lits_tup 0 u hu wu)
  have e : r = b := by
    rw [Bool.eq_iff_iff, hiff, hb]
    exact ⟨fun h => Tup.lits_inj ht hu h, fun h => by rw [h]⟩
  rw [← e]
  exact hr
theorem yields_tup {ops : Array Oper} {o : Oper} {a : Act} {S : World → Prop} (t u : Tup) (ht : t.ok) (hu : u.ok) (wt : t.wf) (wu : u.wf) (b : Bool) (hb : b = true ↔ t = u)
    (hg : Region.wanted o (yielded ops a.tmps) = true) (x y : Operand) (hop : o.op = Op.binOp BinOp.eql 26 x y 26) (hx : a.eval x = .agg t.cells.toArray) (hy : a.eval y = .agg u.cells.toArray) :
    YieldsIf Try.prog ops S o (.bool b) a := by
  refine Or.inl ⟨hg, fun w _ => ?_⟩
  have hh := equal_tup t u ht hu wt wu b hb w
  have hgd := run_eqGuard_agg (P := Try.prog) w .eql 26 x y t.cells.toArray u.cells.toArray (by kernel_rfl)
  have hes := run_eql_struct (P := Try.prog) w 26 t.cells.toArray u.cells.toArray
  rw [hh] at hes
  simp only [execOp, hop, hx, hy, Sem.run_bind, hgd, hes, Result.andThen_ok, Sem.run_pure]



section
variable {H : Type} {enc : TypeId × Value → H} {w : World} {base : Nat} {spare : Nat → Bool} {held : Bool}
theorem trod_addr {fuel : Nat} {cs : List Value} {x : DataW H × List MemPlace} (h : DataW.trod enc Try.prog w base spare held fuel 24 cs = some x) : ∃ b, ∃ l : List UInt8, l.length = 16 ∧ cs = .bool b :: BV l := by
  obtain ⟨hl, f, hf⟩ := trod_struct Try.underlying24 h
  have hc : Try.prog.cellsOf 24 = 17 := by kernel_rfl
  have hc1 : Try.prog.cellsOf 4 = 1 := by kernel_rfl
  have hc2 : Try.prog.cellsOf 22 = 16 := by kernel_rfl
  have hc3 : Try.prog.cellsOf 5 = 1 := by kernel_rfl
  simp only [List.mem_cons, List.not_mem_nil, or_false, forall_eq_or_imp, forall_eq, hc1, hc2] at hf
  obtain ⟨⟨y1, h1⟩, ⟨y2, h2⟩⟩ := hf
  rw [hc] at hl
  rw [List.drop_zero] at h1
  cases cs with
  | nil => simp at hl
  | cons c cs =>
    rw [List.take_succ_cons, List.take_zero] at h1
    obtain ⟨b, rfl⟩ := trod_bool Try.underlying4 h1
    rw [List.drop_succ_cons, List.drop_zero] at h2
    obtain ⟨l, hll, hcl⟩ := trod_bytes Try.underlying22 Try.underlying5 hc3 hc2 h2
    refine ⟨b, l, hll, ?_⟩
    rw [← hcl, List.take_of_length_le (by simp at hl; omega)]
theorem open_tup {r : Reach} {b0 : Nat} {v : Value} {d : DataW H} {ps : List MemPlace} (hv : Value.okWide Try.prog w r b0 26 v) (h : DataW.Trod enc Try.prog w base spare held 26 v d ps) :
    ∃ t : Tup, v = .agg t.cells.toArray ∧ t.ok ∧ t.wf := by
  have hc : Try.prog.cellsOf 26 = 37 := by kernel_rfl
  have hc1 : Try.prog.cellsOf 24 = 17 := by kernel_rfl
  have hc2 : Try.prog.cellsOf 3 = 1 := by kernel_rfl
  simp only [Value.okWide, Try.underlying26] at hv
  obtain ⟨cs, rfl, hsz, _⟩ := hv
  obtain ⟨fuel, hf⟩ := h
  obtain ⟨hl, f, hf⟩ := trod_struct Try.underlying26 hf
  simp only [Value.cells, List.mem_cons, List.not_mem_nil, or_false, forall_eq_or_imp, forall_eq, hc1, hc2] at hf
  obtain ⟨⟨y1, h1⟩, ⟨y2, h2⟩, ⟨y3, h3⟩, ⟨y4, h4⟩, ⟨y5, h5⟩⟩ := hf
  simp only [Value.cells] at hl
  rw [hc] at hl
  obtain ⟨L, hL⟩ : ∃ L, L = cs.toList := ⟨_, rfl⟩
  have hcs : cs = L.toArray := by rw [hL]
  rw [← hL] at hl h1 h2 h3 h4 h5
  rw [take_one_of (show 34 < L.length by omega)] at h3
  rw [take_one_of (show 35 < L.length by omega)] at h4
  rw [take_one_of (show 36 < L.length by omega)] at h5
  obtain ⟨b1, l1, hl1, e1⟩ := trod_addr h1
  obtain ⟨b2, l2, hl2, e2⟩ := trod_addr h2
  obtain ⟨p, e3, w3⟩ := trod_int Try.underlying3 h3
  obtain ⟨s, e4, w4⟩ := trod_int Try.underlying3 h4
  obtain ⟨q, e5, w5⟩ := trod_int Try.underlying3 h5
  refine ⟨⟨b1, l1, b2, l2, p, s, q⟩, ?_, ⟨hl1, hl2⟩, ⟨w3, w4, w5⟩⟩
  rw [hcs]
  congr 2
  have k1 : L = L.take 17 ++ ((L.drop 17).take 17 ++ L.drop 34) := by
    rw [show L.drop 34 = (L.drop 17).drop 17 by rw [List.drop_drop], List.take_append_drop, List.take_append_drop]
  have k2 : L.drop 34 = [L[34], L[35], L[36]] := by
    rw [List.drop_eq_getElem_cons (show 34 < L.length by omega), List.drop_eq_getElem_cons (show 35 < L.length by omega), List.drop_eq_getElem_cons (show 36 < L.length by omega), List.drop_of_length_le (by omega)]
  rw [List.drop_zero] at e1
  rw [e1, e2, k2, e3, e4, e5] at k1
  rw [k1]
  simp [Tup.cells]
end
end Go.Proofs.Ytgpdlhbndoeldaa
/-
  Chapter 21: flows: their cells, when two are alike, those that came in; names; which are right (plain).
-/
namespace Go.Proofs.Ytgpdlhbndoeldaa
open Go.RowKit Go.Sort
set_option linter.unusedVariables false
set_option linter.unusedSimpArgs false
set_option maxRecDepth 100000

/-- a flow -/
structure Flo where
  key : Tup
  name : ByteArray
  state : Int
  seen : Int
  no : Int
def Flo.cells (f : Flo) : List Value := f.key.cells ++ [.string f.name, .int .i64 f.state, .int .i64 f.seen, .int .i64 f.no]
/-- in range -/
def Flo.ok (f : Flo) : Prop := f.key.ok ∧ f.key.wf ∧ f.name.size ≤ maxLen ∧ (Lit.int .i64 f.state).wf = true ∧ (Lit.int .i64 f.seen).wf = true ∧ (Lit.int .i64 f.no).wf = true
theorem Flo.length {f : Flo} (h : f.ok) : f.cells.length = 41 := by
  simp [Flo.cells, Tup.length h.1]
theorem Flo.get {f : Flo} (h : f.ok) : (∀ j, j < 37 → f.cells[j]? = f.key.cells[j]?) ∧ f.cells[37]? = some (.string f.name) ∧ f.cells[38]? = some (.int .i64 f.state) ∧ f.cells[39]? = some (.int .i64 f.seen) ∧ f.cells[40]? = some (.int .i64 f.no) := by
  have e := Tup.length h.1
  unfold Flo.cells
  refine ⟨fun j hj => List.getElem?_append_left (by omega), ?_, ?_, ?_, ?_⟩
  all_goals (rw [List.getElem?_append_right (by omega), e]; rfl)
theorem Tup.one {t : Tup} : ∀ v ∈ t.cells, v.oneCell' = true := by
  intro v hv
  simp only [Tup.cells, List.mem_cons, List.mem_append, List.not_mem_nil, or_false] at hv
  rcases hv with rfl | h | rfl | h | rfl | rfl | rfl
  · rfl
  · exact BV_one _ _ h
  · rfl
  · exact BV_one _ _ h
  all_goals rfl
theorem Flo.one {f : Flo} : ∀ v ∈ f.cells, v.oneCell' = true := by
  intro v hv
  simp only [Flo.cells, List.mem_append, List.mem_cons, List.not_mem_nil, or_false] at hv
  rcases hv with h | rfl | rfl | rfl | rfl
  · exact Tup.one _ h
  all_goals rfl
def zeroT : Tup := ⟨false, List.replicate 16 0, false, List.replicate 16 0, 0, 0, 0⟩
def zeroF : Flo := ⟨zeroT, ByteArray.empty, 0, 0, 0⟩
theorem zeroT_ok : zeroT.ok := ⟨rfl, rfl⟩
theorem zeroT_wf : zeroT.wf := ⟨rfl, rfl, rfl⟩
theorem zeroF_ok : zeroF.ok := ⟨zeroT_ok, zeroT_wf, Nat.zero_le _, rfl, rfl, rfl⟩
theorem flo_info : (Try.prog.info? 28).map (fun i => (i.zero, i.size)) = some (some (.agg zeroF.cells.toArray), 41) := by kernel_rfl
theorem flo_size : (Try.prog.info? 28).map (·.size) = some 41 := by kernel_rfl
theorem tup_size : (Try.prog.info? 26).map (·.size) = some 37 := by kernel_rfl
theorem addr_size : (Try.prog.info? 24).map (·.size) = some 17 := by kernel_rfl
instance : Inhabited Flo := ⟨zeroF⟩

def Flo.lits (f : Flo) : List Lit := f.key.lits ++ [.string f.name.data.toList, .int .i64 f.state, .int .i64 f.seen, .int .i64 f.no]
theorem Tup.lits_length {t : Tup} (h : t.ok) : t.lits.length = 37 := by
  obtain ⟨h1, h2⟩ := h
  simp [Tup.lits, LB_length, h1, h2]
theorem Flo.lits_inj {f g : Flo} (hf : f.ok) (hg : g.ok) (h : f.lits = g.lits) : f = g := by
  obtain ⟨e1, h⟩ := List.append_inj h (by rw [Tup.lits_length hf.1, Tup.lits_length hg.1])
  simp only [List.cons.injEq, Lit.int.injEq, Lit.string.injEq, true_and, and_true] at h
  obtain ⟨e2, e3, e4, e5⟩ := h
  have e1 := Tup.lits_inj hf.1 hg.1 e1
  obtain ⟨k, n, s, se, no⟩ := f
  obtain ⟨k', n', s', se', no'⟩ := g
  simp only at e1 e2 e3 e4 e5
  subst e1 e3 e4 e5
  congr 1
  obtain ⟨d⟩ := n
  obtain ⟨d'⟩ := n'
  congr 1
  exact Array.toList_inj.1 e2
theorem lits_flo (D : Nat) (f : Flo) (hf : f.ok) : Try.prog.keyLits (D + 5) 28 f.cells = some f.lits := by
  have hc : Try.prog.cellsOf 28 = 41 := by kernel_rfl
  have hc1 : Try.prog.cellsOf 26 = 37 := by kernel_rfl
  have hc2 : Try.prog.cellsOf 3 = 1 := by kernel_rfl
  have hc3 : Try.prog.cellsOf 9 = 1 := by kernel_rfl
  have hl := Flo.length hf
  have hg := Flo.get hf
  have d1 : (f.cells.drop 0).take 37 = f.key.cells := by
    rw [List.drop_zero]; exact List.take_left' (Tup.length hf.1)
  have d2 := take_one hg.2.1
  have d3 := take_one hg.2.2.1
  have d4 := take_one hg.2.2.2.1
  have d5 := take_one hg.2.2.2.2
  have e1 := lits_tup D f.key hf.1 hf.2.1
  have e2 : Try.prog.keyLits (D + 4) 9 [.string f.name] = some [.string f.name.data.toList] := by
    unfold Program.keyLits
    simp only [Try.underlying9, hf.2.2.1, if_true]
  have e3 : ∀ n : Int, (Lit.int .i64 n).wf = true → Try.prog.keyLits (D + 4) 3 [.int .i64 n] = some [.int .i64 n] := by
    intro n hn
    unfold Program.keyLits
    simp only [Try.underlying3, hn, and_self, if_true]
  unfold Program.keyLits
  simp only [Try.underlying28, hc, hl]
  rw [List.drop_zero] at d1
  simp [hc1, hc2, hc3, d1, d2, d3, d4, d5, e1, e2, e3 _ hf.2.2.2.1, e3 _ hf.2.2.2.2.1, e3 _ hf.2.2.2.2.2, Flo.lits]
theorem equal_flo (f g : Flo) (hf : f.ok) (hg : g.ok) (b : Bool) (hb : b = true ↔ f = g) (w : World) :
    (Go.Op.equalIn 10000 28 (.agg f.cells.toArray) (.agg g.cells.toArray)).run Try.prog w = .ok b w := by
  have hv : ∀ v : Flo, v.ok → (Value.agg v.cells.toArray).formed Try.prog 28 = true := by
    intro v hv
    have hc : Try.prog.cellsOf 28 = 41 := by kernel_rfl
    simp [Value.formed, Try.underlying28, hc, Flo.length hv]
  obtain ⟨r, hr, hiff⟩ := run_equalIn_deep (P := Try.prog) 9995 5 28 (by kernel_rfl) w 5 5 (.agg f.cells.toArray) (.agg g.cells.toArray) f.lits g.lits (hv f hf) (hv g hg) (lits_flo 0 f hf) (lits_flo 0 g hg)
  have e : r = b := by
    rw [Bool.eq_iff_iff, hiff, hb]
    exact ⟨fun h => Flo.lits_inj hf hg h, fun h => by rw [h]⟩
  rw [← e]
  exact hr
section
variable {H : Type} {enc : TypeId × Value → H} {w : World} {base : Nat} {spare : Nat → Bool} {held : Bool}
theorem trod_string {t : TypeId} {fuel : Nat} {c : Value} {x : DataW H × List MemPlace} (ht : Try.prog.underlying t = some .string) (h : DataW.trod enc Try.prog w base spare held fuel t [c] = some x) : ∃ s : ByteArray, c = .string s ∧ s.size ≤ maxLen := by
  cases fuel with
  | zero => simp [DataW.trod] at h
  | succ f =>
    unfold DataW.trod at h
    rw [ht] at h
    cases c <;> simp at h
    exact ⟨_, rfl, h.1⟩
theorem trod_tup {fuel : Nat} {cs : List Value} {x : DataW H × List MemPlace} (h : DataW.trod enc Try.prog w base spare held fuel 26 cs = some x) : ∃ t : Tup, cs = t.cells ∧ t.ok ∧ t.wf := by
  have hc : Try.prog.cellsOf 26 = 37 := by kernel_rfl
  have hc1 : Try.prog.cellsOf 24 = 17 := by kernel_rfl
  have hc2 : Try.prog.cellsOf 3 = 1 := by kernel_rfl
  obtain ⟨hl, f, hf⟩ := trod_struct Try.underlying26 h
  simp only [List.mem_cons, List.not_mem_nil, or_false, forall_eq_or_imp, forall_eq, hc1, hc2] at hf
  obtain ⟨⟨y1, h1⟩, ⟨y2, h2⟩, ⟨y3, h3⟩, ⟨y4, h4⟩, ⟨y5, h5⟩⟩ := hf
  rw [hc] at hl
  obtain ⟨L, hL⟩ : ∃ L, L = cs := ⟨_, rfl⟩
  rw [← hL] at hl h1 h2 h3 h4 h5
  rw [take_one_of (show 34 < L.length by omega)] at h3
  rw [take_one_of (show 35 < L.length by omega)] at h4
  rw [take_one_of (show 36 < L.length by omega)] at h5
  obtain ⟨b1, l1, hl1, e1⟩ := trod_addr h1
  obtain ⟨b2, l2, hl2, e2⟩ := trod_addr h2
  obtain ⟨p, e3, w3⟩ := trod_int Try.underlying3 h3
  obtain ⟨s, e4, w4⟩ := trod_int Try.underlying3 h4
  obtain ⟨q, e5, w5⟩ := trod_int Try.underlying3 h5
  refine ⟨⟨b1, l1, b2, l2, p, s, q⟩, ?_, ⟨hl1, hl2⟩, ⟨w3, w4, w5⟩⟩
  rw [← hL]
  have k1 : L = L.take 17 ++ ((L.drop 17).take 17 ++ L.drop 34) := by
    rw [show L.drop 34 = (L.drop 17).drop 17 by rw [List.drop_drop], List.take_append_drop, List.take_append_drop]
  have k2 : L.drop 34 = [L[34], L[35], L[36]] := by
    rw [List.drop_eq_getElem_cons (show 34 < L.length by omega), List.drop_eq_getElem_cons (show 35 < L.length by omega), List.drop_eq_getElem_cons (show 36 < L.length by omega), List.drop_of_length_le (by omega)]
  rw [List.drop_zero] at e1
  rw [e1, e2, k2, e3, e4, e5] at k1
  rw [k1]
  simp [Tup.cells]
theorem trod_flo {fuel : Nat} {cs : List Value} {x : DataW H × List MemPlace} (h : DataW.trod enc Try.prog w base spare held fuel 28 cs = some x) : ∃ f : Flo, cs = f.cells ∧ f.ok := by
  have hc : Try.prog.cellsOf 28 = 41 := by kernel_rfl
  have hc1 : Try.prog.cellsOf 26 = 37 := by kernel_rfl
  have hc2 : Try.prog.cellsOf 3 = 1 := by kernel_rfl
  have hc3 : Try.prog.cellsOf 9 = 1 := by kernel_rfl
  obtain ⟨hl, f, hf⟩ := trod_struct Try.underlying28 h
  simp only [List.mem_cons, List.not_mem_nil, or_false, forall_eq_or_imp, forall_eq, hc1, hc2, hc3] at hf
  obtain ⟨⟨y1, h1⟩, ⟨y2, h2⟩, ⟨y3, h3⟩, ⟨y4, h4⟩, ⟨y5, h5⟩⟩ := hf
  rw [hc] at hl
  rw [take_one_of (show 37 < cs.length by omega)] at h2
  rw [take_one_of (show 38 < cs.length by omega)] at h3
  rw [take_one_of (show 39 < cs.length by omega)] at h4
  rw [take_one_of (show 40 < cs.length by omega)] at h5
  obtain ⟨t, e1, o1, w1⟩ := trod_tup h1
  obtain ⟨nm, e2, w2⟩ := trod_string Try.underlying9 h2
  obtain ⟨p, e3, w3⟩ := trod_int Try.underlying3 h3
  obtain ⟨s, e4, w4⟩ := trod_int Try.underlying3 h4
  obtain ⟨q, e5, w5⟩ := trod_int Try.underlying3 h5
  refine ⟨⟨t, nm, p, s, q⟩, ?_, o1, w1, w2, w3, w4, w5⟩
  have k1 : cs = cs.take 37 ++ cs.drop 37 := (List.take_append_drop 37 cs).symm
  have k2 : cs.drop 37 = [cs[37], cs[38], cs[39], cs[40]] := by
    rw [List.drop_eq_getElem_cons (show 37 < cs.length by omega), List.drop_eq_getElem_cons (show 38 < cs.length by omega), List.drop_eq_getElem_cons (show 39 < cs.length by omega), List.drop_eq_getElem_cons (show 40 < cs.length by omega), List.drop_of_length_le (by omega)]
  rw [List.drop_zero] at e1
  rw [e1, k2, e2, e3, e4, e5] at k1
  exact k1
theorem open_flo {r : Reach} {b0 : Nat} {v : Value} {d : DataW H} {ps : List MemPlace} (hv : Value.okWide Try.prog w r b0 28 v) (h : DataW.Trod enc Try.prog w base spare held 28 v d ps) :
    ∃ f : Flo, v = .agg f.cells.toArray ∧ f.ok := by
  simp only [Value.okWide, Try.underlying28] at hv
  obtain ⟨cs, rfl, hsz, _⟩ := hv
  obtain ⟨fuel, hf⟩ := h
  obtain ⟨f, hf', ho⟩ := trod_flo hf
  refine ⟨f, ?_, ho⟩
  rw [← hf']
  simp [Value.cells]
end

/-- which are right, plain -/
def fitsB (six : Bool) (b : List UInt8) : Bool := six || (b.drop 4).all (· == 0)
def knownT (t : Tup) : Bool := (t.s6 == t.d6) && fitsB t.s6 t.sb && fitsB t.d6 t.db && decide (0 ≤ t.proto) && decide (t.proto ≤ 255) && decide (0 ≤ t.sport) && decide (t.sport ≤ 65535) && decide (0 ≤ t.dport) && decide (t.dport ≤ 65535)
def letB (c : UInt8) : Bool := (decide (97 ≤ c.toNat) && decide (c.toNat ≤ 122)) || (decide (48 ≤ c.toNat) && decide (c.toNat ≤ 57)) || decide (c.toNat = 45) || decide (c.toNat = 46)
def nameB (s : ByteArray) : Bool := s.data.toList.all letB && decide (1 ≤ s.size) && decide (s.size ≤ 24)
def rightF (f : Flo) : Bool := knownT f.key && nameB f.name && decide (1 ≤ f.state) && decide (f.state ≤ 5) && decide (0 ≤ f.seen) && decide (f.seen ≤ 1099511627776) && decide (0 ≤ f.no) && decide (f.no ≤ 1152921504606846976)
theorem knownT_fit {t : Tup} (h : knownT t = true) : t.fit = true := by
  simp only [knownT, Bool.and_eq_true] at h
  obtain ⟨⟨⟨⟨⟨⟨⟨⟨a, _⟩, _⟩, b⟩, c⟩, d⟩, e⟩, f⟩, g⟩ := h
  simp only [Tup.fit, Bool.and_eq_true]
  exact ⟨⟨⟨⟨⟨⟨a, b⟩, c⟩, d⟩, e⟩, f⟩, g⟩
end Go.Proofs.Ytgpdlhbndoeldaa
/-
  More laws of single operations: boxes, new variables, results that lie in a cell. Over any program.
-/
namespace Go.Proofs.Ytgpdlhbndoeldaa
open Go.RowKit Go.Sort
set_option linter.unusedVariables false
set_option linter.unusedSimpArgs false

theorem wpL_box {P : Program} {w : World} {ops : Array Oper} {rest : List Oper} {o : Oper} {a : Act} {Q : Exit → Act → World → Prop} (hgd : Region.wanted o (yielded ops a.tmps) = true) (T : TypeId) (x : Operand) (ho : o.op = .box T x) (cs : Array Value) (hx : a.eval x = .agg cs)
    (h : ∀ w1, w1.heap[w.heap.size]? = some (.cells cs T (0, 0)) → Below w.heap.size w w1 → wpList P ops Q rest (a.put o.dst (.pointer (some ⟨w.heap.size, 0, none⟩))) w1) : wpList P ops Q (o :: rest) a w := by
  refine wpL_run hgd (v := .pointer (some ⟨w.heap.size, 0, none⟩)) (w' := w.alloc (.cells cs T)) ?_ (h _ (heap_alloc_last w _) ((Below.refl _ _).alloc (Nat.le_refl _) _))
  simp [execOp, ho, Instr.box, newVar, newRow, Value.cells, hx]
theorem wpL_alloc0 {P : Program} {w : World} {ops : Array Oper} {rest : List Oper} {o : Oper} {a : Act} {Q : Exit → Act → World → Prop} (hgd : Region.wanted o (yielded ops a.tmps) = true) (T : TypeId) (ho : o.op = .alloc T) (zs : Array Value) (n : Nat) (hi : (P.info? T).map (fun i => (i.zero, i.size)) = some (some (.agg zs), n))
    (h : ∀ w1, w1.heap[w.heap.size]? = some (.cells zs T (0, 0)) → Below w.heap.size w w1 → wpList P ops Q rest (a.put o.dst (.pointer (some ⟨w.heap.size, 0, none⟩))) w1) : wpList P ops Q (o :: rest) a w := by
  obtain ⟨hz0, hsz⟩ := zero_of_info hi
  refine wpL_run hgd (v := .pointer (some ⟨w.heap.size, 0, none⟩)) (w' := w.alloc (.cells zs T)) ?_ (h _ (heap_alloc_last w _) ((Below.refl _ _).alloc (Nat.le_refl _) _))
  simp [execOp, ho, Instr.alloc, hz0, newVar, newRow, Value.cells]
theorem wpL_newR {P : Program} {w : World} {ops : Array Oper} {rest : List Oper} {o1 o2 : Oper} {a : Act} {Q : Exit → Act → World → Prop} (hg1 : o1.guard = none) (hg2 : o2.guard = none) (T : TypeId) (ho1 : o1.op = .alloc T) (x y : Operand) (ho2 : o2.op = .store T x y)
    (cs zs : Array Value) (hi : (P.info? T).map (fun i => (i.zero, i.size)) = some (some (.agg zs), cs.size)) (hz : zs.size = cs.size) (h1 : cs.all (·.oneCell') = true)
    (hx : ∀ p, (a.put o1.dst p).eval x = p) (hy : ∀ p, (a.put o1.dst p).eval y = .agg cs)
    (h : ∀ w1, w1.heap[w.heap.size]? = some (.cells cs T (0, 0)) → Below w.heap.size w w1 → wpList P ops Q rest ((a.put o1.dst (.pointer (some ⟨w.heap.size, 0, none⟩))).put o2.dst undef) w1) :
    wpList P ops Q (o1 :: o2 :: rest) a w :=
  wpL_new hg1 hg2 T ho1 x y ho2 cs zs hi hz h1 hx hy (h _ (heap_alloc_last w _) ((Below.refl _ _).alloc (Nat.le_refl _) _))
theorem bodyPost_cell1 {P : Program} {fn : Func} {R : Ending → World → Prop} {a : Act} {w : World} {t4 : Tmp} {T : TypeId} {g : Nat} {cs : List Value} {d : TypeDesc}
    (h : fn.results = #[.cell t4 T]) (hp : a.tmps.getD t4 undef = .pointer (some ⟨g, 0, none⟩)) (hc : w.rangeAt g 0 cs) (hu : P.underlying T = some d) (hd : d.isRow = true) (hi : (P.info? T).map (·.size) = some cs.length)
    (hdf : a.defers = []) (hR : R (.returned (.agg cs.toArray)) w) : bodyPost P fn R .ret a w := by
  refine bodyPost_ret ?_ hdf hR
  have hp' : a.tmps[t4]?.getD undef = .pointer (some ⟨g, 0, none⟩) := by simpa using hp
  simp [results, h, hp', asAddr, run_loadVar_mid w g 0 T cs d hc hu hd hi]
theorem bodyPost_cell1x {P : Program} {fn : Func} {R : Ending → World → Prop} {a : Act} {w : World} {t1 t2 t4 : Tmp} {T : TypeId} {g : Nat} {cs : List Value} {d : TypeDesc}
    (h : fn.results = #[.cell t4 T, .tmp t1, .tmp t2]) (hp : a.tmps.getD t4 undef = .pointer (some ⟨g, 0, none⟩)) (hc : w.rangeAt g 0 cs) (hu : P.underlying T = some d) (hd : d.isRow = true) (hi : (P.info? T).map (·.size) = some cs.length)
    (hdf : a.defers = []) (hR : R (.returned (.tuple #[.agg cs.toArray, a.tmps.getD t1 undef, a.tmps.getD t2 undef])) w) : bodyPost P fn R .ret a w := by
  refine bodyPost_ret ?_ hdf hR
  have hp' : a.tmps[t4]?.getD undef = .pointer (some ⟨g, 0, none⟩) := by simpa using hp
  simp [results, h, hp', asAddr, run_loadVar_mid w g 0 T cs d hc hu hd hi]
theorem frz {w : World} {g : Nat} {cs : Array Value} {T : TypeId} (h : w.heap[g]? = some (.cells cs T (0, 0))) (j : Nat) : w.frozen? ⟨g, j, none⟩ = false := by
  simp [World.frozen?, h]
theorem cells11 {w : World} {g : Nat} {c0 c1 c2 c3 c4 c5 c6 c7 c8 c9 c10 : Value} {T : TypeId} {fz : Nat × Nat} (h : w.heap[g]? = some (.cells #[c0, c1, c2, c3, c4, c5, c6, c7, c8, c9, c10] T fz)) :
    w.cell? ⟨g, 0, none⟩ = some c0 ∧ w.cell? ⟨g, 1, none⟩ = some c1 ∧ w.cell? ⟨g, 2, none⟩ = some c2 ∧ w.cell? ⟨g, 3, none⟩ = some c3 ∧ w.cell? ⟨g, 4, none⟩ = some c4 ∧ w.cell? ⟨g, 5, none⟩ = some c5 ∧ w.cell? ⟨g, 6, none⟩ = some c6 ∧ w.cell? ⟨g, 7, none⟩ = some c7 ∧ w.cell? ⟨g, 8, none⟩ = some c8 ∧ w.cell? ⟨g, 9, none⟩ = some c9 ∧ w.cell? ⟨g, 10, none⟩ = some c10 := by
  refine ⟨?_, ?_, ?_, ?_, ?_, ?_, ?_, ?_, ?_, ?_, ?_⟩ <;> (rw [cells_get h]; rfl)
theorem set_same {w : World} {a : Addr} {u v : Value} (h : w.cell? a = some u) : (w.setCell a v).cell? a = some v := by
  have := World.cell?_setCell_same w a v (u := u) h
  exact this
theorem set_other {w : World} {g j k : Nat} {v : Value} (h : k ≠ j) : (w.setCell ⟨g, k, none⟩ v).cell? ⟨g, j, none⟩ = w.cell? ⟨g, j, none⟩ := World.cell?_setCell_other w _ _ v (by intro e; cases e; exact h rfl)
theorem block_set {w : World} {g j : Nat} {v : Value} {cs : Array Value} {T : TypeId} {fz : Nat × Nat} (h : w.heap[g]? = some (.cells cs T fz)) : (w.setCell ⟨g, j, none⟩ v).heap[g]? = some (.cells (cs.setIfInBounds j v) T fz) := by
  simp only [World.setCell, Array.getElem?_modify, h]
  simp
theorem block_other {w : World} {g j k : Nat} {v : Value} {ob : Obj} (hne : k ≠ g) (h : w.heap[k]? = some ob) : (w.setCell ⟨g, j, none⟩ v).heap[k]? = some ob := by
  rw [Below.heap_setCell _ _ _ _ hne]
  exact h
theorem range_arr {w : World} {b : Nat} {cs : List Value} {arr : Array Value} {ty : TypeId} {fz : Nat × Nat} (h : w.heap[b]? = some (.cells arr ty fz)) (e : arr = cs.toArray) : w.rangeAt b 0 cs := by
  subst e
  exact range_block h
theorem range11 {w : World} {g : Nat} {c0 c1 c2 c3 c4 c5 c6 c7 c8 c9 c10 : Value} (h0 : w.cell? ⟨g, 0, none⟩ = some c0) (h1 : w.cell? ⟨g, 1, none⟩ = some c1) (h2 : w.cell? ⟨g, 2, none⟩ = some c2) (h3 : w.cell? ⟨g, 3, none⟩ = some c3) (h4 : w.cell? ⟨g, 4, none⟩ = some c4) (h5 : w.cell? ⟨g, 5, none⟩ = some c5)
    (h6 : w.cell? ⟨g, 6, none⟩ = some c6) (h7 : w.cell? ⟨g, 7, none⟩ = some c7) (h8 : w.cell? ⟨g, 8, none⟩ = some c8) (h9 : w.cell? ⟨g, 9, none⟩ = some c9) (h10 : w.cell? ⟨g, 10, none⟩ = some c10) : w.rangeAt g 0 [c0, c1, c2, c3, c4, c5, c6, c7, c8, c9, c10] := by
  intro j v hj
  rw [Nat.zero_add]
  match j with
  | 0 => cases hj; exact h0
  | 1 => cases hj; exact h1
  | 2 => cases hj; exact h2
  | 3 => cases hj; exact h3
  | 4 => cases hj; exact h4
  | 5 => cases hj; exact h5
  | 6 => cases hj; exact h6
  | 7 => cases hj; exact h7
  | 8 => cases hj; exact h8
  | 9 => cases hj; exact h9
  | 10 => cases hj; exact h10
  | j + 11 => simp at hj
/-- a row stored whole into a variable's block -/
theorem wpL_storeRow {P : Program} {ops : Array Oper} {rest : List Oper} {o : Oper} {a : Act} {w : World} {Q : Exit → Act → World → Prop} (hgd : o.guard = none) (ty : TypeId) (x y : Operand) (ho : o.op = .store ty x y)
    (g : Nat) (cs : Array Value) (hx : a.eval x = .pointer (some ⟨g, 0, none⟩)) (hy : a.eval y = .agg cs) {T : TypeId} {old : Array Value} (hg : w.heap[g]? = some (.cells old T (0, 0))) (hi : (P.info? ty).map (·.size) = some cs.size) (hl : old.size = cs.size) (h1 : cs.all (·.oneCell') = true)
    (h : ∀ w1, w1.heap[g]? = some (.cells cs T (0, 0)) → w.grownBy w1 (some g) → wpList P ops Q rest (a.put o.dst undef) w1) : wpList P ops Q (o :: rest) a w :=
  wpList_store_row hgd ty x y ho g cs hx hy T _ hg hi hl h1 (h _ (setRow_heap w g _ _ T _ hg) ⟨rfl, rfl, rfl, by simp [World.setRow], fun k _ hk => setRow_other w g k _ (fun e => hk (by rw [e]))⟩)
end Go.Proofs.Ytgpdlhbndoeldaa
/-
  Laws of single operations by named blocks, without the chapters of blocks (written by program out of Fld .. Fld4, Opt5, PcKit).
-/
namespace Go.Proofs.Ytgpdlhbndoeldaa
open Go.RowKit Go.Sort
set_option linter.unusedVariables false
set_option linter.unusedSimpArgs false

instance {w w' : World} {k : Nat} {ob : Obj} : Ck (w.heap[k]? = some ob) w' w (w'.heap[k]? = some ob) := ⟨fun h hE => (hE.block k (lt_of_block h)).trans h⟩
/-! ### carrying facts over a store into block g -/
theorem cGg {w wd w1 : World} {k g : Nat} {ob : Obj} (h : Hid (w.heap[k]? = some ob)) (hE : Below w.heap.size w wd) (hg : wd.grownBy w1 (some g)) (hne : k ≠ g) : Hid (w1.heap[k]? = some ob) :=
  Lib.hid ((hg.block k (Nat.lt_of_lt_of_le (lt_of_block h.out) hE.size) (fun e => hne (by cases e; rfl))).trans ((hE.block k (lt_of_block h.out)).trans h.out))
theorem cKg {v w wd w1 : World} {g : Nat} (h : Hid (Below v.heap.size v w)) (hE : Below w.heap.size w wd) (hg : wd.grownBy w1 (some g)) (hb : v.heap.size ≤ g) : Hid (Below v.heap.size v w1) :=
  Lib.hid ((h.out.trans (hE.mono h.out.size)).grown hg (Nat.le_trans h.out.size hE.size) (fun k e => by cases e; exact hb))
theorem cOg {w wd w1 : World} {base g : Nat} {e : TypeId} {size : Nat} {ad : Option Addr} {n c : Nat} {xs : List Value} (h : Hid (w.ownsRow base e size (.slice ad n c) n xs)) (hE : Below w.heap.size w wd) (hg : wd.grownBy w1 (some g)) (hb : g < base) : Hid (w1.ownsRow base e size (.slice ad n c) n xs) := by
  have h' := own_keep h.out hE
  refine Lib.hid (h'.kept hg ?_)
  rcases own_form h' with ⟨h0, _⟩ | ⟨g', h1, h2, _⟩
  · rw [h0]; exact .inl rfl
  · rw [h1]
    refine .inr fun e => ?_
    simp [Value.ownBlock] at e
    omega
instance {w w1 : World} {k g : Nat} {ob : Obj} : Cg (w.heap[k]? = some ob) w1 g w (k ≠ g) (w1.heap[k]? = some ob) := ⟨fun wd h hE hg hs => (cGg (Lib.hid h) hE hg hs).out⟩
instance {v w w1 : World} {g : Nat} : Cg (Below v.heap.size v w) w1 g w (v.heap.size ≤ g) (Below v.heap.size v w1) := ⟨fun wd h hE hg hs => (cKg (Lib.hid h) hE hg hs).out⟩
instance {w w1 : World} {base g : Nat} {e : TypeId} {size : Nat} {ad : Option Addr} {n c : Nat} {xs : List Value} : Cg (w.ownsRow base e size (.slice ad n c) n xs) w1 g w (g < base) (w1.ownsRow base e size (.slice ad n c) n xs) := ⟨fun wd h hE hg hs => (cOg (Lib.hid h) hE hg hs).out⟩
/-! ### a variable, boxed -/
theorem wpL_boxG {P : Program} {w : World} {ops : Array Oper} {rest : List Oper} {o : Oper} {a : Act} {Q : Exit → Act → World → Prop} (hgd : Region.wanted o (yielded ops a.tmps) = true) (T : TypeId) (x : Operand) (ho : o.op = .box T x) (cs : Array Value) (hx : (a.eval x).cells = cs)
    (h : ∀ w1 g, Hid (g = w.heap.size) → w.heap.size ≤ g → g < w1.heap.size → w1.heap[g]? = some (.cells cs T (0, 0)) → Below w.heap.size w w1 → wpList P ops Q rest (a.put o.dst (.pointer (some ⟨g, 0, none⟩))) w1) : wpList P ops Q (o :: rest) a w := by
  refine wpL_run hgd (v := .pointer (some ⟨w.heap.size, 0, none⟩)) (w' := w.alloc (.cells cs T)) ?_ (h _ _ (Lib.hid rfl) (Nat.le_refl _) (by simp) (heap_alloc_last w _) ((Below.refl _ _).alloc (Nat.le_refl _) _))
  simp [execOp, ho, Instr.box, newVar, newRow, hx]
theorem wpL_allocG {P : Program} {w : World} {ops : Array Oper} {rest : List Oper} {o : Oper} {a : Act} {Q : Exit → Act → World → Prop} (hgd : Region.wanted o (yielded ops a.tmps) = true) (T : TypeId) (ho : o.op = .alloc T) (z : Value) (zs : Array Value) (n : Nat) (hi : (P.info? T).map (fun i => (i.zero, i.size)) = some (some z, n)) (hz : z.cells = zs)
    (h : ∀ w1 g, Hid (g = w.heap.size) → w.heap.size ≤ g → g < w1.heap.size → w1.heap[g]? = some (.cells zs T (0, 0)) → Below w.heap.size w w1 → wpList P ops Q rest (a.put o.dst (.pointer (some ⟨g, 0, none⟩))) w1) : wpList P ops Q (o :: rest) a w := by
  obtain ⟨hz0, hsz⟩ := zero_of_info hi
  refine wpL_run hgd (v := .pointer (some ⟨w.heap.size, 0, none⟩)) (w' := w.alloc (.cells zs T)) ?_ (h _ _ (Lib.hid rfl) (Nat.le_refl _) (by simp) (heap_alloc_last w _) ((Below.refl _ _).alloc (Nat.le_refl _) _))
  simp [execOp, ho, Instr.alloc, hz0, newVar, newRow, hz]

/-! ### a field, loaded -/
theorem run_loadF {P : Program} {w : World} {g k : Nat} {v : Value} {ty T : TypeId} {fz : Nat × Nat} {d : TypeDesc} {cs : Array Value} (hg : w.heap[g]? = some (.cells cs T fz)) (hk : cs[k]? = some v) (hu : P.underlying ty = some d) (hd : d.isRow = false) :
    (loadVar ty ⟨g, k, none⟩).run P w = .ok v w := by
  have hcell : w.cell? ⟨g, k, none⟩ = some v := by rw [cells_get hg]; simpa using hk
  have hagg : (isAgg ty).run P w = .ok false w := by
    unfold isAgg
    rw [Sem.run_bind, run_underlying hu w]
    cases d <;> simp_all
  simp [loadVar, Sem.run_bind, hagg, load, Sem.run, hcell]
theorem wpL_loadF {P : Program} {ops : Array Oper} {rest : List Oper} {o : Oper} {a : Act} {w : World} {Q : Exit → Act → World → Prop} (hgd : Region.wanted o (yielded ops a.tmps) = true) (ty : TypeId) (x : Operand) (ho : o.op = .load ty x)
    (g k : Nat) (hx : a.eval x = .pointer (some ⟨g, k, none⟩)) (v : Value) {cs : Array Value} {T : TypeId} {fz : Nat × Nat} (hg : w.heap[g]? = some (.cells cs T fz)) (hk : cs[k]? = some v) {d : TypeDesc} (hu : P.underlying ty = some d) (hd : d.isRow = false)
    (h : wpList P ops Q rest (a.put o.dst v) w) : wpList P ops Q (o :: rest) a w := by
  refine wpL_run hgd ?_ h
  unfold execOp
  simp only [ho, hx, Instr.loadAt, Instr.sureAddr, Sem.run_bind, Sem.run_pure, Result.andThen_ok, run_loadF (P := P) hg hk hu hd]
theorem yields_loadF {P : Program} {ops : Array Oper} {S : World → Prop} {o : Oper} {a : Act} (hw : Region.wanted o (yielded ops a.tmps) = true) (ty : TypeId) (x : Operand) (ho : o.op = .load ty x)
    (g k : Nat) (hx : a.eval x = .pointer (some ⟨g, k, none⟩)) (v : Value) {cs : Array Value} {T : TypeId} {fz : Nat × Nat} (hS : ∀ w, S w → w.heap[g]? = some (.cells cs T fz)) (hk : cs[k]? = some v) {d : TypeDesc} (hu : P.underlying ty = some d) (hd : d.isRow = false) : YieldsIf P ops S o v a :=
  .inl ⟨hw, fun w hw' => by
    unfold execOp
    simp only [ho, hx, Instr.loadAt, Instr.sureAddr, Sem.run_bind, Sem.run_pure, Result.andThen_ok, run_loadF (P := P) (hS w hw') hk hu hd]⟩

theorem wpL_index {P : Program} {ops : Array Oper} {rest : List Oper} {o : Oper} {a : Act} {w : World} {Q : Exit → Act → World → Prop} (hgd : Region.wanted o (yielded ops a.tmps) = true) {T : TypeId} (x y : Operand) (ho : o.op = .index T x y)
    (vx vy : Value) (hx : a.eval x = vx) (hy : a.eval y = vy) (v : Value) (hrun : ∀ w, (Instr.index T vx vy).run P w = .ok v w) (h : wpList P ops Q rest (a.put o.dst v) w) : wpList P ops Q (o :: rest) a w := by
  refine wpL_run hgd ?_ h
  unfold execOp
  simp only [ho, hx, hy, Sem.run_bind, hrun, Result.andThen_ok, Sem.run_pure]

theorem all1 (l : List Value) (h : l.all (·.oneCell') = true) : l.toArray.all (·.oneCell') = true := by simpa using h
/-- x[lo:hi], its length and capacity named -/
theorem wpL_sliceG {P : Program} {w : World} {ops : Array Oper} {rest : List Oper} {o : Oper} {a : Act} {Q : Exit → Act → World → Prop} {t e : TypeId} {size bytes : Nat} {z : Value} (el : Elem P t e size bytes z)
    (hg : Region.wanted o (yielded ops a.tmps) = true) (x : Operand) (lo hi : Option Operand) (hop : o.op = Op.slice t x lo hi none) {ad : Option Addr} {n c : Nat} (hx : a.eval x = .slice ad n c) (l h : Nat)
    (hlo : (lo.map a.eval = none ∧ l = 0) ∨ ∃ k, lo.map a.eval = some (.int k (l : Int))) (hhi : (hi.map a.eval = none ∧ h = n) ∨ ∃ k, hi.map a.eval = some (.int k (h : Int))) (hl : l ≤ h) (hh : h ≤ c)
    (m cc : Nat) (hm : h - l = m) (hcc : c - l = cc)
    (hK : ∀ ad', Hid (ad' = subAd ad c l size) → wpList P ops Q rest (a.put o.dst (.slice ad' m cc)) w) : wpList P ops Q (o :: rest) a w := by
  subst hm
  subst hcc
  exact wpL_slice el hg x lo hi hop hx l h hlo hhi hl hh hK
/-- the part of a slice, its length and capacity named -/
theorem set_grown (w : World) (g k : Nat) (v : Value) : w.grownBy (w.setCell ⟨g, k, none⟩ v) (some g) :=
  ⟨rfl, rfl, rfl, by simp [World.setCell], fun j _ hj => Below.heap_setCell _ _ _ _ (fun e => hj (by rw [e]))⟩
theorem run_storeF {P : Program} {w : World} {g k : Nat} {v : Value} {ty T : TypeId} {cs : Array Value} (hg : w.heap[g]? = some (.cells cs T (0, 0))) (hk : k < cs.size) (h1 : v.oneCell' = true) (hi : (P.info? ty).map (·.size) = some 1) :
    (Instr.storeAt ty (.pointer (some ⟨g, k, none⟩)) v).run P w = .ok () (w.setCell ⟨g, k, none⟩ v) := by
  have hc : v.cells = #[v] := by cases v <;> first | rfl | cases h1
  have hcell : w.cell? ⟨g, k, none⟩ = some cs[k] := by rw [cells_get hg]; simp [hk]
  have hz := frz hg k
  have := run_storeCells_cells (P := P) g k [v] 0 w (fun j hj => by
      have : j = 0 := by simpa using hj
      subst this
      simp [hcell]) (fun j hj => by
      have : j = 0 := by simpa using hj
      subst this
      simpa using hz) (fun u hu => by simp at hu; subst hu; exact h1)
  cases hq : P.info? ty with
  | none => simp [hq] at hi
  | some i =>
    have hs : i.size = 1 := by simpa [hq] using hi
    simp only [Nat.add_zero] at this
    simp [Instr.storeAt, Instr.sureAddr, storeVar, sizeOf, typeInfo, hq, hc, hs, this, World.setCells]
theorem wpL_storeF {P : Program} {ops : Array Oper} {rest : List Oper} {o : Oper} {a : Act} {w : World} {Q : Exit → Act → World → Prop} (hgd : o.guard = none) (ty : TypeId) (x y : Operand) (ho : o.op = .store ty x y)
    (g k : Nat) (v : Value) (hx : a.eval x = .pointer (some ⟨g, k, none⟩)) (hy : a.eval y = v) (h1 : v.oneCell' = true) {cs : Array Value} {T : TypeId} (hg : w.heap[g]? = some (.cells cs T (0, 0))) (hk : k < cs.size) (hi : (P.info? ty).map (·.size) = some 1)
    (cs' : Array Value) (he : cs.setIfInBounds k v = cs')
    (h : ∀ w1, w1.heap[g]? = some (.cells cs' T (0, 0)) → w.grownBy w1 (some g) → wpList P ops Q rest (a.put o.dst undef) w1) : wpList P ops Q (o :: rest) a w :=
  wpList_plain hgd fun _ hK => by
    unfold Oper.wp execOp
    simp only [ho, hx, hy, Sem.run_bind, Sem.run_pure, Result.andThen_ok, run_storeF (P := P) hg hk h1 hi]
    exact hK _ _ (h _ (by rw [block_set hg, he]) (set_grown w g k v))
theorem step_storeF {P : Program} {ops : Array Oper} {o : Oper} {a : Act} {w : World} {K : Act → World → Prop} {Q : Exit → Act → World → Prop} {E : Prop} (hgd : o.guard = none) (ty : TypeId) (x y : Operand) (ho : o.op = .store ty x y)
    (g k : Nat) (v : Value) (hx : a.eval x = .pointer (some ⟨g, k, none⟩)) (hy : a.eval y = v) (h1 : v.oneCell' = true) {cs : Array Value} {T : TypeId} (hg : w.heap[g]? = some (.cells cs T (0, 0))) (hk : k < cs.size) (hi : (P.info? ty).map (·.size) = some 1)
    (cs' : Array Value) (he : cs.setIfInBounds k v = cs')
    (h : ∀ w1, w1.heap[g]? = some (.cells cs' T (0, 0)) → w.grownBy w1 (some g) → K (a.put o.dst undef) w1) : if Region.wanted o (yielded ops a.tmps) = true then Oper.wp P o a w K Q else E := by
  rw [if_pos (by simp [Region.wanted, hgd])]
  unfold Oper.wp execOp
  simp only [ho, hx, hy, Sem.run_bind, Sem.run_pure, Result.andThen_ok, run_storeF (P := P) hg hk h1 hi]
  exact h _ (by rw [block_set hg, he]) (set_grown w g k v)
/-- a whole row, stored, in a drawn region -/
theorem step_storeR {P : Program} {ops : Array Oper} {o : Oper} {a : Act} {w : World} {K : Act → World → Prop} {Q : Exit → Act → World → Prop} {E : Prop} (hgd : o.guard = none) (ty : TypeId) (x y : Operand) (ho : o.op = .store ty x y)
    (g : Nat) (cs : Array Value) (hx : a.eval x = .pointer (some ⟨g, 0, none⟩)) (hy : a.eval y = .agg cs) {T : TypeId} {old : Array Value} (hg : w.heap[g]? = some (.cells old T (0, 0))) (hi : (P.info? ty).map (·.size) = some cs.size) (hl : old.size = cs.size) (h1 : cs.all (·.oneCell') = true)
    (h : ∀ w1, w1.heap[g]? = some (.cells cs T (0, 0)) → w.grownBy w1 (some g) → K (a.put o.dst undef) w1) : if Region.wanted o (yielded ops a.tmps) = true then Oper.wp P o a w K Q else E := by
  rw [if_pos (by simp [Region.wanted, hgd])]
  exact wp_store_row ty x y ho g cs hx hy T _ hg hi hl h1 (h _ (setRow_heap w g _ _ T _ hg) ⟨rfl, rfl, rfl, by simp [World.setRow], fun k _ hk => setRow_other w g k _ (fun e => hk (by rw [e]))⟩)
theorem bsz {w a : World} (h : Below w.heap.size w a) : w.heap.size ≤ a.heap.size := h.size
theorem step_loadR {P : Program} {ops : Array Oper} {o : Oper} {a : Act} {w : World} {K : Act → World → Prop} {Q : Exit → Act → World → Prop} {E : Prop} (hgd : o.guard = none) (ty : TypeId) (x : Operand) (ho : o.op = .load ty x)
    (b off : Nat) (hx : a.eval x = .pointer (some ⟨b, off, none⟩)) (cs : List Value) (d : TypeDesc) (hc : w.rangeAt b off cs) (hu : P.underlying ty = some d) (hd : d.isRow = true) (hi : (P.info? ty).map (·.size) = some cs.length)
    (h : K (a.put o.dst (.agg cs.toArray)) w) : if Region.wanted o (yielded ops a.tmps) = true then Oper.wp P o a w K Q else E := by
  rw [if_pos (by simp [Region.wanted, hgd])]
  exact wp_load_mid ty x ho b off hx cs d hc hu hd hi h
/-- all that lay at v is as it was, over an append to a row of the call's own -/
theorem cEa {v w a w' : World} {row : Option Nat} (hE : Hid (Below v.heap.size v w)) (hu : Below w.heap.size w a) (hgr : a.grownBy w' row) (hge : ∀ k, row = some k → v.heap.size ≤ k) : Hid (Below v.heap.size v w') :=
  Lib.hid ((hE.out.trans (hu.mono hE.out.size)).grown hgr (Nat.le_trans hE.out.size hu.size) hge)
theorem cE0 {v w a w' : World} (hE : Hid (Below v.heap.size v w)) (hu : Below w.heap.size w a) (hb : Below a.heap.size a w') : Hid (Below v.heap.size v w') :=
  Lib.hid ((hE.out.trans (hu.mono hE.out.size)).trans (hb.mono (Nat.le_trans hE.out.size hu.size)))
theorem cOa {w a w' : World} {base : Nat} {e : TypeId} {size : Nat} {ad : Option Addr} {n c : Nat} {xs : List Value} (h : Hid (w.ownsRow base e size (.slice ad n c) n xs)) (hu : Below w.heap.size w a) (hb : Below a.heap.size a w') : Hid (w'.ownsRow base e size (.slice ad n c) n xs) := Lib.hid (own_keep (own_keep h.out hu) hb)
theorem cEb {v w a w' : World} (hE : Hid (Below v.heap.size v w)) (hu : Below w.heap.size w a) (hb : Below v.heap.size a w') : Hid (Below v.heap.size v w') :=
  Lib.hid ((hE.out.trans (hu.mono hE.out.size)).trans hb)

theorem step_run2 {P : Program} {ops : Array Oper} {o : Oper} {a : Act} {w w' : World} {K : Act → World → Prop} {Q : Exit → Act → World → Prop} {E : Prop} (hgd : Region.wanted o (yielded ops a.tmps) = true) {v : Value}
    (hrun : (execOp a.eval o).run P w = .ok (.value v) w') (h : K (a.put o.dst v) w') : if Region.wanted o (yielded ops a.tmps) = true then Oper.wp P o a w K Q else E := by
  rw [if_pos hgd]
  unfold Oper.wp
  rw [hrun]
  exact h

theorem bodyPost_cell2 {P : Program} {fn : Func} {R : Ending → World → Prop} {a : Act} {w : World} {t1 t4 : Tmp} {T : TypeId} {g : Nat} {cs : List Value} {d : TypeDesc}
    (h : fn.results = #[.tmp t1, .cell t4 T]) (hp : a.tmps.getD t4 undef = .pointer (some ⟨g, 0, none⟩)) (hc : w.rangeAt g 0 cs) (hu : P.underlying T = some d) (hd : d.isRow = true) (hi : (P.info? T).map (·.size) = some cs.length)
    (hdf : a.defers = []) (hR : R (.returned (.tuple #[a.tmps.getD t1 undef, .agg cs.toArray])) w) : bodyPost P fn R .ret a w := by
  refine bodyPost_ret ?_ hdf hR
  have hp' : a.tmps[t4]?.getD undef = .pointer (some ⟨g, 0, none⟩) := by simpa using hp
  simp [results, h, hp', asAddr, run_loadVar_mid w g 0 T cs d hc hu hd hi]

/-- a spot, in memory -/
def spotC (p : Nat × Int) : List Value := [.int .i64 (p.1 : Int), .int .i64 p.2]
/-- a spot is stored in block g -/
theorem bodyPost_cell3 {P : Program} {fn : Func} {R : Ending → World → Prop} {a : Act} {w : World} {t1 t2 t4 : Tmp} {T : TypeId} {g : Nat} {cs : List Value} {d : TypeDesc}
    (h : fn.results = #[.tmp t1, .tmp t2, .cell t4 T]) (hp : a.tmps.getD t4 undef = .pointer (some ⟨g, 0, none⟩)) (hc : w.rangeAt g 0 cs) (hu : P.underlying T = some d) (hd : d.isRow = true) (hi : (P.info? T).map (·.size) = some cs.length)
    (hdf : a.defers = []) (hR : R (.returned (.tuple #[a.tmps.getD t1 undef, a.tmps.getD t2 undef, .agg cs.toArray])) w) : bodyPost P fn R .ret a w := by
  refine bodyPost_ret ?_ hdf hR
  have hp' : a.tmps[t4]?.getD undef = .pointer (some ⟨g, 0, none⟩) := by simpa using hp
  simp [results, h, hp', asAddr, run_loadVar_mid w g 0 T cs d hc hu hd hi]
theorem bodyPost_cell4 {P : Program} {fn : Func} {R : Ending → World → Prop} {a : Act} {w : World} {t1 t2 t3 t4 : Tmp} {T : TypeId} {g : Nat} {cs : List Value} {d : TypeDesc}
    (h : fn.results = #[.tmp t1, .tmp t2, .tmp t3, .cell t4 T]) (hp : a.tmps.getD t4 undef = .pointer (some ⟨g, 0, none⟩)) (hc : w.rangeAt g 0 cs) (hu : P.underlying T = some d) (hd : d.isRow = true) (hi : (P.info? T).map (·.size) = some cs.length)
    (hdf : a.defers = []) (hR : R (.returned (.tuple #[a.tmps.getD t1 undef, a.tmps.getD t2 undef, a.tmps.getD t3 undef, .agg cs.toArray])) w) : bodyPost P fn R .ret a w := by
  refine bodyPost_ret ?_ hdf hR
  have hp' : a.tmps[t4]?.getD undef = .pointer (some ⟨g, 0, none⟩) := by simpa using hp
  simp [results, h, hp', asAddr, run_loadVar_mid w g 0 T cs d hc hu hd hi]
theorem bodyPost_cellx1 {P : Program} {fn : Func} {R : Ending → World → Prop} {a : Act} {w : World} {t1 t4 : Tmp} {T : TypeId} {g : Nat} {cs : List Value} {d : TypeDesc}
    (h : fn.results = #[.cell t4 T, .tmp t1]) (hp : a.tmps.getD t4 undef = .pointer (some ⟨g, 0, none⟩)) (hc : w.rangeAt g 0 cs) (hu : P.underlying T = some d) (hd : d.isRow = true) (hi : (P.info? T).map (·.size) = some cs.length)
    (hdf : a.defers = []) (hR : R (.returned (.tuple #[.agg cs.toArray, a.tmps.getD t1 undef])) w) : bodyPost P fn R .ret a w := by
  refine bodyPost_ret ?_ hdf hR
  have hp' : a.tmps[t4]?.getD undef = .pointer (some ⟨g, 0, none⟩) := by simpa using hp
  simp [results, h, hp', asAddr, run_loadVar_mid w g 0 T cs d hc hu hd hi]
theorem step_allocG {P : Program} {w : World} {ops : Array Oper} {o : Oper} {a : Act} {Q : Exit → Act → World → Prop} {K : Act → World → Prop} {E : Prop} (hgd : Region.wanted o (yielded ops a.tmps) = true) (T : TypeId) (ho : o.op = .alloc T) (z : Value) (zs : Array Value) (n : Nat) (hi : (P.info? T).map (fun i => (i.zero, i.size)) = some (some z, n)) (hz : z.cells = zs)
    (h : ∀ w1 g, w.heap.size ≤ g → g < w1.heap.size → w1.heap[g]? = some (.cells zs T (0, 0)) → Below w.heap.size w w1 → K (a.put o.dst (.pointer (some ⟨g, 0, none⟩))) w1) :
    if Region.wanted o (yielded ops a.tmps) = true then Oper.wp P o a w K Q else E := by
  obtain ⟨hz0, hsz⟩ := zero_of_info hi
  refine step_run2 hgd (v := .pointer (some ⟨w.heap.size, 0, none⟩)) (w' := w.alloc (.cells zs T)) ?_ (h _ _ (Nat.le_refl _) (by simp) (heap_alloc_last w _) ((Below.refl _ _).alloc (Nat.le_refl _) _))
  simp [execOp, ho, Instr.alloc, hz0, newVar, newRow, hz]
theorem step_boxG {P : Program} {w : World} {ops : Array Oper} {o : Oper} {a : Act} {Q : Exit → Act → World → Prop} {K : Act → World → Prop} {E : Prop} (hgd : Region.wanted o (yielded ops a.tmps) = true) (T : TypeId) (x : Operand) (ho : o.op = .box T x) (cs : Array Value) (hx : (a.eval x).cells = cs)
    (h : ∀ w1 g, w.heap.size ≤ g → g < w1.heap.size → w1.heap[g]? = some (.cells cs T (0, 0)) → Below w.heap.size w w1 → K (a.put o.dst (.pointer (some ⟨g, 0, none⟩))) w1) :
    if Region.wanted o (yielded ops a.tmps) = true then Oper.wp P o a w K Q else E := by
  refine step_run2 hgd (v := .pointer (some ⟨w.heap.size, 0, none⟩)) (w' := w.alloc (.cells cs T)) ?_ (h _ _ (Nat.le_refl _) (by simp) (heap_alloc_last w _) ((Below.refl _ _).alloc (Nat.le_refl _) _))
  simp [execOp, ho, Instr.box, newVar, newRow, hx]
theorem step_makeG {P : Program} {w : World} {ops : Array Oper} {o : Oper} {a : Act} {Q : Exit → Act → World → Prop} {K : Act → World → Prop} {E : Prop} {t e : TypeId} {size bytes : Nat} {z : Value} (el : Elem P t e size bytes z) (hgd : Region.wanted o (yielded ops a.tmps) = true) (l c : Operand) (ho : o.op = .makeSlice t l c) (n : Nat) (hl : a.eval l = .int .i64 (n : Int)) (hc : a.eval c = .int .i64 (n : Int))
    (b2 : bytes * n ≤ 281474976710656) (b3 : n ≤ 9223372036854775807)
    (h : ∀ w1 g, w.heap.size ≤ g → g < w1.heap.size → w1.heap[g]? = some (.cells (madeCells z.cells (n * size)) e (0, 0)) → Below w.heap.size w w1 → K (a.put o.dst (.slice (some ⟨g, 0, none⟩) n n)) w1) :
    if Region.wanted o (yielded ops a.tmps) = true then Oper.wp P o a w K Q else E := by
  obtain ⟨i, hi, hz, hsize, hby⟩ := info_parts el.info
  have hr := run_make (P := P) w t e i z el.ht hi hz .i64 .i64 n n (by omega) (Int.le_refl _) (by rw [hby, ← Int.natCast_mul]; omega) (by omega)
  simp only [Int.toNat_natCast] at hr
  rw [hsize] at hr
  refine step_run2 hgd (v := .slice (some ⟨w.heap.size, 0, none⟩) n n) (w' := w.alloc (.cells (madeCells z.cells (n * size)) e)) ?_ (h _ _ (Nat.le_refl _) (by simp) (heap_alloc_last w _) ((Below.refl _ _).alloc (Nat.le_refl _) _))
  simp [execOp, ho, hl, hc, hr, Result.andThen]
end Go.Proofs.Ytgpdlhbndoeldaa
/-
  Chapter 21: which tuples may be a flow's, which names are: walked.
-/
namespace Go.Proofs.Ytgpdlhbndoeldaa
open Go.RowKit Go.Sort
set_option linter.unusedVariables false
set_option linter.unusedSimpArgs false
set_option maxRecDepth 100000

theorem range_sub {w : World} {b off : Nat} {cs sub : List Value} {ty : TypeId} {fz : Nat × Nat} (h : w.heap[b]? = some (.cells cs.toArray ty fz)) (hs : ∀ j, j < sub.length → cs[off + j]? = sub[j]?) : w.rangeAt b off sub :=
  fun j v hv => by rw [cells_get h, hs j (List.getElem?_eq_some_iff.1 hv).1, hv]
theorem nz_any (c : Int) (b : Bool) (hb : (c != 0) = b) (w : World) : Calls Try.prog 59 #[.int .u8 c] w fun e w' => e = .returned (.bool b) ∧ w = w' := by
  subst hb
  go_enter Try.func59, Try.ntmps59
  go_wp2_with fail
  go_ret
  exact ⟨rfl, rfl⟩
def idxN : List UInt8 → Nat → Int
  | [], _ => -1
  | c :: l, k => if c ≠ 0 then (k : Int) else idxN l (k + 1)
theorem idxN_neg (l : List UInt8) (k : Nat) : decide (idxN l k ≥ 0) = !(l.all (· == 0)) := by
  induction l generalizing k with
  | nil => rfl
  | cons c l ih =>
    unfold idxN
    by_cases h : c = 0
    · subst h; simp; simpa using ih (k + 1)
    · rw [if_pos h]; simp [h]
theorem index_any (ad : Option Addr) (n c : Nat) (l : List UInt8) (w : World) (hs : Bs w ad n c l) :
    Calls Try.prog 75 #[.slice ad n c, .func (.func 59) #[] #[]] w fun e w' => e = .returned (.int .i64 (idxN l 0)) ∧ w = w' := by
  obtain rfl : n = l.length := by have := hs.len; omega
  have hm : l.length ≤ maxLen := Nat.le_trans hs.2.1 hs.2.2.1
  simp only [maxLen] at hm
  have HS := Lib.hid hs
  have hcap := hs.2.1
  obtain ⟨R, hR⟩ : ∃ R, R = idxN l 0 := ⟨_, rfl⟩
  rw [← hR]
  have HR := Lib.hid hR
  clear hs hR
  go_enter Try.func75, Try.ntmps75
  go_wp2_with fail
  go_loop [8] (fun i => ∃ k : Nat, k ≤ l.length ∧ i = .int .i64 k ∧ Hid (R = idxN (l.drop k) k)) (fun i => l.length + 1 - (intOf i).toNat)
  case atStart => exact ⟨0, Nat.zero_le _, rfl, Lib.hid (by rw [List.drop_zero]; exact HR.out)⟩
  case round =>
    obtain ⟨k, hk, rfl, hrk⟩ := hrel
    by_cases hlt : (k : Int) < l.length
    · have hkl : k < l.length := by omega
      have hdr : l.drop k = l[k] :: l.drop (k + 1) := List.drop_eq_getElem_cons hkl
      obtain ⟨cb, hcb⟩ : ∃ cb, cb = l[k] := ⟨_, rfl⟩
      rw [← hcb] at hdr
      obtain ⟨b, off, rfl, hbw, hcell⟩ := HS.out.at (j := k) hkl
      have hck := hcell k hkl
      rw [at8_get l k hkl, ← hcb] at hck
      have HD := Lib.hid hdr
      clear hcell hdr hcb
      by_cases hz : cb = 0
      · subst hz
        go_wp2_with (go_at_call 59; refine (nz_any _ false rfl _).mono ?_; rintro e w' ⟨rfl, rfl⟩)
        go_round
        case rel => exact ⟨k + 1, by omega, by go_num, Lib.hid (by rw [hrk.out, HD.out]; rfl)⟩
        case measure => simp [intOf]; omega
      · have hb : ((cb.toNat : Int) != 0) = true := by
          have : cb.toNat ≠ 0 := fun h => hz (UInt8.toNat_inj.1 (by rw [h]; rfl))
          simp; omega
        have HRR : Hid (R = (k : Int)) := Lib.hid (by rw [hrk.out, HD.out]; unfold idxN; rw [if_pos hz])
        clear hrk
        have HB := Lib.hid hb
        clear hb
        go_wp2_with (go_at_call 59; refine (nz_any _ true HB.out _).mono ?_; rintro e w' ⟨rfl, rfl⟩)
        go_ret
        rw [HRR.out]
        exact ⟨rfl, rfl⟩
    · obtain rfl : k = l.length := by omega
      have HRR : Hid (R = -1) := Lib.hid (by rw [hrk.out, List.drop_length]; rfl)
      clear hrk
      go_wp2_with fail
      go_ret
      rw [HRR.out]
      exact ⟨rfl, rfl⟩
theorem contains_any (ad : Option Addr) (n c : Nat) (l : List UInt8) (w : World) (hs : Bs w ad n c l) (b : Bool) (hb : (l.all (· == 0)) = b) :
    Calls Try.prog 58 #[.slice ad n c, .func (.func 59) #[] #[]] w fun e w' => e = .returned (.bool (!b)) ∧ w = w' := by
  have hi := idxN_neg l 0
  rw [hb] at hi
  obtain ⟨R, hR⟩ : ∃ R, R = idxN l 0 := ⟨_, rfl⟩
  rw [← hR] at hi
  have HS := Lib.hid hs
  have HR := Lib.hid hR
  clear hs hR hb
  go_enter Try.func58, Try.ntmps58
  go_wp2_with (go_at_call 75; refine (index_any _ _ _ _ _ HS.out).mono ?_; rw [← HR.out]; rintro e w' ⟨rfl, rfl⟩)
  go_ret
  exact ⟨by simp, rfl⟩
/-- an address's cells -/
def addrC (six : Bool) (b : List UInt8) : List Value := .bool six :: BV b
theorem addr_bs {w : World} {g : Nat} {six : Bool} {b : List UInt8} {T : TypeId} {fz : Nat × Nat} (h : w.heap[g]? = some (.cells (addrC six b).toArray T fz)) (hb : b.length = 16) : Bs w (some ⟨g, 5, none⟩) 12 12 (b.drop 4) :=
  ⟨by rw [BV_length, List.length_drop, hb], Nat.le_refl _, by simp [maxLen], by simp, fun j u hj => ⟨_, rfl, by
    rw [addr_add, cells_get h, ← hj, show 5 + j = (4 + j) + 1 by omega, addrC, List.getElem?_cons_succ]
    simp [BV, List.map_drop]⟩⟩
theorem fits_any (six : Bool) (b : List UInt8) (hb : b.length = 16) (w : World) :
    Calls Try.prog 47 #[.agg (addrC six b).toArray] w fun e w' => e = .returned (.bool (fitsB six b)) ∧ Below w.heap.size w w' := by
  have HB := Lib.hid (Below.refl w.heap.size w)
  have HL := Lib.hid hb
  clear hb
  cases six with
  | true =>
    go_enter Try.func47, Try.ntmps47
    go_wp2_with (first
      | ((with_reducible refine sl 1 ?_); go_must (refine wpL_boxG rfl 24 (.tmp 0) rfl (addrC true b).toArray rfl ?_); intro w1 g he__ le_g lt_g hg__ hb__; have HG := Lib.hid hg__; have hE__ := cU HB bup hb__; replace HB := ck HB hE__; clear hE__; clear hg__ hb__ he__; simp only [PT])
      | ((with_reducible refine sl 4 ?_); go_must (refine wpL_loadF rfl 4 (.tmp 3) rfl g 0 rfl (.bool true) HG.out rfl Try.underlying4 rfl ?_); simp only [PT]))
    go_ret
    exact ⟨rfl, HB.out⟩
  | false =>
    obtain ⟨B, hB⟩ : ∃ B, B = (b.drop 4).all (· == 0) := ⟨_, rfl⟩
    have HBB := Lib.hid hB
    have HR : Hid (fitsB false b = B) := Lib.hid (by rw [hB]; rfl)
    clear hB
    go_enter Try.func47, Try.ntmps47
    go_wp2_with (first
      | ((with_reducible refine sl 1 ?_); go_must (refine wpL_boxG rfl 24 (.tmp 0) rfl (addrC false b).toArray rfl ?_); intro w1 g he__ le_g lt_g hg__ hb__; have HG := Lib.hid hg__; have hE__ := cU HB bup hb__; replace HB := ck HB hE__; clear hE__; clear hg__ hb__ he__; simp only [PT])
      | ((with_reducible refine sl 4 ?_); go_must (refine wpL_loadF rfl 4 (.tmp 3) rfl g 0 rfl (.bool false) HG.out rfl Try.underlying4 rfl ?_); simp only [PT])
      | (go_at_call 58; refine (contains_any _ _ _ (b.drop 4) _ (addr_bs HG.out HL.out) B HBB.out.symm).mono ?_; rintro e w' ⟨rfl, rfl⟩))
    go_ret
    rw [HR.out]
    exact ⟨by simp, HB.out⟩
end Go.Proofs.Ytgpdlhbndoeldaa
/-
  Chapter 21: which tuples may be a flow's, which names, which flows are right: walked (written by gen/flo3.py).
-/
namespace Go.Proofs.Ytgpdlhbndoeldaa
open Go.RowKit Go.Sort
set_option linter.unusedVariables false
set_option linter.unusedSimpArgs false
set_option maxRecDepth 100000
set_option maxHeartbeats 4000000

theorem Tup.geta {t : Tup} (h : t.ok) : t.cells.toArray[0]? = some (.bool t.s6) ∧ t.cells.toArray[17]? = some (.bool t.d6) ∧ t.cells.toArray[34]? = some (.int .i64 t.proto) ∧ t.cells.toArray[35]? = some (.int .i64 t.sport) ∧ t.cells.toArray[36]? = some (.int .i64 t.dport) := by
  obtain ⟨h0, h1, h2, h3, h4, _, _⟩ := Tup.get h
  refine ⟨?_, ?_, ?_, ?_, ?_⟩ <;> rw [List.getElem?_toArray] <;> assumption
theorem addrC_length {six : Bool} {b : List UInt8} (hb : b.length = 16) : (addrC six b).length = 17 := by simp [addrC, BV_length, hb]
theorem Tup.src {t : Tup} (h : t.ok) : ∀ j, j < (addrC t.s6 t.sb).length → t.cells[0 + j]? = (addrC t.s6 t.sb)[j]? := by
  intro j hj
  rw [addrC_length h.1] at hj
  rw [Nat.zero_add]
  have e : t.cells = addrC t.s6 t.sb ++ (.bool t.d6 :: (BV t.db ++ [.int .i64 t.proto, .int .i64 t.sport, .int .i64 t.dport])) := by simp [Tup.cells, addrC]
  rw [e, List.getElem?_append_left (by rw [addrC_length h.1]; exact hj)]
theorem Tup.dst {t : Tup} (h : t.ok) : ∀ j, j < (addrC t.d6 t.db).length → t.cells[17 + j]? = (addrC t.d6 t.db)[j]? := by
  intro j hj
  rw [addrC_length h.2] at hj
  have e : t.cells = addrC t.s6 t.sb ++ (addrC t.d6 t.db ++ [.int .i64 t.proto, .int .i64 t.sport, .int .i64 t.dport]) := by simp [Tup.cells, addrC]
  rw [e, List.getElem?_append_right (by rw [addrC_length h.1]; omega), addrC_length h.1, List.getElem?_append_left (by rw [addrC_length h.2]; omega), show 17 + j - 17 = j by omega]
theorem Flo.geta {f : Flo} (h : f.ok) : f.cells.toArray[37]? = some (.string f.name) ∧ f.cells.toArray[38]? = some (.int .i64 f.state) ∧ f.cells.toArray[39]? = some (.int .i64 f.seen) ∧ f.cells.toArray[40]? = some (.int .i64 f.no) := by
  obtain ⟨_, h1, h2, h3, h4⟩ := Flo.get h
  refine ⟨?_, ?_, ?_, ?_⟩ <;> rw [List.getElem?_toArray] <;> assumption
theorem Flo.tup {f : Flo} (h : f.ok) : ∀ j, j < f.key.cells.length → f.cells[0 + j]? = f.key.cells[j]? := by
  intro j hj
  rw [Nat.zero_add]
  exact (Flo.get h).1 j (by rw [Tup.length h.1] at hj; exact hj)
/-- a fact's two ways -/
theorem two (b : Bool) : b = true ∨ b = false := by cases b <;> simp

theorem known_any (t : Tup) (ho : t.ok) (w : World) :
    Calls Try.prog 32 #[.agg t.cells.toArray] w fun e w' => e = .returned (.bool (knownT t)) ∧ Below w.heap.size w w' := by
  have HB := Lib.hid (Below.refl w.heap.size w)
  have HA := Lib.hid (Tup.geta ho)
  have HS := Lib.hid (Tup.src ho)
  have HD := Lib.hid (Tup.dst ho)
  have HL := Lib.hid ho
  have HI1 : Hid ((Try.prog.info? 24).map (·.size) = some (addrC t.s6 t.sb).length) := Lib.hid (by rw [addrC_length ho.1]; exact addr_size)
  have HI2 : Hid ((Try.prog.info? 24).map (·.size) = some (addrC t.d6 t.db).length) := Lib.hid (by rw [addrC_length ho.2]; exact addr_size)
  obtain ⟨R, hR⟩ : ∃ R, R = knownT t := ⟨_, rfl⟩
  rw [← hR]
  unfold knownT at hR
  clear ho
  go_enter Try.func32, Try.ntmps32
  rcases two ((t.s6 == t.d6)) with h0 | h0
  rotate_left
  · have HR : Hid (R = false) := Lib.hid (by rw [hR]; simp only [h0, Bool.and_false, Bool.false_and, Bool.true_and])
    clear hR
    go_wp2_with (first
      | ((with_reducible refine sl 1 ?_); go_must (refine wpL_boxG rfl 26 (.tmp 0) rfl t.cells.toArray rfl ?_); intro w1 g he__ le_g lt_g hg__ hb__; have HG := Lib.hid hg__; have hE__ := cU HB bup hb__; replace HB := ck HB hE__; clear hE__; clear hg__ hb__ he__; simp only [PT])
      | ((with_reducible refine sl 5 ?_); go_must (refine wpL_loadF rfl 4 (.tmp 4) rfl g 0 rfl (.bool t.s6) HG.out HA.out.1 Try.underlying4 rfl ?_); simp only [PT])
      | ((with_reducible refine sl 8 ?_); go_must (refine wpL_loadF rfl 4 (.tmp 7) rfl g 17 rfl (.bool t.d6) HG.out HA.out.2.1 Try.underlying4 rfl ?_); simp only [PT])
      | ((with_reducible refine sl 12 ?_); refine wpL_load rfl 24 (.tmp 11) rfl g 0 rfl (addrC t.s6 t.sb) _ (range_sub HG.out HS.out) Try.underlying24 rfl HI1.out ?_; simp only [PT])
      | ((with_reducible refine sl 17 ?_); refine wpL_load rfl 24 (.tmp 16) rfl g 17 rfl (addrC t.d6 t.db) _ (range_sub HG.out HD.out) Try.underlying24 rfl HI2.out ?_; simp only [PT])
      | (go_at_call 47; (with_reducible show Calls _ _ #[.agg (addrC t.s6 t.sb).toArray] _ _); refine (fits_any t.s6 t.sb HL.out.1 _).mono ?_; rintro e w2 ⟨rfl, hb2⟩; have hE__ := cU HB bup hb2; replace HB := ck HB hE__; replace HG := ck HG hE__; clear hE__; clear hb2)
      | (go_at_call 47; (with_reducible show Calls _ _ #[.agg (addrC t.d6 t.db).toArray] _ _); refine (fits_any t.d6 t.db HL.out.2 _).mono ?_; rintro e w3 ⟨rfl, hb3⟩; have hE__ := cU HB bup hb3; replace HB := ck HB hE__; replace HG := ck HG hE__; clear hE__; clear hb3)
      | ((with_reducible refine sl 22 ?_); refine wpL_loadF rfl 3 (.tmp 21) rfl g 34 rfl (.int .i64 t.proto) HG.out HA.out.2.2.1 Try.underlying3 rfl ?_; simp only [PT])
      | ((with_reducible refine sl 27 ?_); refine wpL_loadF rfl 3 (.tmp 26) rfl g 34 rfl (.int .i64 t.proto) HG.out HA.out.2.2.1 Try.underlying3 rfl ?_; simp only [PT])
      | ((with_reducible refine sl 32 ?_); refine wpL_loadF rfl 3 (.tmp 31) rfl g 35 rfl (.int .i64 t.sport) HG.out HA.out.2.2.2.1 Try.underlying3 rfl ?_; simp only [PT])
      | ((with_reducible refine sl 37 ?_); refine wpL_loadF rfl 3 (.tmp 36) rfl g 35 rfl (.int .i64 t.sport) HG.out HA.out.2.2.2.1 Try.underlying3 rfl ?_; simp only [PT])
      | ((with_reducible refine sl 42 ?_); refine wpL_loadF rfl 3 (.tmp 41) rfl g 36 rfl (.int .i64 t.dport) HG.out HA.out.2.2.2.2 Try.underlying3 rfl ?_; simp only [PT])
      | ((with_reducible refine sl 47 ?_); refine wpL_loadF rfl 3 (.tmp 46) rfl g 36 rfl (.int .i64 t.dport) HG.out HA.out.2.2.2.2 Try.underlying3 rfl ?_; simp only [PT]))
    go_ret
    rw [HR.out]
    exact ⟨rfl, HB.out⟩
  rcases two (fitsB t.s6 t.sb) with h1 | h1
  rotate_left
  · have HR : Hid (R = false) := Lib.hid (by rw [hR]; simp only [h0, h1, Bool.and_false, Bool.false_and, Bool.true_and])
    clear hR
    go_wp2_with (first
      | ((with_reducible refine sl 1 ?_); go_must (refine wpL_boxG rfl 26 (.tmp 0) rfl t.cells.toArray rfl ?_); intro w1 g he__ le_g lt_g hg__ hb__; have HG := Lib.hid hg__; have hE__ := cU HB bup hb__; replace HB := ck HB hE__; clear hE__; clear hg__ hb__ he__; simp only [PT])
      | ((with_reducible refine sl 5 ?_); go_must (refine wpL_loadF rfl 4 (.tmp 4) rfl g 0 rfl (.bool t.s6) HG.out HA.out.1 Try.underlying4 rfl ?_); simp only [PT])
      | ((with_reducible refine sl 8 ?_); go_must (refine wpL_loadF rfl 4 (.tmp 7) rfl g 17 rfl (.bool t.d6) HG.out HA.out.2.1 Try.underlying4 rfl ?_); simp only [PT])
      | ((with_reducible refine sl 12 ?_); refine wpL_load rfl 24 (.tmp 11) rfl g 0 rfl (addrC t.s6 t.sb) _ (range_sub HG.out HS.out) Try.underlying24 rfl HI1.out ?_; simp only [PT])
      | ((with_reducible refine sl 17 ?_); refine wpL_load rfl 24 (.tmp 16) rfl g 17 rfl (addrC t.d6 t.db) _ (range_sub HG.out HD.out) Try.underlying24 rfl HI2.out ?_; simp only [PT])
      | (go_at_call 47; (with_reducible show Calls _ _ #[.agg (addrC t.s6 t.sb).toArray] _ _); refine (fits_any t.s6 t.sb HL.out.1 _).mono ?_; rintro e w2 ⟨rfl, hb2⟩; have hE__ := cU HB bup hb2; replace HB := ck HB hE__; replace HG := ck HG hE__; clear hE__; clear hb2)
      | (go_at_call 47; (with_reducible show Calls _ _ #[.agg (addrC t.d6 t.db).toArray] _ _); refine (fits_any t.d6 t.db HL.out.2 _).mono ?_; rintro e w3 ⟨rfl, hb3⟩; have hE__ := cU HB bup hb3; replace HB := ck HB hE__; replace HG := ck HG hE__; clear hE__; clear hb3)
      | ((with_reducible refine sl 22 ?_); refine wpL_loadF rfl 3 (.tmp 21) rfl g 34 rfl (.int .i64 t.proto) HG.out HA.out.2.2.1 Try.underlying3 rfl ?_; simp only [PT])
      | ((with_reducible refine sl 27 ?_); refine wpL_loadF rfl 3 (.tmp 26) rfl g 34 rfl (.int .i64 t.proto) HG.out HA.out.2.2.1 Try.underlying3 rfl ?_; simp only [PT])
      | ((with_reducible refine sl 32 ?_); refine wpL_loadF rfl 3 (.tmp 31) rfl g 35 rfl (.int .i64 t.sport) HG.out HA.out.2.2.2.1 Try.underlying3 rfl ?_; simp only [PT])
      | ((with_reducible refine sl 37 ?_); refine wpL_loadF rfl 3 (.tmp 36) rfl g 35 rfl (.int .i64 t.sport) HG.out HA.out.2.2.2.1 Try.underlying3 rfl ?_; simp only [PT])
      | ((with_reducible refine sl 42 ?_); refine wpL_loadF rfl 3 (.tmp 41) rfl g 36 rfl (.int .i64 t.dport) HG.out HA.out.2.2.2.2 Try.underlying3 rfl ?_; simp only [PT])
      | ((with_reducible refine sl 47 ?_); refine wpL_loadF rfl 3 (.tmp 46) rfl g 36 rfl (.int .i64 t.dport) HG.out HA.out.2.2.2.2 Try.underlying3 rfl ?_; simp only [PT]))
    go_ret
    rw [HR.out]
    exact ⟨rfl, HB.out⟩
  rcases two (fitsB t.d6 t.db) with h2 | h2
  rotate_left
  · have HR : Hid (R = false) := Lib.hid (by rw [hR]; simp only [h0, h1, h2, Bool.and_false, Bool.false_and, Bool.true_and])
    clear hR
    go_wp2_with (first
      | ((with_reducible refine sl 1 ?_); go_must (refine wpL_boxG rfl 26 (.tmp 0) rfl t.cells.toArray rfl ?_); intro w1 g he__ le_g lt_g hg__ hb__; have HG := Lib.hid hg__; have hE__ := cU HB bup hb__; replace HB := ck HB hE__; clear hE__; clear hg__ hb__ he__; simp only [PT])
      | ((with_reducible refine sl 5 ?_); go_must (refine wpL_loadF rfl 4 (.tmp 4) rfl g 0 rfl (.bool t.s6) HG.out HA.out.1 Try.underlying4 rfl ?_); simp only [PT])
      | ((with_reducible refine sl 8 ?_); go_must (refine wpL_loadF rfl 4 (.tmp 7) rfl g 17 rfl (.bool t.d6) HG.out HA.out.2.1 Try.underlying4 rfl ?_); simp only [PT])
      | ((with_reducible refine sl 12 ?_); refine wpL_load rfl 24 (.tmp 11) rfl g 0 rfl (addrC t.s6 t.sb) _ (range_sub HG.out HS.out) Try.underlying24 rfl HI1.out ?_; simp only [PT])
      | ((with_reducible refine sl 17 ?_); refine wpL_load rfl 24 (.tmp 16) rfl g 17 rfl (addrC t.d6 t.db) _ (range_sub HG.out HD.out) Try.underlying24 rfl HI2.out ?_; simp only [PT])
      | (go_at_call 47; (with_reducible show Calls _ _ #[.agg (addrC t.s6 t.sb).toArray] _ _); refine (fits_any t.s6 t.sb HL.out.1 _).mono ?_; rintro e w2 ⟨rfl, hb2⟩; have hE__ := cU HB bup hb2; replace HB := ck HB hE__; replace HG := ck HG hE__; clear hE__; clear hb2)
      | (go_at_call 47; (with_reducible show Calls _ _ #[.agg (addrC t.d6 t.db).toArray] _ _); refine (fits_any t.d6 t.db HL.out.2 _).mono ?_; rintro e w3 ⟨rfl, hb3⟩; have hE__ := cU HB bup hb3; replace HB := ck HB hE__; replace HG := ck HG hE__; clear hE__; clear hb3)
      | ((with_reducible refine sl 22 ?_); refine wpL_loadF rfl 3 (.tmp 21) rfl g 34 rfl (.int .i64 t.proto) HG.out HA.out.2.2.1 Try.underlying3 rfl ?_; simp only [PT])
      | ((with_reducible refine sl 27 ?_); refine wpL_loadF rfl 3 (.tmp 26) rfl g 34 rfl (.int .i64 t.proto) HG.out HA.out.2.2.1 Try.underlying3 rfl ?_; simp only [PT])
      | ((with_reducible refine sl 32 ?_); refine wpL_loadF rfl 3 (.tmp 31) rfl g 35 rfl (.int .i64 t.sport) HG.out HA.out.2.2.2.1 Try.underlying3 rfl ?_; simp only [PT])
      | ((with_reducible refine sl 37 ?_); refine wpL_loadF rfl 3 (.tmp 36) rfl g 35 rfl (.int .i64 t.sport) HG.out HA.out.2.2.2.1 Try.underlying3 rfl ?_; simp only [PT])
      | ((with_reducible refine sl 42 ?_); refine wpL_loadF rfl 3 (.tmp 41) rfl g 36 rfl (.int .i64 t.dport) HG.out HA.out.2.2.2.2 Try.underlying3 rfl ?_; simp only [PT])
      | ((with_reducible refine sl 47 ?_); refine wpL_loadF rfl 3 (.tmp 46) rfl g 36 rfl (.int .i64 t.dport) HG.out HA.out.2.2.2.2 Try.underlying3 rfl ?_; simp only [PT]))
    go_ret
    rw [HR.out]
    exact ⟨rfl, HB.out⟩
  rcases two (decide (0 ≤ t.proto)) with h3 | h3
  rotate_left
  · have HR : Hid (R = false) := Lib.hid (by rw [hR]; simp only [h0, h1, h2, h3, Bool.and_false, Bool.false_and, Bool.true_and])
    clear hR
    go_wp2_with (first
      | ((with_reducible refine sl 1 ?_); go_must (refine wpL_boxG rfl 26 (.tmp 0) rfl t.cells.toArray rfl ?_); intro w1 g he__ le_g lt_g hg__ hb__; have HG := Lib.hid hg__; have hE__ := cU HB bup hb__; replace HB := ck HB hE__; clear hE__; clear hg__ hb__ he__; simp only [PT])
      | ((with_reducible refine sl 5 ?_); go_must (refine wpL_loadF rfl 4 (.tmp 4) rfl g 0 rfl (.bool t.s6) HG.out HA.out.1 Try.underlying4 rfl ?_); simp only [PT])
      | ((with_reducible refine sl 8 ?_); go_must (refine wpL_loadF rfl 4 (.tmp 7) rfl g 17 rfl (.bool t.d6) HG.out HA.out.2.1 Try.underlying4 rfl ?_); simp only [PT])
      | ((with_reducible refine sl 12 ?_); refine wpL_load rfl 24 (.tmp 11) rfl g 0 rfl (addrC t.s6 t.sb) _ (range_sub HG.out HS.out) Try.underlying24 rfl HI1.out ?_; simp only [PT])
      | ((with_reducible refine sl 17 ?_); refine wpL_load rfl 24 (.tmp 16) rfl g 17 rfl (addrC t.d6 t.db) _ (range_sub HG.out HD.out) Try.underlying24 rfl HI2.out ?_; simp only [PT])
      | (go_at_call 47; (with_reducible show Calls _ _ #[.agg (addrC t.s6 t.sb).toArray] _ _); refine (fits_any t.s6 t.sb HL.out.1 _).mono ?_; rintro e w2 ⟨rfl, hb2⟩; have hE__ := cU HB bup hb2; replace HB := ck HB hE__; replace HG := ck HG hE__; clear hE__; clear hb2)
      | (go_at_call 47; (with_reducible show Calls _ _ #[.agg (addrC t.d6 t.db).toArray] _ _); refine (fits_any t.d6 t.db HL.out.2 _).mono ?_; rintro e w3 ⟨rfl, hb3⟩; have hE__ := cU HB bup hb3; replace HB := ck HB hE__; replace HG := ck HG hE__; clear hE__; clear hb3)
      | ((with_reducible refine sl 22 ?_); refine wpL_loadF rfl 3 (.tmp 21) rfl g 34 rfl (.int .i64 t.proto) HG.out HA.out.2.2.1 Try.underlying3 rfl ?_; simp only [PT])
      | ((with_reducible refine sl 27 ?_); refine wpL_loadF rfl 3 (.tmp 26) rfl g 34 rfl (.int .i64 t.proto) HG.out HA.out.2.2.1 Try.underlying3 rfl ?_; simp only [PT])
      | ((with_reducible refine sl 32 ?_); refine wpL_loadF rfl 3 (.tmp 31) rfl g 35 rfl (.int .i64 t.sport) HG.out HA.out.2.2.2.1 Try.underlying3 rfl ?_; simp only [PT])
      | ((with_reducible refine sl 37 ?_); refine wpL_loadF rfl 3 (.tmp 36) rfl g 35 rfl (.int .i64 t.sport) HG.out HA.out.2.2.2.1 Try.underlying3 rfl ?_; simp only [PT])
      | ((with_reducible refine sl 42 ?_); refine wpL_loadF rfl 3 (.tmp 41) rfl g 36 rfl (.int .i64 t.dport) HG.out HA.out.2.2.2.2 Try.underlying3 rfl ?_; simp only [PT])
      | ((with_reducible refine sl 47 ?_); refine wpL_loadF rfl 3 (.tmp 46) rfl g 36 rfl (.int .i64 t.dport) HG.out HA.out.2.2.2.2 Try.underlying3 rfl ?_; simp only [PT]))
    go_ret
    rw [HR.out]
    exact ⟨rfl, HB.out⟩
  rcases two (decide (t.proto ≤ 255)) with h4 | h4
  rotate_left
  · have HR : Hid (R = false) := Lib.hid (by rw [hR]; simp only [h0, h1, h2, h3, h4, Bool.and_false, Bool.false_and, Bool.true_and])
    clear hR
    go_wp2_with (first
      | ((with_reducible refine sl 1 ?_); go_must (refine wpL_boxG rfl 26 (.tmp 0) rfl t.cells.toArray rfl ?_); intro w1 g he__ le_g lt_g hg__ hb__; have HG := Lib.hid hg__; have hE__ := cU HB bup hb__; replace HB := ck HB hE__; clear hE__; clear hg__ hb__ he__; simp only [PT])
      | ((with_reducible refine sl 5 ?_); go_must (refine wpL_loadF rfl 4 (.tmp 4) rfl g 0 rfl (.bool t.s6) HG.out HA.out.1 Try.underlying4 rfl ?_); simp only [PT])
      | ((with_reducible refine sl 8 ?_); go_must (refine wpL_loadF rfl 4 (.tmp 7) rfl g 17 rfl (.bool t.d6) HG.out HA.out.2.1 Try.underlying4 rfl ?_); simp only [PT])
      | ((with_reducible refine sl 12 ?_); refine wpL_load rfl 24 (.tmp 11) rfl g 0 rfl (addrC t.s6 t.sb) _ (range_sub HG.out HS.out) Try.underlying24 rfl HI1.out ?_; simp only [PT])
      | ((with_reducible refine sl 17 ?_); refine wpL_load rfl 24 (.tmp 16) rfl g 17 rfl (addrC t.d6 t.db) _ (range_sub HG.out HD.out) Try.underlying24 rfl HI2.out ?_; simp only [PT])
      | (go_at_call 47; (with_reducible show Calls _ _ #[.agg (addrC t.s6 t.sb).toArray] _ _); refine (fits_any t.s6 t.sb HL.out.1 _).mono ?_; rintro e w2 ⟨rfl, hb2⟩; have hE__ := cU HB bup hb2; replace HB := ck HB hE__; replace HG := ck HG hE__; clear hE__; clear hb2)
      | (go_at_call 47; (with_reducible show Calls _ _ #[.agg (addrC t.d6 t.db).toArray] _ _); refine (fits_any t.d6 t.db HL.out.2 _).mono ?_; rintro e w3 ⟨rfl, hb3⟩; have hE__ := cU HB bup hb3; replace HB := ck HB hE__; replace HG := ck HG hE__; clear hE__; clear hb3)
      | ((with_reducible refine sl 22 ?_); refine wpL_loadF rfl 3 (.tmp 21) rfl g 34 rfl (.int .i64 t.proto) HG.out HA.out.2.2.1 Try.underlying3 rfl ?_; simp only [PT])
      | ((with_reducible refine sl 27 ?_); refine wpL_loadF rfl 3 (.tmp 26) rfl g 34 rfl (.int .i64 t.proto) HG.out HA.out.2.2.1 Try.underlying3 rfl ?_; simp only [PT])
      | ((with_reducible refine sl 32 ?_); refine wpL_loadF rfl 3 (.tmp 31) rfl g 35 rfl (.int .i64 t.sport) HG.out HA.out.2.2.2.1 Try.underlying3 rfl ?_; simp only [PT])
      | ((with_reducible refine sl 37 ?_); refine wpL_loadF rfl 3 (.tmp 36) rfl g 35 rfl (.int .i64 t.sport) HG.out HA.out.2.2.2.1 Try.underlying3 rfl ?_; simp only [PT])
      | ((with_reducible refine sl 42 ?_); refine wpL_loadF rfl 3 (.tmp 41) rfl g 36 rfl (.int .i64 t.dport) HG.out HA.out.2.2.2.2 Try.underlying3 rfl ?_; simp only [PT])
      | ((with_reducible refine sl 47 ?_); refine wpL_loadF rfl 3 (.tmp 46) rfl g 36 rfl (.int .i64 t.dport) HG.out HA.out.2.2.2.2 Try.underlying3 rfl ?_; simp only [PT]))
    go_ret
    rw [HR.out]
    exact ⟨rfl, HB.out⟩
  rcases two (decide (0 ≤ t.sport)) with h5 | h5
  rotate_left
  · have HR : Hid (R = false) := Lib.hid (by rw [hR]; simp only [h0, h1, h2, h3, h4, h5, Bool.and_false, Bool.false_and, Bool.true_and])
    clear hR
    go_wp2_with (first
      | ((with_reducible refine sl 1 ?_); go_must (refine wpL_boxG rfl 26 (.tmp 0) rfl t.cells.toArray rfl ?_); intro w1 g he__ le_g lt_g hg__ hb__; have HG := Lib.hid hg__; have hE__ := cU HB bup hb__; replace HB := ck HB hE__; clear hE__; clear hg__ hb__ he__; simp only [PT])
      | ((with_reducible refine sl 5 ?_); go_must (refine wpL_loadF rfl 4 (.tmp 4) rfl g 0 rfl (.bool t.s6) HG.out HA.out.1 Try.underlying4 rfl ?_); simp only [PT])
      | ((with_reducible refine sl 8 ?_); go_must (refine wpL_loadF rfl 4 (.tmp 7) rfl g 17 rfl (.bool t.d6) HG.out HA.out.2.1 Try.underlying4 rfl ?_); simp only [PT])
      | ((with_reducible refine sl 12 ?_); refine wpL_load rfl 24 (.tmp 11) rfl g 0 rfl (addrC t.s6 t.sb) _ (range_sub HG.out HS.out) Try.underlying24 rfl HI1.out ?_; simp only [PT])
      | ((with_reducible refine sl 17 ?_); refine wpL_load rfl 24 (.tmp 16) rfl g 17 rfl (addrC t.d6 t.db) _ (range_sub HG.out HD.out) Try.underlying24 rfl HI2.out ?_; simp only [PT])
      | (go_at_call 47; (with_reducible show Calls _ _ #[.agg (addrC t.s6 t.sb).toArray] _ _); refine (fits_any t.s6 t.sb HL.out.1 _).mono ?_; rintro e w2 ⟨rfl, hb2⟩; have hE__ := cU HB bup hb2; replace HB := ck HB hE__; replace HG := ck HG hE__; clear hE__; clear hb2)
      | (go_at_call 47; (with_reducible show Calls _ _ #[.agg (addrC t.d6 t.db).toArray] _ _); refine (fits_any t.d6 t.db HL.out.2 _).mono ?_; rintro e w3 ⟨rfl, hb3⟩; have hE__ := cU HB bup hb3; replace HB := ck HB hE__; replace HG := ck HG hE__; clear hE__; clear hb3)
      | ((with_reducible refine sl 22 ?_); refine wpL_loadF rfl 3 (.tmp 21) rfl g 34 rfl (.int .i64 t.proto) HG.out HA.out.2.2.1 Try.underlying3 rfl ?_; simp only [PT])
      | ((with_reducible refine sl 27 ?_); refine wpL_loadF rfl 3 (.tmp 26) rfl g 34 rfl (.int .i64 t.proto) HG.out HA.out.2.2.1 Try.underlying3 rfl ?_; simp only [PT])
      | ((with_reducible refine sl 32 ?_); refine wpL_loadF rfl 3 (.tmp 31) rfl g 35 rfl (.int .i64 t.sport) HG.out HA.out.2.2.2.1 Try.underlying3 rfl ?_; simp only [PT])
      | ((with_reducible refine sl 37 ?_); refine wpL_loadF rfl 3 (.tmp 36) rfl g 35 rfl (.int .i64 t.sport) HG.out HA.out.2.2.2.1 Try.underlying3 rfl ?_; simp only [PT])
      | ((with_reducible refine sl 42 ?_); refine wpL_loadF rfl 3 (.tmp 41) rfl g 36 rfl (.int .i64 t.dport) HG.out HA.out.2.2.2.2 Try.underlying3 rfl ?_; simp only [PT])
      | ((with_reducible refine sl 47 ?_); refine wpL_loadF rfl 3 (.tmp 46) rfl g 36 rfl (.int .i64 t.dport) HG.out HA.out.2.2.2.2 Try.underlying3 rfl ?_; simp only [PT]))
    go_ret
    rw [HR.out]
    exact ⟨rfl, HB.out⟩
  rcases two (decide (t.sport ≤ 65535)) with h6 | h6
  rotate_left
  · have HR : Hid (R = false) := Lib.hid (by rw [hR]; simp only [h0, h1, h2, h3, h4, h5, h6, Bool.and_false, Bool.false_and, Bool.true_and])
    clear hR
    go_wp2_with (first
      | ((with_reducible refine sl 1 ?_); go_must (refine wpL_boxG rfl 26 (.tmp 0) rfl t.cells.toArray rfl ?_); intro w1 g he__ le_g lt_g hg__ hb__; have HG := Lib.hid hg__; have hE__ := cU HB bup hb__; replace HB := ck HB hE__; clear hE__; clear hg__ hb__ he__; simp only [PT])
      | ((with_reducible refine sl 5 ?_); go_must (refine wpL_loadF rfl 4 (.tmp 4) rfl g 0 rfl (.bool t.s6) HG.out HA.out.1 Try.underlying4 rfl ?_); simp only [PT])
      | ((with_reducible refine sl 8 ?_); go_must (refine wpL_loadF rfl 4 (.tmp 7) rfl g 17 rfl (.bool t.d6) HG.out HA.out.2.1 Try.underlying4 rfl ?_); simp only [PT])
      | ((with_reducible refine sl 12 ?_); refine wpL_load rfl 24 (.tmp 11) rfl g 0 rfl (addrC t.s6 t.sb) _ (range_sub HG.out HS.out) Try.underlying24 rfl HI1.out ?_; simp only [PT])
      | ((with_reducible refine sl 17 ?_); refine wpL_load rfl 24 (.tmp 16) rfl g 17 rfl (addrC t.d6 t.db) _ (range_sub HG.out HD.out) Try.underlying24 rfl HI2.out ?_; simp only [PT])
      | (go_at_call 47; (with_reducible show Calls _ _ #[.agg (addrC t.s6 t.sb).toArray] _ _); refine (fits_any t.s6 t.sb HL.out.1 _).mono ?_; rintro e w2 ⟨rfl, hb2⟩; have hE__ := cU HB bup hb2; replace HB := ck HB hE__; replace HG := ck HG hE__; clear hE__; clear hb2)
      | (go_at_call 47; (with_reducible show Calls _ _ #[.agg (addrC t.d6 t.db).toArray] _ _); refine (fits_any t.d6 t.db HL.out.2 _).mono ?_; rintro e w3 ⟨rfl, hb3⟩; have hE__ := cU HB bup hb3; replace HB := ck HB hE__; replace HG := ck HG hE__; clear hE__; clear hb3)
      | ((with_reducible refine sl 22 ?_); refine wpL_loadF rfl 3 (.tmp 21) rfl g 34 rfl (.int .i64 t.proto) HG.out HA.out.2.2.1 Try.underlying3 rfl ?_; simp only [PT])
      | ((with_reducible refine sl 27 ?_); refine wpL_loadF rfl 3 (.tmp 26) rfl g 34 rfl (.int .i64 t.proto) HG.out HA.out.2.2.1 Try.underlying3 rfl ?_; simp only [PT])
      | ((with_reducible refine sl 32 ?_); refine wpL_loadF rfl 3 (.tmp 31) rfl g 35 rfl (.int .i64 t.sport) HG.out HA.out.2.2.2.1 Try.underlying3 rfl ?_; simp only [PT])
      | ((with_reducible refine sl 37 ?_); refine wpL_loadF rfl 3 (.tmp 36) rfl g 35 rfl (.int .i64 t.sport) HG.out HA.out.2.2.2.1 Try.underlying3 rfl ?_; simp only [PT])
      | ((with_reducible refine sl 42 ?_); refine wpL_loadF rfl 3 (.tmp 41) rfl g 36 rfl (.int .i64 t.dport) HG.out HA.out.2.2.2.2 Try.underlying3 rfl ?_; simp only [PT])
      | ((with_reducible refine sl 47 ?_); refine wpL_loadF rfl 3 (.tmp 46) rfl g 36 rfl (.int .i64 t.dport) HG.out HA.out.2.2.2.2 Try.underlying3 rfl ?_; simp only [PT]))
    go_ret
    rw [HR.out]
    exact ⟨rfl, HB.out⟩
  rcases two (decide (0 ≤ t.dport)) with h7 | h7
  rotate_left
  · have HR : Hid (R = false) := Lib.hid (by rw [hR]; simp only [h0, h1, h2, h3, h4, h5, h6, h7, Bool.and_false, Bool.false_and, Bool.true_and])
    clear hR
    go_wp2_with (first
      | ((with_reducible refine sl 1 ?_); go_must (refine wpL_boxG rfl 26 (.tmp 0) rfl t.cells.toArray rfl ?_); intro w1 g he__ le_g lt_g hg__ hb__; have HG := Lib.hid hg__; have hE__ := cU HB bup hb__; replace HB := ck HB hE__; clear hE__; clear hg__ hb__ he__; simp only [PT])
      | ((with_reducible refine sl 5 ?_); go_must (refine wpL_loadF rfl 4 (.tmp 4) rfl g 0 rfl (.bool t.s6) HG.out HA.out.1 Try.underlying4 rfl ?_); simp only [PT])
      | ((with_reducible refine sl 8 ?_); go_must (refine wpL_loadF rfl 4 (.tmp 7) rfl g 17 rfl (.bool t.d6) HG.out HA.out.2.1 Try.underlying4 rfl ?_); simp only [PT])
      | ((with_reducible refine sl 12 ?_); refine wpL_load rfl 24 (.tmp 11) rfl g 0 rfl (addrC t.s6 t.sb) _ (range_sub HG.out HS.out) Try.underlying24 rfl HI1.out ?_; simp only [PT])
      | ((with_reducible refine sl 17 ?_); refine wpL_load rfl 24 (.tmp 16) rfl g 17 rfl (addrC t.d6 t.db) _ (range_sub HG.out HD.out) Try.underlying24 rfl HI2.out ?_; simp only [PT])
      | (go_at_call 47; (with_reducible show Calls _ _ #[.agg (addrC t.s6 t.sb).toArray] _ _); refine (fits_any t.s6 t.sb HL.out.1 _).mono ?_; rintro e w2 ⟨rfl, hb2⟩; have hE__ := cU HB bup hb2; replace HB := ck HB hE__; replace HG := ck HG hE__; clear hE__; clear hb2)
      | (go_at_call 47; (with_reducible show Calls _ _ #[.agg (addrC t.d6 t.db).toArray] _ _); refine (fits_any t.d6 t.db HL.out.2 _).mono ?_; rintro e w3 ⟨rfl, hb3⟩; have hE__ := cU HB bup hb3; replace HB := ck HB hE__; replace HG := ck HG hE__; clear hE__; clear hb3)
      | ((with_reducible refine sl 22 ?_); refine wpL_loadF rfl 3 (.tmp 21) rfl g 34 rfl (.int .i64 t.proto) HG.out HA.out.2.2.1 Try.underlying3 rfl ?_; simp only [PT])
      | ((with_reducible refine sl 27 ?_); refine wpL_loadF rfl 3 (.tmp 26) rfl g 34 rfl (.int .i64 t.proto) HG.out HA.out.2.2.1 Try.underlying3 rfl ?_; simp only [PT])
      | ((with_reducible refine sl 32 ?_); refine wpL_loadF rfl 3 (.tmp 31) rfl g 35 rfl (.int .i64 t.sport) HG.out HA.out.2.2.2.1 Try.underlying3 rfl ?_; simp only [PT])
      | ((with_reducible refine sl 37 ?_); refine wpL_loadF rfl 3 (.tmp 36) rfl g 35 rfl (.int .i64 t.sport) HG.out HA.out.2.2.2.1 Try.underlying3 rfl ?_; simp only [PT])
      | ((with_reducible refine sl 42 ?_); refine wpL_loadF rfl 3 (.tmp 41) rfl g 36 rfl (.int .i64 t.dport) HG.out HA.out.2.2.2.2 Try.underlying3 rfl ?_; simp only [PT])
      | ((with_reducible refine sl 47 ?_); refine wpL_loadF rfl 3 (.tmp 46) rfl g 36 rfl (.int .i64 t.dport) HG.out HA.out.2.2.2.2 Try.underlying3 rfl ?_; simp only [PT]))
    go_ret
    rw [HR.out]
    exact ⟨rfl, HB.out⟩
  rcases two (decide (t.dport ≤ 65535)) with h8 | h8
  rotate_left
  · have HR : Hid (R = false) := Lib.hid (by rw [hR]; simp only [h0, h1, h2, h3, h4, h5, h6, h7, h8, Bool.and_false, Bool.false_and, Bool.true_and])
    clear hR
    go_wp2_with (first
      | ((with_reducible refine sl 1 ?_); go_must (refine wpL_boxG rfl 26 (.tmp 0) rfl t.cells.toArray rfl ?_); intro w1 g he__ le_g lt_g hg__ hb__; have HG := Lib.hid hg__; have hE__ := cU HB bup hb__; replace HB := ck HB hE__; clear hE__; clear hg__ hb__ he__; simp only [PT])
      | ((with_reducible refine sl 5 ?_); go_must (refine wpL_loadF rfl 4 (.tmp 4) rfl g 0 rfl (.bool t.s6) HG.out HA.out.1 Try.underlying4 rfl ?_); simp only [PT])
      | ((with_reducible refine sl 8 ?_); go_must (refine wpL_loadF rfl 4 (.tmp 7) rfl g 17 rfl (.bool t.d6) HG.out HA.out.2.1 Try.underlying4 rfl ?_); simp only [PT])
      | ((with_reducible refine sl 12 ?_); refine wpL_load rfl 24 (.tmp 11) rfl g 0 rfl (addrC t.s6 t.sb) _ (range_sub HG.out HS.out) Try.underlying24 rfl HI1.out ?_; simp only [PT])
      | ((with_reducible refine sl 17 ?_); refine wpL_load rfl 24 (.tmp 16) rfl g 17 rfl (addrC t.d6 t.db) _ (range_sub HG.out HD.out) Try.underlying24 rfl HI2.out ?_; simp only [PT])
      | (go_at_call 47; (with_reducible show Calls _ _ #[.agg (addrC t.s6 t.sb).toArray] _ _); refine (fits_any t.s6 t.sb HL.out.1 _).mono ?_; rintro e w2 ⟨rfl, hb2⟩; have hE__ := cU HB bup hb2; replace HB := ck HB hE__; replace HG := ck HG hE__; clear hE__; clear hb2)
      | (go_at_call 47; (with_reducible show Calls _ _ #[.agg (addrC t.d6 t.db).toArray] _ _); refine (fits_any t.d6 t.db HL.out.2 _).mono ?_; rintro e w3 ⟨rfl, hb3⟩; have hE__ := cU HB bup hb3; replace HB := ck HB hE__; replace HG := ck HG hE__; clear hE__; clear hb3)
      | ((with_reducible refine sl 22 ?_); refine wpL_loadF rfl 3 (.tmp 21) rfl g 34 rfl (.int .i64 t.proto) HG.out HA.out.2.2.1 Try.underlying3 rfl ?_; simp only [PT])
      | ((with_reducible refine sl 27 ?_); refine wpL_loadF rfl 3 (.tmp 26) rfl g 34 rfl (.int .i64 t.proto) HG.out HA.out.2.2.1 Try.underlying3 rfl ?_; simp only [PT])
      | ((with_reducible refine sl 32 ?_); refine wpL_loadF rfl 3 (.tmp 31) rfl g 35 rfl (.int .i64 t.sport) HG.out HA.out.2.2.2.1 Try.underlying3 rfl ?_; simp only [PT])
      | ((with_reducible refine sl 37 ?_); refine wpL_loadF rfl 3 (.tmp 36) rfl g 35 rfl (.int .i64 t.sport) HG.out HA.out.2.2.2.1 Try.underlying3 rfl ?_; simp only [PT])
      | ((with_reducible refine sl 42 ?_); refine wpL_loadF rfl 3 (.tmp 41) rfl g 36 rfl (.int .i64 t.dport) HG.out HA.out.2.2.2.2 Try.underlying3 rfl ?_; simp only [PT])
      | ((with_reducible refine sl 47 ?_); refine wpL_loadF rfl 3 (.tmp 46) rfl g 36 rfl (.int .i64 t.dport) HG.out HA.out.2.2.2.2 Try.underlying3 rfl ?_; simp only [PT]))
    go_ret
    rw [HR.out]
    exact ⟨rfl, HB.out⟩
  have HR : Hid (R = true) := Lib.hid (by rw [hR]; simp only [h0, h1, h2, h3, h4, h5, h6, h7, h8, Bool.true_and])
  clear hR
  go_wp2_with (first
    | ((with_reducible refine sl 1 ?_); go_must (refine wpL_boxG rfl 26 (.tmp 0) rfl t.cells.toArray rfl ?_); intro w1 g he__ le_g lt_g hg__ hb__; have HG := Lib.hid hg__; have hE__ := cU HB bup hb__; replace HB := ck HB hE__; clear hE__; clear hg__ hb__ he__; simp only [PT])
    | ((with_reducible refine sl 5 ?_); go_must (refine wpL_loadF rfl 4 (.tmp 4) rfl g 0 rfl (.bool t.s6) HG.out HA.out.1 Try.underlying4 rfl ?_); simp only [PT])
    | ((with_reducible refine sl 8 ?_); go_must (refine wpL_loadF rfl 4 (.tmp 7) rfl g 17 rfl (.bool t.d6) HG.out HA.out.2.1 Try.underlying4 rfl ?_); simp only [PT])
    | ((with_reducible refine sl 12 ?_); refine wpL_load rfl 24 (.tmp 11) rfl g 0 rfl (addrC t.s6 t.sb) _ (range_sub HG.out HS.out) Try.underlying24 rfl HI1.out ?_; simp only [PT])
    | ((with_reducible refine sl 17 ?_); refine wpL_load rfl 24 (.tmp 16) rfl g 17 rfl (addrC t.d6 t.db) _ (range_sub HG.out HD.out) Try.underlying24 rfl HI2.out ?_; simp only [PT])
    | (go_at_call 47; (with_reducible show Calls _ _ #[.agg (addrC t.s6 t.sb).toArray] _ _); refine (fits_any t.s6 t.sb HL.out.1 _).mono ?_; rintro e w2 ⟨rfl, hb2⟩; have hE__ := cU HB bup hb2; replace HB := ck HB hE__; replace HG := ck HG hE__; clear hE__; clear hb2)
    | (go_at_call 47; (with_reducible show Calls _ _ #[.agg (addrC t.d6 t.db).toArray] _ _); refine (fits_any t.d6 t.db HL.out.2 _).mono ?_; rintro e w3 ⟨rfl, hb3⟩; have hE__ := cU HB bup hb3; replace HB := ck HB hE__; replace HG := ck HG hE__; clear hE__; clear hb3)
    | ((with_reducible refine sl 22 ?_); refine wpL_loadF rfl 3 (.tmp 21) rfl g 34 rfl (.int .i64 t.proto) HG.out HA.out.2.2.1 Try.underlying3 rfl ?_; simp only [PT])
    | ((with_reducible refine sl 27 ?_); refine wpL_loadF rfl 3 (.tmp 26) rfl g 34 rfl (.int .i64 t.proto) HG.out HA.out.2.2.1 Try.underlying3 rfl ?_; simp only [PT])
    | ((with_reducible refine sl 32 ?_); refine wpL_loadF rfl 3 (.tmp 31) rfl g 35 rfl (.int .i64 t.sport) HG.out HA.out.2.2.2.1 Try.underlying3 rfl ?_; simp only [PT])
    | ((with_reducible refine sl 37 ?_); refine wpL_loadF rfl 3 (.tmp 36) rfl g 35 rfl (.int .i64 t.sport) HG.out HA.out.2.2.2.1 Try.underlying3 rfl ?_; simp only [PT])
    | ((with_reducible refine sl 42 ?_); refine wpL_loadF rfl 3 (.tmp 41) rfl g 36 rfl (.int .i64 t.dport) HG.out HA.out.2.2.2.2 Try.underlying3 rfl ?_; simp only [PT])
    | ((with_reducible refine sl 47 ?_); refine wpL_loadF rfl 3 (.tmp 46) rfl g 36 rfl (.int .i64 t.dport) HG.out HA.out.2.2.2.2 Try.underlying3 rfl ?_; simp only [PT]))
  go_ret
  rw [HR.out]
  exact ⟨rfl, HB.out⟩
end Go.Proofs.Ytgpdlhbndoeldaa
