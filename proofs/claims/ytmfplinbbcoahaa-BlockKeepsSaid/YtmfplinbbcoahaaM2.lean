/-
  Joined by program (merge.py): Get, Octet2, Octet3, Octet4, Carry, Step, Str, Kit.
-/
import Derived.RangeFuncNested
import Derived.RangeFuncBound
import Derived.RangeFuncCalls
import Derived.RangeFuncLeaves
import Derived.RangeFuncBox
import Derived.Shelf.Abstract
import Derived.Shelf.RegionOpen
import Derived.OwnWalkIn
import Derived.TacticsInMore
import Derived.LoopNIn
import Derived.LoopIn
import Derived.Deep.RegionHeld3
import Derived.Deep.WholeRow
import Derived.ArgAppend
import Derived.Test.YtmfplinbbcoahaaM1
/-
  octet.Get reads a number: in order, and from behind (a range over the library's iterator).
-/
namespace Go.Proofs.Ytmfplinbbcoahaa
open Go.RowKit Go.Sort Go.Shelf
set_option linter.unusedVariables false
set_option linter.unusedSimpArgs false
attribute [local go_sem] Oper.semAt_some

/-- what a round keeps: what lay below n₀, and the block Bx -/
def KpBox (n₀ Bx : Nat) (W W' : World) : Prop := Below n₀ W W' ∧ W'.heap[Bx]? = W.heap[Bx]?
theorem KpBox.refl (n₀ Bx : Nat) (W : World) : KpBox n₀ Bx W W := ⟨Below.refl _ _, rfl⟩
theorem KpBox.trans {n₀ Bx : Nat} {A B C : World} (h : KpBox n₀ Bx A B) (k : KpBox n₀ Bx B C) : KpBox n₀ Bx A C := ⟨h.1.trans k.1, k.2.trans h.2⟩
theorem KpBox.put {n₀ Bx : Nat} {w : World} (hn : n₀ ≤ w.heap.size) (hB : Bx < w.heap.size) (W : World) (l : Nat) (o o' : Obj) (hl : w.heap.size ≤ l) (ho : W.heap[l]? = some o) (h1 : o.isCells = false) (h2 : o.isWalk = false) : KpBox n₀ Bx W (W.putObj l o') :=
  ⟨belowK_b hn W l o o' hl ho h1 h2, World.putObj_heap_other (by omega)⟩
theorem KpBox.bs {n₀ Bx : Nat} {W W' : World} {ad : Option Addr} {n c : Nat} {l : List UInt8} (h : KpBox n₀ Bx W W') (hs : Bs W ad n c l) (hb : ∀ x, ad = some x → 0 < n → x.block < n₀) : Bs W' ad n c l :=
  ⟨hs.1, hs.2.1, hs.2.2.1, hs.2.2.2.1, fun j u hj => by
    obtain ⟨x, hx, hc⟩ := hs.2.2.2.2 j u hj
    have hl := hs.1
    have hlt : j < (BV l).length := (List.getElem?_eq_some_iff.1 hj).1
    exact ⟨x, hx, by rw [h.1.cell (by rw [add_block]; exact hb x hx (by omega))]; exact hc⟩⟩

theorem cell_of_block1 {w : World} {B : Nat} {v : Value} {t : TypeId} (h : w.heap[B]? = some (.cells #[v] t (0, 0))) : w.cell? ⟨B, 0, none⟩ = some v := cell_of_one h
theorem free_of_block1 {w : World} {B : Nat} {v : Value} {t : TypeId} (h : w.heap[B]? = some (.cells #[v] t (0, 0))) : w.frozen? ⟨B, 0, none⟩ = false := free_of_one h

def upto {α : Type} (f : Nat → α) (k : Nat) : List α := (List.range k).map f
theorem upto_succ {α : Type} (f : Nat → α) (k : Nat) : upto f (k + 1) = upto f k ++ [f k] := by simp [upto, List.range_succ]
theorem upto_length {α : Type} (f : Nat → α) (k : Nat) : (upto f k).length = k := by simp [upto]

/-- what slices.Backward hands out -/
def bk (l : List UInt8) (j : Nat) : Nat × UInt8 := (l.length - 1 - j, at8 l (l.length - 1 - j))

set_option maxRecDepth 100000 in
set_option maxHeartbeats 2000000 in
theorem back1_in (F : Fence) (n : Nat) (h7 : F.fn 92) (hro : F.round = none) (hn : 1 ≤ n) (l Bx n₀ : Nat) (ad : Option Addr) (len c : Nat) (bs : List UInt8) (hreach : len ≤ 140737488351232) (hb : ∀ x, ad = some x → 0 < len → x.block < n₀)
    (J Jx : List (Nat × UInt8) → World → Prop)
    (hY : ∀ pre x W, J pre W → pre.length < len → YieldAt F (n - 1) Try.prog l #[.int .i64 (x.1 : Int), .int .u8 (x.2.toNat : Int)] W fun e W' =>
      (e = .returned (.bool true) ∧ J (pre ++ [x]) W' ∧ KpBox n₀ Bx W W') ∨ (e = .returned (.bool false) ∧ Jx (pre ++ [x]) W'))
    (W : World) (hBx : W.heap[Bx]? = some (.cells #[.slice ad len c] 24 (0, 0))) (hs : Bs W ad len c bs) (h0 : J [] W) :
    CallsIn F n Try.prog 92 #[.func (.yield l) #[] #[], .pointer (some ⟨Bx, 0, none⟩)] W fun e W' => (∃ v, e = .returned v) ∧
      ((∃ ys, ys = upto (bk bs) len ∧ J ys W') ∨ (∃ pre, (∃ k, k ≤ len ∧ pre = upto (bk bs) k) ∧ Jx pre W')) := by
  have hlen := hs.len
  have HLEN := Lib.hid hlen
  clear hlen
  have hcB := cell_of_block1 hBx
  refine callsIn_of_wp Try.func92 rfl h7 ?_ hro
  simp only [Try.ntmps92, List.size_toArray, List.length_cons, List.length_nil, Nat.reduceAdd, Nat.reduceSub, Array.replicate_succ, Array.replicate_zero, List.push_toArray, List.append_toArray, List.nil_append, List.cons_append]
  have HS := Lib.hid hs
  clear hs
  gi_wp2
  gi_loopw [3] (fun i wr => ∃ k : Nat, k ≤ len ∧ i = .int .i64 ((len : Int) - 1 - k) ∧ J (upto (bk bs) k) wr ∧ KpBox n₀ Bx W wr)
    (fun i _ => (intOf i + 1).toNat)
  case atStart => exact ⟨0, Nat.zero_le _, by simp, h0, KpBox.refl _ _ _⟩
  case round =>
    obtain ⟨k, hk, rfl, hJs, hnx⟩ := hrel
    by_cases hlt : k < len
    · obtain ⟨fn, tmps, assign, body, hy, hR⟩ := hY _ (bk bs k) wr hJs (by rw [upto_length]; exact hlt)
      have hidx : (bk bs k).1 = len - 1 - k := by unfold bk; rw [← HLEN.out]
      have hval : (bk bs k).2 = at8 bs (len - 1 - k) := by unfold bk; rw [← HLEN.out]
      rw [hidx, hval] at hy
      have hw : ((len - 1 - k : Nat) : Int) = (len : Int) - 1 - k := by omega
      rw [hw] at hy
      obtain ⟨b, off, rfl, hbb, hcc⟩ := (hnx.bs HS.out hb).at (j := len - 1 - k) (by have := HLEN.out; omega)
      have hcx := hcc (len - 1 - k) (by have := HLEN.out; omega)
      have hcB' : wr.cell? ⟨Bx, 0, none⟩ = some (.slice (some ⟨b, off, none⟩) len c) := cell_of_block1 (hnx.2.trans hBx)
      have i1 : (0 : Int) ≤ (len : Int) - 1 - k := by omega
      have i2 : (len : Int) - 1 - k < len := by omega
      clear hcc hidx hval hw
      have HK := Lib.hid hnx
      clear hnx
      gi_wp2
      refine hR.mono ?_
      rintro e W3 (⟨rfl, hJ3, hk3⟩ | ⟨rfl, hJx3⟩)
      · have HK3 := Lib.hid (HK.out.trans hk3)
        have HJ3 := Lib.hid hJ3
        clear hk3 hJ3 HK hcx hcB' hy hR hJs
        gi_wp2
        go_roundw
        case rel => exact ⟨k + 1, by omega, by go_num, by rw [upto_succ]; exact HJ3.out, HK3.out⟩
        case measure => simp [intOf]; omega
      · gi_wp2
        refine bodyPost_ret (results_none rfl _ _ _) rfl ?_
        exact ⟨⟨_, rfl⟩, .inr ⟨_, ⟨k + 1, by omega, (upto_succ _ _).symm⟩, hJx3⟩⟩
    · obtain rfl : k = len := by omega
      gi_wp2
      go_end0
      exact ⟨⟨_, rfl⟩, .inl ⟨_, rfl, hJs⟩⟩

theorem back_any (F : Fence) (n : Nat) (h5 : F.fn 81) (hro : F.round = none) (a : Option Addr) (len cap : Nat) (w : World) :
    CallsIn F n Try.prog 81 #[.slice a len cap] w fun e w' => e = .returned (.func (.func 92) #[] #[.pointer (some ⟨w.heap.size, 0, none⟩)]) ∧ w' = w.alloc (.cells #[.slice a len cap] 24) := by
  refine callsIn_of_wp Try.func81 rfl h5 ?_ hro
  simp only [Try.ntmps81, List.size_toArray, List.length_cons, List.length_nil, Nat.reduceAdd, Nat.reduceSub, Array.replicate_succ, Array.replicate_zero, List.push_toArray, List.append_toArray, List.nil_append, List.cons_append]
  gi_wp2
  go_ret
  exact ⟨rfl, rfl⟩

theorem back_stops (F : Fence) (n : Nat) (h7 : F.fn 92) (hro : F.round = none) (hn : 1 ≤ n) (Bx n₀ : Nat) (ad : Option Addr) (len c : Nat) (bs : List UInt8) (hreach : len ≤ 140737488351232) (w : World) (hBx : Bx < w.heap.size) (hn₀ : n₀ ≤ w.heap.size)
    (hc : w.heap[Bx]? = some (.cells #[.slice ad len c] 24 (0, 0))) (hs : Bs w ad len c bs) (hb : ∀ x, ad = some x → 0 < len → x.block < n₀) :
    SeqStopsK F n Try.prog 92 #[.pointer (some ⟨Bx, 0, none⟩)] (fun x : Nat × UInt8 => #[Value.int .i64 (x.1 : Int), Value.int .u8 (x.2.toNat : Int)]) (KpBox n₀ Bx) (fun ys => ys = upto (bk bs) len)
      (fun pre => ∃ k, k ≤ len ∧ pre = upto (bk bs) k) len w := fun l J Jx W hW _ _ hY h0 => by
  have hc' : W.heap[Bx]? = some (.cells #[.slice ad len c] 24 (0, 0)) := (hW.block Bx hBx).trans hc
  exact back1_in F n h7 hro hn l Bx n₀ ad len c bs hreach hb J Jx hY W hc' (hs.below hW) h0


/-- the head of the slice: at most eight bytes -/
theorem Bs.head8 {w : World} {ad : Option Addr} {n c : Nat} {l : List UInt8} (h : Bs w ad n c l) : Bs w (subAd ad c 0 1) (min n 8 - 0) (c - 0) (l.take 8) := by
  have := Sl.sub h (l := 0) (h := min n 8) (Nat.zero_le _) (Nat.min_le_left _ _)
  have e : ((BV l).drop (0 * 1)).take ((min n 8 - 0) * 1) = BV (l.take 8) := by
    have hn := h.len
    simp only [List.drop_zero, Nat.sub_zero, Nat.mul_one]
    unfold BV
    rw [List.map_take]
    by_cases h8 : n ≤ 8
    · rw [Nat.min_eq_left h8, List.take_of_length_le (by simp; omega), List.take_of_length_le (by simp; omega)]
    · rw [Nat.min_eq_right (by omega)]
  rw [e] at this
  exact this

def RetN (v : Value) (w : World) (e : Ending) (w' : World) : Prop := e = .returned v ∧ Below w.heap.size w w'

set_option maxRecDepth 100000 in
theorem get_big (ad : Option Addr) (n c : Nat) (l : List UInt8) (w : World) (hs : Bs w ad n c l) :
    Calls Try.prog 57 #[.slice ad n c, .bool true] w (RetN (.int .u64 (getN l true)) w) := by
  obtain ⟨m, hm⟩ : ∃ m, m = min n 8 := ⟨_, rfl⟩
  have hc := hs.le
  have hb8 := hs.head8
  rw [← hm] at hb8
  have hlen := hb8.len
  simp only [Nat.sub_zero] at hlen hb8
  have hmin : (if (8 : Int) < (n : Int) then (8 : Int) else (n : Int)) = (m : Int) := by split <;> omega
  have HL := Lib.hid hlen
  have HB8 := Lib.hid hb8
  have hm8 : m ≤ 8 := by omega
  have hmc : m ≤ c := by omega
  have HG : Hid (getN l true = numBE (l.take 8)) := Lib.hid rfl
  clear hm hlen hb8 hs
  go_enter Try.func57, Try.ntmps57
  go_wp2_with ((with_reducible show wpList _ _ _ (⟨some 14, _, _, _, _, _⟩ :: _) _ _); go_must (refine wpL_slice elB rfl (.tmp 10) none (some (.tmp 13)) rfl rfl 0 m (.inl ⟨rfl, rfl⟩) (.inr ⟨.i64, rfl⟩) (Nat.zero_le _) hmc ?_))
  intro ad1 had1
  rw [← had1.out] at HB8
  clear had1
  go_wp2_with fail
  go_loopw [18, 7] (fun i _ wr => ∃ k : Nat, k ≤ m ∧ i = .int .i64 k ∧ wr.heap[w.heap.size]? = some (.cells #[.int .u64 (numBE ((l.take 8).take k) : Nat)] 23 (0, 0)) ∧ Below w.heap.size w wr) (fun i _ _ => m - (intOf i).toNat)
  case atStart => exact ⟨0, Nat.zero_le _, rfl, heap_alloc_new _ _, (Below.refl _ _).alloc (Nat.le_refl _) _⟩
  case round =>
    obtain ⟨k, hk, rfl, hbox, hb⟩ := hrel
    by_cases hlt : k < m
    · obtain ⟨b, off, rfl, hbl, hcc⟩ := (HB8.out.below hb).at (j := k) (by have := HL.out; omega)
      have hcx := hcc k (by have := HL.out; omega)
      have hsz : w.heap.size < wr.heap.size := (Array.getElem?_eq_some_iff.1 hbox).1
      have hcb := cell_of_one hbox
      have hfb := free_of_one hbox
      have hor := or_byte (numBE ((l.take 8).take k)) (at8 (l.take 8) k) (numBE_lt7 _ (by simp; omega))
      have hu := u64_wrap_nat (at8 (l.take 8) k).toNat (by have := (at8 (l.take 8) k).toNat_lt; omega)
      have hstep := numBE_take_succ (l.take 8) k (by have := HL.out; omega)
      have HBOX := Lib.hid (one_setCell hbox (u := .int .u64 ((stepN (numBE ((l.take 8).take k)) (at8 (l.take 8) k) : Nat) : Int)))
      have HB2 := Lib.hid (hb.setCell (p := ⟨w.heap.size, 0, none⟩) (Nat.le_refl _) (.int .u64 ((stepN (numBE ((l.take 8).take k)) (at8 (l.take 8) k) : Nat) : Int)))
      have HST := Lib.hid hstep
      clear hcc hbox hb hstep
      go_wp2_with fail
      go_roundw
      case rel => exact ⟨k + 1, by omega, by go_num, by rw [HST.out]; exact HBOX.out, HB2.out⟩
      case measure => simp [intOf]; omega
    · obtain rfl : k = m := by omega
      have hcb := cell_of_one hbox
      rw [List.take_of_length_le (by have := HL.out; omega), ← HG.out] at hcb
      have HB2 := Lib.hid hb
      clear hbox hb
      go_wp2_with fail
      go_ret
      exact ⟨rfl, HB2.out⟩

/-- the number's box in a range over the iterator -/
theorem box_ownFrom (B : Nat) (t : TypeId) (f : List (Nat × UInt8) → Value) (C : Nat) : OwnFrom C (fun pre W => W.heap[B]? = some (.cells #[f pre] t (0, 0))) :=
  fun s W W' row hs hg hr => (hg.block B (Array.getElem?_eq_some_iff.1 hs).1 (fun e => by
    obtain ⟨_, o, ho, hc⟩ := hr B e.symm
    rw [hs] at ho
    cases ho
    simp [Obj.isCells] at hc)).trans hs

theorem bk_snd (l : List UInt8) : (upto (bk l) l.length).map (·.2) = l.reverse := by
  apply ext_getD (by simp [upto])
  intro j hj
  have hj' : j < l.length := by simpa [upto] using hj
  have e1 : ((upto (bk l) l.length).map (·.2)).getD j 0 = at8 l (l.length - 1 - j) := by simp [upto, List.getD, hj', bk]
  have e2 : l.reverse.getD j 0 = l.getD (l.length - 1 - j) 0 := by simp [List.getD, List.getElem?_reverse hj']
  rw [e1, e2]
  rfl

set_option maxRecDepth 100000 in
set_option maxHeartbeats 1000000 in
theorem get_small (ad : Option Addr) (n c : Nat) (l : List UInt8) (w : World) (hs : Bs w ad n c l) :
    Calls Try.prog 57 #[.slice ad n c, .bool false] w (RetN (.int .u64 (getN l false)) w) := by
  obtain ⟨m, hm⟩ : ∃ m, m = min n 8 := ⟨_, rfl⟩
  have hc := hs.le
  have hb8 := hs.head8
  rw [← hm] at hb8
  have hlen := hb8.len
  simp only [Nat.sub_zero] at hlen hb8
  have hmin : (if (8 : Int) < (n : Int) then (8 : Int) else (n : Int)) = (m : Int) := by split <;> omega
  have HL := Lib.hid hlen
  have HB8 := Lib.hid hb8
  have hm8 : m ≤ 8 := by omega
  have hmc : m ≤ c := by omega
  have HG : Hid (getN l false = numBE (l.take 8).reverse) := Lib.hid rfl
  clear hm hlen hb8 hs
  refine (callsIn_wide (n := 6)).1 (callsIn_of_wp_marks Try.func57 rfl trivial (wpIn_wide.2 ?_) rfl)
  simp only [Try.ntmps57, List.size_toArray, List.length_cons, List.length_nil, Nat.reduceAdd, Nat.reduceSub, Array.replicate_succ, Array.replicate_zero, List.push_toArray, List.append_toArray, List.nil_append, List.cons_append]
  go_wp2_with ((with_reducible show wpList _ _ _ (⟨some 14, _, _, _, _, _⟩ :: _) _ _); go_must (refine wpL_slice elB rfl (.tmp 10) none (some (.tmp 13)) rfl rfl 0 m (.inl ⟨rfl, rfl⟩) (.inr ⟨.i64, rfl⟩) (Nat.zero_le _) hmc ?_))
  intro ad1 had1
  rw [← had1.out] at HB8
  clear had1
  go_wp2_with (go_at_call 81; refine ((callsIn_wide (n := 6)).1 (back_any _ _ trivial rfl _ _ _ _)).mono ?_; rintro e w' ⟨rfl, rfl⟩)
  refine (wpIn_wide (n := 6)).1 ?_
  have hB1 : Below w.heap.size w (w.alloc (.cells #[.int .u64 0] 23)) := (Below.refl _ _).alloc (Nat.le_refl _) _
  have hB2 := hB1.alloc (by simp) (.cells #[.slice ad1 m c] 24)
  refine wpIn_rangeFunc_ownF rfl (by omega) (gf := 92) (lb := #[.pointer (some ⟨w.heap.size + 1, 0, none⟩)]) rfl trivial (enters_of Try.func92 (by kernel_rfl) rfl)
    (back_stops _ _ trivial rfl (by omega) (w.heap.size + 1) w.heap.size ad1 m c (l.take 8) (by omega) ((w.alloc (.cells #[.int .u64 0] 23)).alloc (.cells #[.slice ad1 m c] 24)) (by simp) (by simp; omega) (by have := heap_alloc_new (w.alloc (.cells #[.int .u64 0] 23)) (.cells #[.slice ad1 m c] 24); rwa [World.size_alloc] at this) (HB8.out.below hB2)
      (fun x hx h0 => by obtain ⟨b, off, h2, h3, _⟩ := HB8.out.at (j := 0) (by have := HL.out; omega); rw [h2] at hx; cases hx; exact h3))
    KpBox.trans (KpBox.put (by simp; omega) (by simp)) (Below.refl _ _) (fun _ => rfl)
    (fun pre W => W.heap[w.heap.size]? = some (.cells #[.int .u64 (numBE (pre.map (·.2)) : Nat)] 23 (0, 0)) ∧ Below w.heap.size w W)
    (fun _ _ _ => False)
    (OwnFrom.and (box_ownFrom _ _ (fun pre => .int .u64 (numBE (pre.map (·.2)) : Nat)) _) (ownFrom_below (Nat.le_refl _) (by simp; omega)))
    (fun _ _ _ _ _ hs _ _ => hs)
    ⟨(Below.heap_alloc _ _ _ (by simp)).trans (heap_alloc_new _ _), hB2⟩
    ?a1 ?assign ?body ?done ?stop
  case assign =>
    intro l x W K hK
    gi_wp2
    exact hK
  case body =>
    rintro l pre x W ⟨hbox, hb⟩ hlen
    have hsz : w.heap.size < W.heap.size := (Array.getElem?_eq_some_iff.1 hbox).1
    have hcb := cell_of_one hbox
    have hfb := free_of_one hbox
    have hor := or_byte (numBE (pre.map (·.2))) x.2 (numBE_lt7 _ (by simp; omega))
    have hu := u64_wrap_nat x.2.toNat (by have := x.2.toNat_lt; omega)
    have HBOX := Lib.hid (one_setCell hbox (u := .int .u64 ((stepN (numBE (pre.map (·.2))) x.2 : Nat) : Int)))
    have HB2 := Lib.hid (hb.setCell (p := ⟨w.heap.size, 0, none⟩) (Nat.le_refl _) (.int .u64 ((stepN (numBE (pre.map (·.2))) x.2 : Nat) : Int)))
    clear hbox hb
    gi_wp2
    refine ⟨KeepsOthers.setCell _ _ _, ⟨(Below.refl w.heap.size W).setCell (p := ⟨w.heap.size, 0, none⟩) (Nat.le_refl _) _, Below.heap_setCell _ _ _ _ (by simp)⟩, ?_, ?_⟩
    · rw [numBE_map_snoc]; exact HBOX.out
    · exact HB2.out
  case done =>
    rintro D ys W hD rfl ⟨hbox, hb⟩ hK
    have hlm := HL.out
    have e : numBE ((upto (bk (l.take 8)) m).map (·.2)) = getN l false := by
      rw [HG.out, ← bk_snd, ← hlm]
    rw [e] at hbox
    have hcb := cell_of_one hbox
    have HB2 := Lib.hid hb
    have HD : Hid _ := Lib.hid hD
    clear hlm e hbox hb hD
    go_wp2
    refine ⟨by simp, .inl ⟨_, _, rfl, run_takeDeferred hK, ?_⟩⟩
    exact ⟨_, results_tmp rfl _ _ _, rfl, HB2.out.trans (belowK_b (w := w) (Nat.le_refl _) W D _ _ (by have := HD.out; simp at this; omega) hK rfl rfl)⟩
  case stop =>
    rintro D c pre W _ _ h _
    exact h.elim
end Go.Proofs.Ytmfplinbbcoahaa
/-
  The contracts of the other functions on numbers as bytes, and of the document's.
-/
namespace Go.Proofs.Ytmfplinbbcoahaa
open Go.RowKit Go.Sort
set_option linter.unusedVariables false
set_option linter.unusedSimpArgs false

set_option maxRecDepth 100000 in
theorem get_any (ad : Option Addr) (n c : Nat) (l : List UInt8) (big : Bool) (w : World) (hs : Bs w ad n c l) :
    Calls Try.prog 57 #[.slice ad n c, .bool big] w (RetN (.int .u64 (getN l big)) w) := by
  cases big
  · exact get_small ad n c l w hs
  · exact get_big ad n c l w hs

set_option maxRecDepth 100000 in
theorem clone_any (ad : Option Addr) (n c : Nat) (l : List UInt8) (w : World) (hs : Bs w ad n c l) (hsz : n ≤ 140737488351232) :
    Calls Try.prog 91 #[.slice ad n c] w (RetB 5 l w) := by
  have hn := hs.len
  have HS := Lib.hid hs
  have hnil := fun a n c => Lib.run_eql_slice_nil (P := Try.prog) w 24 5 a n c 0 0 Try.underlying24
  cases ad with
  | none =>
    have hnc := hs.2.2.2.1 rfl
    obtain ⟨rfl, rfl⟩ := hnc
    have hl : l = [] := List.length_eq_zero_iff.1 hn.symm
    subst hl
    clear hs hn HS
    go_enter Try.func91, Try.ntmps91
    go_wp2
    go_ret
    exact ⟨none, 0, rfl, World.ownsRow_nil _ _ _ _, Below.refl _ _⟩
  | some x =>
    have HN := Lib.hid hn
    clear hs hn
    go_enter Try.func91, Try.ntmps91
    go_wp2_with ((with_reducible show wpList _ _ _ (⟨some 7, _, _, _, _, _⟩ :: _) _ _); go_must (refine wpL_append elB rfl (.tmp 5) (.tmp 6) rfl w.heap.size rfl (World.ownsRow_lit (size := 1) (e := 5) w #[] 0 (Nat.le_refl _) (by simp [maxLen]) rfl) rfl (HS.out.below ((Below.refl _ _).alloc (Nat.le_refl _) _)) (BV_one _) (by unfold maxLen; omega) (by omega) (by simp) ?_))
    intro ad' c' w3 hown3 hgrow3 hat3 hnil3
    try simp only [Nat.zero_add, List.nil_append] at hown3
    have hb3 : Below w.heap.size w w3 := ((Below.refl w.heap.size w).alloc (Nat.le_refl _) _).grown hgrow3 (by simp) (fun k e => by simp [Value.ownBlock] at e; omega)
    have HO := Lib.hid hown3
    have HB := Lib.hid hb3
    clear hown3 hgrow3 hat3 hnil3 hb3
    go_wp2_with fail
    go_ret
    have hn := HN.out
    subst hn
    exact ⟨ad', c', rfl, HO.out, HB.out⟩


set_option maxRecDepth 100000 in
theorem pad_any (n : Int) (w : World) (h0 : -9223372036854775808 ≤ n) (h1 : n ≤ 9223372036854775807) :
    Calls Try.prog 72 #[.int .i64 n] w fun e w' => e = .returned (.int .i64 (padI n)) ∧ w = w' := by
  by_cases hn : n ≤ 0
  · go_enter Try.func72, Try.ntmps72
    go_wp2
    go_ret
    exact ⟨by unfold padI; rw [if_pos hn]; rfl, rfl⟩
  · have hn' : 0 < n := by omega
    go_enter Try.func72, Try.ntmps72
    go_wp2
    go_ret
    exact ⟨by unfold padI; rw [if_neg (by omega), show (4 - n % 4) % 4 = -(n % 4) % 4 by omega]; rfl, rfl⟩

set_option maxRecDepth 100000 in
theorem padded_any (ad : Option Addr) (n c : Nat) (l : List UInt8) (w : World) (hs : Bs w ad n c l) (hsz : n ≤ 140737488351232) :
    Calls Try.prog 79 #[.slice ad n c] w (RetB 5 (padL l) w) := by
  have hn := hs.len
  subst hn
  have HS := Lib.hid hs
  have hp3 := padN_le l.length
  clear hs
  go_enter Try.func79, Try.ntmps79
  go_wp2_with (first
    | (go_at_call 91; refine (clone_any _ _ _ l _ HS.out hsz).mono ?_; rintro e w1 ⟨ad1, c1, rfl, ho1, hb1⟩; have HO1 := Lib.hid ho1; have HB1 := Lib.hid hb1; clear ho1 hb1)
    | (go_at_call 72; refine (pad_any _ _ (by omega) (by omega)).mono ?_; rintro e w' ⟨rfl, rfl⟩; rw [padI_nat]))
  go_loopw [9, 3] (fun i v wr => ∃ (k : Nat) (ad' : Option Addr) (c' : Nat), k ≤ padN l.length ∧ i = .int .i64 k ∧ v = .slice ad' (l.length + k) c' ∧ wr.ownsRow w.heap.size 5 1 (.slice ad' (l.length + k) c') (l.length + k) (BV (padTo l k)) ∧ Below w.heap.size w wr) (fun i _ _ => padN l.length - (intOf i).toNat)
  case atStart => exact ⟨0, ad1, c1, Nat.zero_le _, rfl, rfl, by rw [padTo_zero]; exact HO1.out, HB1.out⟩
  case round =>
    obtain ⟨k, ad2, c2, hk, rfl, rfl, ho, hb⟩ := hrel
    have HO := Lib.hid ho
    have HB := Lib.hid hb
    clear ho hb HO1 HB1
    by_cases hlt : k < padN l.length
    · go_wp2_with ((with_reducible show wpList _ _ _ (⟨some 13, _, _, _, _, _⟩ :: _) _ _); go_must (refine wpL_append elB rfl (.tmp 11) (.tmp 12) rfl w.heap.size rfl (HO.out.alloc _) rfl (Bs.one _ _ 0) (BV_one [0]) (by unfold maxLen; omega) (by omega) (by have := HB.out.size; simp; omega) ?_))
      intro ad3 c3 w3 hown3 hgrow3 hat3 hnil3
      have HO3 := Lib.hid hown3
      have HB3 : Hid (Below w.heap.size w w3) := Lib.hid ((HB.out.alloc HB.out.size _).grown hgrow3 (by have := HB.out.size; simp; omega) (ownBlock_ge HO.out))
      clear hown3 hgrow3 hat3 hnil3
      go_wp2_with fail
      go_roundw
      case rel => exact ⟨k + 1, ad3, c3, by omega, by go_num, rfl, by rw [padTo_succ, BV_append]; exact HO3.out, HB3.out⟩
      case measure => simp [intOf]; omega
    · obtain rfl : k = padN l.length := by omega
      go_wp2_with fail
      go_ret
      refine ⟨ad2, c2, by rw [padL_length]; rfl, ?_, HB.out⟩
      rw [padL_length]
      exact HO.out

set_option maxRecDepth 100000 in
theorem refPut_any (n : Nat) (size : Int) (big : Bool) (w : World) (hn : (n : Int) ≤ 18446744073709551615) :
    Calls Try.prog 53 #[.int .u64 n, .int .i64 size, .bool big] w (RetB 5 (putL n size big) w) := by
  obtain ⟨L, hL⟩ : ∃ L, L = sizeOf8 size := ⟨_, rfl⟩
  have hL8 : L ≤ 8 := by rw [hL]; unfold sizeOf8; omega
  have hcase : (L = 8 ∧ 8 ≤ size) ∨ (L < 8 ∧ size < 8 ∧ (size = L ∨ (L = 0 ∧ size < 0))) := by rw [hL]; unfold sizeOf8; omega
  have HL := Lib.hid hL
  have HC := Lib.hid hcase
  clear hL hcase
  go_enter Try.func53, Try.ntmps53
  go_wp2_with fail
  go_loopw [0, 7, 8, 9] (fun m v i _ wr => ∃ (k : Nat) (ad' : Option Addr) (c' : Nat), k ≤ L ∧ i = .int .i64 k ∧ m = .int .u64 ((n / 256 ^ k : Nat) : Int) ∧ v = .slice ad' k c' ∧ wr.ownsRow w.heap.size 5 1 (.slice ad' k c') k (BV (if big then (putLE n k).reverse else putLE n k)) ∧ Below w.heap.size w wr) (fun _ _ i _ _ => L - (intOf i).toNat)
  case atStart => exact ⟨0, none, 0, Nat.zero_le _, rfl, by simp, rfl, by cases big <;> exact World.ownsRow_nil _ _ _ _, Below.refl _ _⟩
  case round =>
    obtain ⟨k, ad2, c2, hk, rfl, rfl, rfl, ho, hb⟩ := hrel
    have HO := Lib.hid ho
    have HB := Lib.hid hb
    clear ho hb
    by_cases hlt : k < L
    · have h1 : (k : Int) < size := by rcases HC.out with ⟨a, b⟩ | ⟨a, b, c⟩ <;> omega
      have h2 : (k : Int) < 8 := by omega
      have hv := byteAt_mod n k
      have hq2 := quo_succ n k
      have hnn : ((n / 256 ^ k : Nat) : Int) ≤ 18446744073709551615 := by
        have := Nat.div_le_self n (256 ^ k)
        omega
      generalize n / 256 ^ k = q at *
      have hb255 := (byteAt n k).toNat_lt
      have HQ2 := Lib.hid hq2
      clear hq2
      cases big
      · go_wp2_with ((with_reducible show wpList _ _ _ (⟨some 32, _, _, _, _, _⟩ :: _) _ _); go_must (refine wpL_append elB rfl (.tmp 29) (.tmp 31) rfl w.heap.size rfl (HO.out.alloc _) rfl (Bs.one _ _ (byteAt n k)) (BV_one [byteAt n k]) (by unfold maxLen; omega) (by omega) (by have := HB.out.size; simp; omega) ?_))
        intro ad3 c3 w3 hown3 hgrow3 hat3 hnil3
        have HO3 := Lib.hid hown3
        have HB3 : Hid (Below w.heap.size w w3) := Lib.hid ((HB.out.alloc HB.out.size _).grown hgrow3 (by have := HB.out.size; simp; omega) (ownBlock_ge HO.out))
        clear hown3 hgrow3 hat3 hnil3
        go_wp2_with fail
        go_roundw
        case rel => exact ⟨k + 1, ad3, c3, by omega, by go_num, by rw [← HQ2.out], rfl, by have := HO3.out; simpa [putLE_succ, BV_append] using this, HB3.out⟩
        case measure => simp [intOf]; omega
      · go_wp2_with ((with_reducible show wpList _ _ _ (⟨some 28, _, _, _, _, _⟩ :: _) _ _); go_must (refine wpL_append elB rfl (.tmp 26) (.tmp 27) rfl w.heap.size rfl (World.ownsRow_lit (size := 1) (e := 5) wr #[.int .u8 ((byteAt n k).toNat : Int)] 1 HB.out.size (by simp [maxLen]) rfl) rfl (Sl.below (Sl.of_own HO.out) ((Below.refl _ _).alloc (Nat.le_refl _) _)) (BV_one _) (by unfold maxLen; omega) (by omega) (by have := HB.out.size; simp; omega) ?_))
        intro ad3 c3 w3 hown3 hgrow3 hat3 hnil3
        have HO3 := Lib.hid hown3
        have HB3 : Hid (Below w.heap.size w w3) := Lib.hid ((HB.out.alloc HB.out.size _).grown hgrow3 (by have := HB.out.size; simp; omega) (fun j e => by have := HB.out.size; simp [Value.ownBlock] at e; omega))
        clear hown3 hgrow3 hat3 hnil3
        go_wp2_with fail
        go_roundw
        case rel => exact ⟨k + 1, ad3, c3, by omega, by go_num, by rw [← HQ2.out], by rw [Nat.add_comm k 1], by have h := HO3.out; rw [Nat.add_comm 1 k] at h; simpa [putLE_succ, BV_append, BV] using h, HB3.out⟩
        case measure => simp [intOf]; omega
    · obtain rfl : k = L := by omega
      have HL2 := Lib.hid (putL_to n size big k HL.out)
      have h1 : ¬ ((k : Int) < size ∧ (k : Int) < 8) := by rcases HC.out with ⟨a, b⟩ | ⟨a, b, c⟩ <;> omega
      by_cases h2 : (k : Int) < size
      · have h3 : ¬ (k : Int) < 8 := fun h => h1 ⟨h2, h⟩
        clear h1
        go_wp2_with fail
        go_ret
        refine ⟨ad2, c2, ?_, ?_, HB.out⟩
        · rw [putL_length, ← HL.out]; rfl
        · rw [putL_length, ← HL.out, ← HL2.out]; exact HO.out
      · clear h1
        go_wp2_with fail
        go_ret
        refine ⟨ad2, c2, ?_, ?_, HB.out⟩
        · rw [putL_length, ← HL.out]; rfl
        · rw [putL_length, ← HL.out, ← HL2.out]; exact HO.out
end Go.Proofs.Ytmfplinbbcoahaa
/-
  The contracts of the document's functions on bytes: Get, Turn, Padded, Same.
-/
namespace Go.Proofs.Ytmfplinbbcoahaa
open Go.RowKit Go.Sort
set_option linter.unusedVariables false
set_option linter.unusedSimpArgs false

theorem stepN_int (a : Nat) (b : UInt8) : 256 * (a : Int) + ((b.toNat : Nat) : Int) = ((stepN a b : Nat) : Int) := by unfold stepN; omega
theorem at8_take (l : List UInt8) (k j : Nat) (h : j < k) : at8 (l.take k) j = at8 l j := by
  simp [at8, List.getD, h]

set_option maxRecDepth 100000 in
set_option maxHeartbeats 1000000 in
theorem refGet_any (ad : Option Addr) (n c : Nat) (l : List UInt8) (big : Bool) (w : World) (hs : Bs w ad n c l) :
    Calls Try.prog 61 #[.slice ad n c, .bool big] w fun e w' => e = .returned (.int .u64 (getN l big)) ∧ w = w' := by
  obtain ⟨m, hm⟩ : ∃ m, m = min n 8 := ⟨_, rfl⟩
  have hn := hs.len
  have hc := hs.le
  have hlen : m = (l.take 8).length := by rw [List.length_take]; omega
  have HS := Lib.hid hs
  have HM := Lib.hid hm
  have HL := Lib.hid hlen
  have HN := Lib.hid hn
  have hcase : (8 < (n : Int) ∧ m = 8) ∨ ((n : Int) ≤ 8 ∧ m = n) := by omega
  have hmn : m ≤ n := by omega
  have hm8 : m ≤ 8 := by omega
  have HG : Hid (getN l big = if big then numBE (l.take 8) else numFrom (l.take 8) m) := Lib.hid (by rw [hlen, numFrom_all]; rfl)
  clear hs hm hlen hn
  rcases hcase with ⟨h1, rfl⟩ | ⟨h1, rfl⟩
  all_goals
    cases big
    · go_enter Try.func61, Try.ntmps61
      go_wp2
      go_loop [6, 7] (fun v i => ∃ k : Nat, k ≤ (l.take 8).length ∧ i = .int .i64 k ∧ v = .int .u64 ((numFrom (l.take 8) k : Nat) : Int)) (fun _ i => 8 - (intOf i).toNat)
      case atStart => exact ⟨0, Nat.zero_le _, rfl, rfl⟩
      case round =>
        obtain ⟨k, hk, rfl, rfl⟩ := hrel
        rw [← HL.out] at hk
        by_cases hlt : k < (l.take 8).length
        · rw [← HL.out] at hlt
          have hst := numFrom_succ (l.take 8) k (by rw [← HL.out]; exact hlt)
          have hb := numFrom_lt7 (l.take 8) k (by omega)
          obtain ⟨j, hj⟩ : ∃ j, j = (l.take 8).length - 1 - k := ⟨_, rfl⟩
          rw [← HL.out] at hj
          have hj8 : j < 8 := by omega
          rw [← HL.out, ← hj, at8_take _ _ _ hj8] at hst
          obtain ⟨b, off, rfl, _, hcc⟩ := HS.out.at (j := 0) (by have := HN.out; omega)
          have hcx := hcc j (by have := HN.out; omega)
          obtain ⟨by8, hby⟩ : ∃ by8, by8 = at8 l j := ⟨_, rfl⟩
          rw [← hby] at hcx hst
          have HST := Lib.hid hst
          clear hst hby
          rw [hj] at hcx
          try simp only [Nat.reduceSub] at hcx
          clear hj hj8
          generalize numFrom (l.take 8) k = a at *
          have hb8 := by8.toNat_lt
          clear hcc
          go_wp2_with fail
          go_round
          case rel => exact ⟨k + 1, by have := HL.out; omega, by go_num, by rw [HST.out, ← stepN_int] <;> go_num⟩
          case measure => simp [intOf]; omega
        · have e := HG.out
          rw [if_neg (by simp)] at e
          obtain hk2 : k = (l.take 8).length := by have := HL.out; omega
          rw [hk2, ← HL.out, ← e]
          clear e hk2
          go_wp2_with fail
          go_ret
          exact ⟨rfl, rfl⟩
    · go_enter Try.func61, Try.ntmps61
      go_wp2
      go_loop [6, 7] (fun v i => ∃ k : Nat, k ≤ (l.take 8).length ∧ i = .int .i64 k ∧ v = .int .u64 ((numBE ((l.take 8).take k) : Nat) : Int)) (fun _ i => 8 - (intOf i).toNat)
      case atStart => exact ⟨0, Nat.zero_le _, rfl, rfl⟩
      case round =>
        obtain ⟨k, hk, rfl, rfl⟩ := hrel
        rw [← HL.out] at hk
        by_cases hlt : k < (l.take 8).length
        · have hst := numBE_take_succ (l.take 8) k hlt
          rw [← HL.out] at hlt
          have hb := numBE_lt7 ((l.take 8).take k) (by rw [List.length_take]; omega)
          have hk8 : k < 8 := by omega
          rw [at8_take _ _ _ hk8] at hst
          obtain ⟨b, off, rfl, _, hcc⟩ := HS.out.at (j := 0) (by have := HN.out; omega)
          have hcx := hcc k (by have := HN.out; omega)
          obtain ⟨by8, hby⟩ : ∃ by8, by8 = at8 l k := ⟨_, rfl⟩
          rw [← hby] at hcx hst
          have HST := Lib.hid hst
          clear hst hby
          generalize numBE ((l.take 8).take k) = a at *
          have hb8 := by8.toNat_lt
          clear hcc
          go_wp2_with fail
          go_round
          case rel => exact ⟨k + 1, by have := HL.out; omega, by go_num, by rw [HST.out, ← stepN_int] <;> go_num⟩
          case measure => simp [intOf]; omega
        · have e := HG.out
          simp only [if_true] at e
          rw [List.take_of_length_le (show (l.take 8).length ≤ k by omega), ← e]
          clear e
          obtain hk2 : k = (l.take 8).length := by have := HL.out; omega
          rw [← HL.out] at hk2
          go_wp2_with fail
          go_ret
          exact ⟨rfl, rfl⟩
end Go.Proofs.Ytmfplinbbcoahaa
/-
  The contracts of the document's functions on bytes, continued: Turn, Padded, Same; what the anchor asks.
-/
namespace Go.Proofs.Ytmfplinbbcoahaa
open Go.RowKit Go.Sort
set_option linter.unusedVariables false
set_option linter.unusedSimpArgs false

/-- how long a slice is -/
def lenV : Value → Nat
  | .slice _ n _ => n
  | _ => 0

theorem take_snocR (l : List UInt8) (k : Nat) (h : k < l.length) : l.reverse.take (k + 1) = l.reverse.take k ++ [at8 l (l.length - 1 - k)] := by
  rw [List.take_add_one, List.getElem?_eq_getElem (by simpa using h), at8_get l _ (by omega), List.getElem_reverse]; rfl


set_option maxRecDepth 100000 in
theorem refPadded_any (ad : Option Addr) (n c : Nat) (l : List UInt8) (w : World) (hs : Bs w ad n c l) (hsz : n ≤ 140737488351232) :
    Calls Try.prog 55 #[.slice ad n c] w (RetB 5 (padL l) w) := by
  have hn := hs.len
  subst hn
  have HS := Lib.hid hs
  have hp3 := padN_le l.length
  clear hs
  go_enter Try.func55, Try.ntmps55
  go_wp2_with ((with_reducible show wpList _ _ _ (⟨some 6, _, _, _, _, _⟩ :: _) _ _); go_must (refine wpL_append elB rfl (.tmp 4) (.tmp 5) rfl w.heap.size rfl (World.ownsRow_lit (size := 1) (e := 5) w #[] 0 (Nat.le_refl _) (by simp [maxLen]) rfl) rfl (HS.out.below ((Below.refl _ _).alloc (Nat.le_refl _) _)) (BV_one _) (by unfold maxLen; omega) (by omega) (by simp) ?_))
  intro ad1 c1 w1 hown1 hgrow1 hat1 hnil1
  try simp only [Nat.zero_add, List.nil_append] at hown1
  have hb1 : Below w.heap.size w w1 := ((Below.refl w.heap.size w).alloc (Nat.le_refl _) _).grown hgrow1 (by simp) (fun k e => by simp [Value.ownBlock] at e; omega)
  have HO1 := Lib.hid hown1
  have HB1 := Lib.hid hb1
  clear hown1 hgrow1 hat1 hnil1 hb1
  go_wp2_with fail
  go_loopw [3] (fun v wr => ∃ (k : Nat) (ad' : Option Addr) (c' : Nat), k ≤ padN l.length ∧ v = .slice ad' (l.length + k) c' ∧ wr.ownsRow w.heap.size 5 1 (.slice ad' (l.length + k) c') (l.length + k) (BV (padTo l k)) ∧ Below w.heap.size w wr) (fun v _ => l.length + padN l.length - lenV v)
  case atStart => exact ⟨0, ad1, c1, Nat.zero_le _, by simp, by rw [padTo_zero]; exact HO1.out, HB1.out⟩
  case round =>
    obtain ⟨k, ad2, c2, hk, rfl, ho, hb⟩ := hrel
    have HO := Lib.hid ho
    have HB := Lib.hid hb
    have H1 := Lib.hid (padN_end l.length k · hk)
    have H2 := Lib.hid (padN_more l.length k · hk)
    clear ho hb HO1 HB1
    by_cases h4 : (l.length + k) % 4 = 0
    · have hkk := H1.out h4
      have h5 : (((l.length + k : Nat) : Int)) % 4 = 0 := by omega
      subst hkk
      go_wp2_with fail
      go_ret
      refine ⟨ad2, c2, by rw [padL_length]; rfl, ?_, HB.out⟩
      rw [padL_length]
      exact HO.out
    · have hlt := H2.out h4
      have h5 : (((l.length + k : Nat) : Int)) % 4 ≠ 0 := by omega
      go_wp2_with ((with_reducible show wpList _ _ _ (⟨some 13, _, _, _, _, _⟩ :: _) _ _); go_must (refine wpL_append elB rfl (.tmp 11) (.tmp 12) rfl w.heap.size rfl (HO.out.alloc _) rfl (Bs.one _ _ 0) (BV_one [0]) (by unfold maxLen; omega) (by omega) (by have := HB.out.size; simp; omega) ?_))
      intro ad3 c3 w3 hown3 hgrow3 hat3 hnil3
      have HO3 := Lib.hid hown3
      have HB3 : Hid (Below w.heap.size w w3) := Lib.hid ((HB.out.alloc HB.out.size _).grown hgrow3 (by have := HB.out.size; simp; omega) (ownBlock_ge HO.out))
      clear hown3 hgrow3 hat3 hnil3
      go_wp2_with fail
      go_roundw
      case rel => exact ⟨k + 1, ad3, c3, by omega, rfl, by rw [padTo_succ, BV_append]; exact HO3.out, HB3.out⟩
      case measure => simp only [lenV]; omega

end Go.Proofs.Ytmfplinbbcoahaa
/-
  What is known is carried from call to call.
-/
namespace Go.Proofs.Ytmfplinbbcoahaa
open Go.RowKit Go.Sort
set_option linter.unusedVariables false
set_option linter.unusedSimpArgs false

theorem Below.next {A : Nat} {v w a w' : World} (h : Below A v w) (hA : A ≤ w.heap.size) (hu : Below w.heap.size w a) (hb : Below a.heap.size a w') : Below A v w' :=
  h.trans ((hu.trans (hb.mono hu.size)).mono hA)
theorem cB {w a w' : World} {ad : Option Addr} {n c : Nat} {l : List UInt8} (h : Hid (Bs w ad n c l)) (hu : Below w.heap.size w a) (hb : Below a.heap.size a w') : Hid (Bs w' ad n c l) :=
  Lib.hid ((h.out.below hu).below hb)
theorem cK {v w a w' : World} (h : Hid (Below v.heap.size v w)) (hu : Below w.heap.size w a) (hb : Below a.heap.size a w') : Hid (Below v.heap.size v w') :=
  Lib.hid (Below.next h.out h.out.size hu hb)
theorem cO {w a w' : World} {base : Nat} {e : TypeId} {size : Nat} {ad : Option Addr} {n c : Nat} {xs : List Value} (h : Hid (w.ownsRow base e size (.slice ad n c) n xs)) (hu : Below w.heap.size w a) (hb : Below a.heap.size a w') : Hid (w'.ownsRow base e size (.slice ad n c) n xs) :=
  Lib.hid (own_keep (own_keep h.out hu) hb)

/-- the compact forms: one step for all -/
theorem cU {v w a w' : World} (h : Hid (Below v.heap.size v w)) (hu : Below w.heap.size w a) (hb : Below a.heap.size a w') : Below w.heap.size w w' := hu.trans (hb.mono hu.size)
theorem cB1 {w w' : World} {ad : Option Addr} {n c : Nat} {l : List UInt8} (h : Hid (Bs w ad n c l)) (hE : Below w.heap.size w w') : Hid (Bs w' ad n c l) := Lib.hid (h.out.below hE)
theorem cK1 {v w w' : World} (h : Hid (Below v.heap.size v w)) (hE : Below w.heap.size w w') : Hid (Below v.heap.size v w') := Lib.hid (h.out.trans (hE.mono h.out.size))
theorem cO1 {w w' : World} {base : Nat} {e : TypeId} {size : Nat} {ad : Option Addr} {n c : Nat} {xs : List Value} (h : Hid (w.ownsRow base e size (.slice ad n c) n xs)) (hE : Below w.heap.size w w') : Hid (w'.ownsRow base e size (.slice ad n c) n xs) := Lib.hid (own_keep h.out hE)

set_option maxRecDepth 100000 in
theorem put_int (z : Int) (size : Int) (big : Bool) (w : World) (h0 : 0 ≤ z) (h1 : z ≤ 18446744073709551615) :
    Calls Try.prog 47 #[.int .u64 z, .int .i64 size, .bool big] w (RetB 5 (putL z.toNat size big) w) := by
  have := put_any z.toNat size big w (by omega)
  rwa [Int.toNat_of_nonneg h0] at this
set_option maxRecDepth 100000 in
theorem refPut_int (z : Int) (size : Int) (big : Bool) (w : World) (h0 : 0 ≤ z) (h1 : z ≤ 18446744073709551615) :
    Calls Try.prog 53 #[.int .u64 z, .int .i64 size, .bool big] w (RetB 5 (putL z.toNat size big) w) := by
  have := refPut_any z.toNat size big w (by omega)
  rwa [Int.toNat_of_nonneg h0] at this

end Go.Proofs.Ytmfplinbbcoahaa
/-
  Laws of single operations as steps of a region that draws its order.
-/
namespace Go.Proofs.Ytmfplinbbcoahaa
open Go.RowKit Go.Sort
set_option linter.unusedVariables false
set_option linter.unusedSimpArgs false

theorem step_run {P : Program} {w w' : World} {ops : Array Oper} {o : Oper} {a : Act} {K : Act → World → Prop} {Q : Exit → Act → World → Prop} {E : Prop} (hgd : Region.wanted o (yielded ops a.tmps) = true) {v : Value}
    (hrun : (execOp a.eval o).run P w = .ok (.value v) w') (h : K (a.put o.dst v) w') : if Region.wanted o (yielded ops a.tmps) = true then Oper.wp P o a w K Q else E := by
  rw [if_pos hgd]
  unfold Oper.wp
  rw [hrun]
  exact h

/-- 'append(s, x...)', s the call's own (or nil), x whatever: a step. -/
theorem step_append {P : Program} {w : World} {ops : Array Oper} {o : Oper} {a : Act} {K : Act → World → Prop} {Q : Exit → Act → World → Prop} {E : Prop} {t e : TypeId} {size bytes : Nat} {z : Value} (el : Elem P t e size bytes z)
    (hgd : Region.wanted o (yielded ops a.tmps) = true) (s x : Operand) (ho : o.op = .call { callee := .builtin .append, args := #[s, x], argTypes := #[t, t] })
    (base : Nat) {ad : Option Addr} {n c : Nat} {xs : List Value} (hs : a.eval s = .slice ad n c) (hown : w.ownsRow base e size (.slice ad n c) n xs)
    {ad2 : Option Addr} {m c2 : Nat} {news : List Value} (hx : a.eval x = .slice ad2 m c2) (hsl : Sl w ad2 m c2 size news) (h1 : ∀ u ∈ news, u.oneCell' = true)
    (h63 : n + m ≤ maxLen) (hbytes : (n + m) * bytes ≤ 140737488355328) (hbase : base ≤ w.heap.size)
    (h : ∀ ad' c' w', w'.ownsRow base e size (.slice ad' (n + m) c') (n + m) (xs ++ news) → w.grownBy w' (Value.ownBlock (.slice ad n c)) →
      (ad' = ad ∨ ad' = some ⟨w.heap.size, 0, none⟩) → (ad' = none ↔ ad = none ∧ m = 0) → K (a.put o.dst (.slice ad' (n + m) c')) w') :
    if Region.wanted o (yielded ops a.tmps) = true then Oper.wp P o a w K Q else E := by
  obtain ⟨ad', c', w', hr, h2, h3, h4, h5⟩ := run_append (P := P) (ty := o.type) el base hown hsl h1 h63 hbytes hbase
  refine step_run hgd (v := .slice ad' (n + m) c') (w' := w') ?_ (h ad' c' w' h2 h3 h4 h5)
  unfold execOp
  simp only [ho, resolve, invoke, builtin, Sem.run_bind, Sem.run_pure, Result.andThen_ok, List.map_toArray, List.map_cons, List.map_nil, hs, hx, hr]

theorem grown_alloc (w : World) (o : Obj) (row : Option Nat) : w.grownBy (w.alloc o) row := ⟨rfl, rfl, rfl, by simp, fun k hk _ => Below.heap_alloc w o k hk⟩
/-- 'append(s, v)', s the call's own, v laid as a literal of one element: what owned goes on owning, below B nothing has changed. -/
theorem wpL_push {P : Program} {w : World} {ops : Array Oper} {rest : List Oper} {o : Oper} {a : Act} {Q : Exit → Act → World → Prop} {t e : TypeId} {size bytes : Nat} {z : Value} (el : Elem P t e size bytes z)
    (hgd : Region.wanted o (yielded ops a.tmps) = true) (s x : Operand) (ho : o.op = .call { callee := .builtin .append, args := #[s, x], argTypes := #[t, t] })
    (base : Nat) {ad : Option Addr} {n c : Nat} {xs : List Value} (hs : a.eval s = .slice ad n c) (hown : w.ownsRow base e size (.slice ad n c) n xs)
    (cs : Array Value) {b e' : Nat} (m : Nat) (hx : a.eval x = .slice (some ⟨b, 0, none⟩) m m) (hb : b = w.heap.size) (hcs : cs.size = m * size) (h1 : ∀ u ∈ cs.toList, u.oneCell' = true) (hm : m ≤ 1000000)
    (h63 : n ≤ 140737488000000) (hbytes : (n + m) * bytes ≤ 140737488355328) (hbase : base ≤ w.heap.size) {B : Nat} {W : World} (hB : Below B W w) (hBb : B ≤ base)
    (h : ∀ ad' c' w', w'.ownsRow base e size (.slice ad' (n + m) c') (n + m) (xs ++ cs.toList) → Below B W w' → w.grownBy w' (Value.ownBlock (.slice ad n c)) → wpList P ops Q rest (a.put o.dst (.slice ad' (n + m) c')) w') :
    wpList P ops Q (o :: rest) a (w.alloc (.cells cs e')) := by
  subst hb
  refine wpL_append el hgd s x ho base hs (hown.alloc _) hx (Sl.lit w cs e' m size hcs (by unfold maxLen; omega)) h1 (by unfold maxLen; omega) hbytes (by simp; omega) ?_
  intro ad' c' w' h2 h3 h4 h5
  have hz : w.heap.size ≤ (w.alloc (.cells cs e')).heap.size := by simp
  refine h ad' c' w' h2 ((hB.alloc (by omega) _).grown h3 (by simp; omega) (fun k hk => Nat.le_trans hBb (ownBlock_ge hown k hk))) ?_
  exact World.grownBy.trans (grown_alloc w _ _) h3

theorem range_below {w w' : World} {b o : Nat} {cs : List Value} {B : Nat} (h : w.rangeAt b o cs) (hb : b < B) (hw : Below B w w') : w'.rangeAt b o cs :=
  fun j v hv => (hw.cell (p := ⟨b, o + j, none⟩) hb).trans (h j v hv)
theorem own_lit {v : World} {base b : Nat} {e : TypeId} (cs : Array Value) (size n : Nat) (hb : b = v.heap.size) (hbase : base ≤ v.heap.size) (hs : cs.size = n * size) (hn : n ≤ 1000000) : (v.alloc (.cells cs e)).ownsRow base e size (.slice (some ⟨b, 0, none⟩) n n) n cs.toList := by
  subst hb
  exact World.ownsRow_lit v cs n hbase (by unfold maxLen; omega) hs

/-- 'x := T{..}' of a variable that lies in memory: a new block, and the cells stored into it. -/
theorem wpL_new {P : Program} {w : World} {ops : Array Oper} {rest : List Oper} {o1 o2 : Oper} {a : Act} {Q : Exit → Act → World → Prop} (hg1 : o1.guard = none) (hg2 : o2.guard = none) (T : TypeId) (ho1 : o1.op = .alloc T) (x y : Operand) (ho2 : o2.op = .store T x y)
    (cs zs : Array Value) (hi : (P.info? T).map (fun i => (i.zero, i.size)) = some (some (.agg zs), cs.size)) (hz : zs.size = cs.size) (h1 : cs.all (·.oneCell') = true)
    (hx : ∀ p, (a.put o1.dst p).eval x = p) (hy : ∀ p, (a.put o1.dst p).eval y = .agg cs)
    (h : wpList P ops Q rest ((a.put o1.dst (.pointer (some ⟨w.heap.size, 0, none⟩))).put o2.dst undef) (w.alloc (.cells cs T))) :
    wpList P ops Q (o1 :: o2 :: rest) a w := by
  obtain ⟨hz0, hsz⟩ := zero_of_info hi
  refine wpL_run (v := .pointer (some ⟨w.heap.size, 0, none⟩)) (w' := w.alloc (.cells zs T)) (by simp [Region.wanted, hg1]) ?_ ?_
  · simp [execOp, ho1, Instr.alloc, hz0, newVar, newRow, Value.cells]
  · refine wpList_store_row hg2 T x y ho2 w.heap.size cs (hx _) (hy _) T zs (heap_alloc_last w _) hsz hz h1 ?_
    rw [World.setRow_alloc_new]
    exact h

/-- an operation of a drawn region taken first, its conditions in one -/
theorem tk {P : Program} {ops : Array Oper} {Q : Exit → Act → World → Prop} {md : Region.Mode} {S : World → Prop} (i : Nat) {oi : Oper} {v : Value} {fuel : Nat} {listed : Array Bool} {a : Act} {w : World} (hi : ops[i]? = some oi)
    (hk : (Region.noSelect ops && (Region.free md ops listed i && (Region.ready md ops listed).contains i)) = true) (hy : YieldsIf P ops S oi v a) (hS : S w)
    (h : wpAnyH P md ops Q S fuel (listed.setIfInBounds i true) (a.put oi.dst v) w) (hQ : ∀ c a w, Q (.panic c) (a.put oi.dst v) w → Q (.panic c) a w := by exact fun _ _ _ h => h) : wpAnyH P md ops Q S (fuel + 1) listed a w := by
  simp only [Bool.and_eq_true] at hk
  exact wpAnyH_take hi hk.1 hk.2.1 hk.2.2 hQ hy hS h
end Go.Proofs.Ytmfplinbbcoahaa
/-
  Bytes out of a string, and what is appended to them. Over any program.
-/
namespace Go.Proofs.Ytmfplinbbcoahaa
open Go.RowKit Go.Sort
set_option linter.unusedVariables false
set_option linter.unusedSimpArgs false

/-- block g (B or later) holds the bytes l at its head; c cells of it may be written -/
def Fresh (w : World) (B g n c : Nat) (l : List UInt8) : Prop :=
  ∃ cur e fz, w.heap[g]? = some (.cells cur e fz) ∧ B ≤ g ∧ n = l.length ∧ n ≤ c ∧ c ≤ maxLen ∧ c ≤ cur.size ∧ c ≤ fz.1 ∧ cur.toList.take n = BV l

theorem Fresh.lt {w : World} {B g n c : Nat} {l : List UInt8} (h : Fresh w B g n c l) : g < w.heap.size := by
  obtain ⟨cur, e, fz, hg, _⟩ := h
  exact lt_of_block hg
theorem Fresh.below {w w' : World} {B g n c : Nat} {l : List UInt8} (h : Fresh w B g n c l) (hb : Below w.heap.size w w') : Fresh w' B g n c l := by
  obtain ⟨cur, e, fz, hg, r⟩ := h
  exact ⟨cur, e, fz, (hb.block g (lt_of_block hg)).trans hg, r⟩
theorem Fresh.bs {w : World} {B g n c : Nat} {l : List UInt8} (h : Fresh w B g n c l) : Bs w (some ⟨g, 0, none⟩) n c l := by
  obtain ⟨cur, e, fz, hg, hB, hn, hnc, hcm, hcs, hf, ht⟩ := h
  refine ⟨by rw [BV_length]; omega, hnc, hcm, by simp, fun j u hj => ⟨_, rfl, ?_⟩⟩
  rw [addr_add, Nat.zero_add]
  have hjn : j < n := by have := (List.getElem?_eq_some_iff.1 hj).1; rw [BV_length] at this; omega
  rw [← ht, List.getElem?_take, if_pos hjn] at hj
  simpa [World.cell?, hg] using hj

theorem below_setCells {B b : Nat} (hB : B ≤ b) : ∀ (vs : List Value) (o : Nat) (w : World), Below B w (w.setCells b o vs)
  | [], _, w => Below.refl B w
  | v :: vs, o, w => by
    unfold World.setCells
    exact ((Below.refl B w).setCell (p := ⟨b, o, none⟩) hB v).trans (below_setCells hB vs (o + 1) _)
theorem run_conv {P : Program} {w : World} {src dst e : TypeId} (s : ByteArray) (hs : P.underlying src = some .string) (hd : P.underlying dst = some (.slice e)) (he : P.underlying e = some (.int .u8)) (hsz : s.size ≤ 140737488351232) :
    ∃ c w', (convert src dst (.string s)).run P w = .ok (.slice (some ⟨w.heap.size, 0, none⟩) s.size c) w' ∧ Fresh w' w.heap.size w.heap.size s.size c s.data.toList ∧ Below w.heap.size w w' := by
  refine ⟨grownCap w s.size 0 e, _, run_bytes_of_string w src dst e s hs hd he, ⟨_, _, _, heap_alloc_new w.drew _, Nat.le_refl _, Array.length_toList.symm, ?_, ?_, ?_, ?_, ?_⟩, ?_⟩
  · exact grownCap_ge w s.size 0 e
  · exact grownCap_le_maxLen w s.size 0 e (by unfold maxLen; omega)
  · simp [bytesRow]; omega
  · simp [bytesRow]; omega
  · unfold bytesRow BV
    rw [Array.toList_append, Array.toList_map]
    exact List.take_left' (by rw [List.length_map]; exact Array.length_toList)
  · exact ((Below.refl w.heap.size w).drew).alloc (Nat.le_refl _) _

/-- one byte is appended -/
theorem run_append_fresh {P : Program} {w : World} {t ty e : TypeId} {bytes : Nat} {z : Value} (el : Elem P t e 1 bytes z) {B g n c : Nat} {l : List UInt8} (h : Fresh w B g n c l)
    {ad2 : Option Addr} {m c2 : Nat} {news : List UInt8} (hsl : Bs w ad2 m c2 news) (hm : 0 < m) (h63 : n + m ≤ 140737488351232) (hby : bytes ≤ 1) (hBw : B ≤ w.heap.size) :
    ∃ ad' c' w', (Builtin.append_ #[t, t] ty #[.slice (some ⟨g, 0, none⟩) n c, .slice ad2 m c2]).run P w = .ok (.slice ad' (n + m) c') w' ∧ Bs w' ad' (n + m) c' (l ++ news) ∧ Below B w w' := by
  obtain ⟨i, hi, hz, hsize, hbb⟩ := info_parts el.info
  obtain ⟨cur, e', fz, hg, hB, hn, hnc, hcm, hcs, hf, ht⟩ := h
  have hml := hsl.len
  obtain ⟨b2, o2, rfl, _, hcc⟩ := hsl.at (j := 0) (by omega)
  have hl2 : (BV news).length = m * i.size := by rw [BV_length, hsize]; omega
  have hnews : ∀ j u, (BV news)[j]? = some u → w.cell? ((⟨b2, o2, none⟩ : Addr).add j) = some u := fun j u hj => by
    obtain ⟨y, hy, hc⟩ := hsl.2.2.2.2 j u hj
    cases hy
    exact hc
  by_cases hr : n + m ≤ c
  · have hrun := run_append_room_cells (P := P) w t ty e i el.ht hi g 0 n c ⟨b2, o2, none⟩ m c2 (BV news) hl2 hnews (BV_one _) hr
      (fun j hj => by
        have hjm : j < m := by rw [BV_length] at hj; omega
        rw [hsize]
        have : n + j < cur.size := by omega
        simp [World.cell?, hg, this])
      (fun j hj => by
        have hjm : j < m := by rw [BV_length] at hj; omega
        rw [hsize]
        simp [World.frozen?, hg]
        omega)
    refine ⟨some ⟨g, 0, none⟩, c, _, hrun, ?_, ?_⟩
    · refine ⟨by rw [BV_length, List.length_append]; omega, hr, hcm, by simp, fun j u hj => ⟨_, rfl, ?_⟩⟩
      rw [addr_add, Nat.zero_add, hsize]
      simp only [Nat.zero_add, Nat.mul_one]
      have hjl : j < n + m := by have := (List.getElem?_eq_some_iff.1 hj).1; rw [BV_length, List.length_append] at this; omega
      by_cases hjn : j < n
      · rw [World.cell?_setCells_out g _ n w ⟨g, j, none⟩ (fun _ _ => .inl hjn)]
        rw [BV_append, List.getElem?_append_left (by rw [BV_length]; omega), ← ht, List.getElem?_take, if_pos hjn] at hj
        simpa [World.cell?, hg] using hj
      · have hin := World.cell?_setCells_in g (BV news) n w (fun k hk => by
          have hkm : k < m := by rw [BV_length] at hk; omega
          have : n + k < cur.size := by omega
          simp [World.cell?, hg, this]) (j - n) (by rw [BV_length]; omega)
        rw [show n + (j - n) = j by omega] at hin
        rw [hin, ← hj, BV_append, List.getElem?_append_right (by rw [BV_length]; omega), show j - (BV l).length = j - n by rw [BV_length]; omega, List.getElem?_eq_getElem]
    · exact below_setCells hB _ _ w
  · obtain ⟨v', w', hrun, r1, r2⟩ := run_append_arg_grows (P := P) w t ty e i z 1 bytes el.ht hi hz hsize hbb el.hzs el.hsz ⟨g, 0, none⟩ n c (BV l) (by rw [BV_length]; omega)
      (fun j u hj => by
        have hjn : j < n := by have := (List.getElem?_eq_some_iff.1 hj).1; rw [BV_length] at this; omega
        rw [← ht, List.getElem?_take, if_pos hjn] at hj
        rw [addr_add, Nat.zero_add]
        simpa [World.cell?, hg] using hj) ⟨b2, o2, none⟩ m c2 (BV news) (by rw [BV_length]; omega) hnews (by omega) (by unfold maxLen; omega) (by
          have := Nat.mul_le_mul_left (n + m) hby
          omega)
    obtain ⟨ad', c', rfl, _⟩ := own_forms r1
    refine ⟨ad', c', w', hrun, ?_, ?_⟩
    · have := Sl.of_own r1
      rw [← BV_append] at this
      exact this
    · exact ((Below.refl B w).grown r2 hBw (fun k hk => by cases hk))

/-! ### as steps -/
theorem wpL_conv {P : Program} {w : World} {ops : Array Oper} {rest : List Oper} {o : Oper} {a : Act} {Q : Exit → Act → World → Prop} {src dst e : TypeId} (s : ByteArray) (hs : P.underlying src = some .string) (hd : P.underlying dst = some (.slice e)) (he : P.underlying e = some (.int .u8)) (hsz : s.size ≤ 140737488351232)
    (hg : Region.wanted o (yielded ops a.tmps) = true) (x : Operand) (hop : o.op = Op.convert src dst x) (hx : a.eval x = .string s)
    (h : ∀ c w', Fresh w' w.heap.size w.heap.size s.size c s.data.toList → Below w.heap.size w w' → wpList P ops Q rest (a.put o.dst (.slice (some ⟨w.heap.size, 0, none⟩) s.size c)) w') : wpList P ops Q (o :: rest) a w := by
  obtain ⟨c, w', hr, h1, h2⟩ := run_conv (P := P) (w := w) s hs hd he hsz
  refine wpL_run hg ?_ (h c w' h1 h2)
  simp only [execOp, hop, hx, Sem.run_bind, hr, Result.andThen_ok, Sem.run_pure]
theorem step_conv {P : Program} {w : World} {ops : Array Oper} {o : Oper} {a : Act} {K : Act → World → Prop} {Q : Exit → Act → World → Prop} {E : Prop} {src dst e : TypeId} (s : ByteArray) (hs : P.underlying src = some .string) (hd : P.underlying dst = some (.slice e)) (he : P.underlying e = some (.int .u8)) (hsz : s.size ≤ 140737488351232)
    (hg : Region.wanted o (yielded ops a.tmps) = true) (x : Operand) (hop : o.op = Op.convert src dst x) (hx : a.eval x = .string s)
    (h : ∀ c w', Fresh w' w.heap.size w.heap.size s.size c s.data.toList → Below w.heap.size w w' → K (a.put o.dst (.slice (some ⟨w.heap.size, 0, none⟩) s.size c)) w') : if Region.wanted o (yielded ops a.tmps) = true then Oper.wp P o a w K Q else E := by
  obtain ⟨c, w', hr, h1, h2⟩ := run_conv (P := P) (w := w) s hs hd he hsz
  refine step_run hg ?_ (h c w' h1 h2)
  simp only [execOp, hop, hx, Sem.run_bind, hr, Result.andThen_ok, Sem.run_pure]
theorem step_append_fresh {P : Program} {w : World} {ops : Array Oper} {o : Oper} {a : Act} {K : Act → World → Prop} {Q : Exit → Act → World → Prop} {E : Prop} {t e : TypeId} {bytes : Nat} {z : Value} (el : Elem P t e 1 bytes z)
    (hgd : Region.wanted o (yielded ops a.tmps) = true) (s x : Operand) (ho : o.op = .call { callee := .builtin .append, args := #[s, x], argTypes := #[t, t] })
    {B g n c : Nat} {l : List UInt8} (hs : a.eval s = .slice (some ⟨g, 0, none⟩) n c) (hf : Fresh w B g n c l) {ad2 : Option Addr} {m c2 : Nat} {news : List UInt8} (hx : a.eval x = .slice ad2 m c2) (hsl : Bs w ad2 m c2 news) (hm : 0 < m) (h63 : n + m ≤ 140737488351232) (hby : bytes ≤ 1) (hBw : B ≤ w.heap.size)
    (h : ∀ ad' c' w', Bs w' ad' (n + m) c' (l ++ news) → Below B w w' → K (a.put o.dst (.slice ad' (n + m) c')) w') :
    if Region.wanted o (yielded ops a.tmps) = true then Oper.wp P o a w K Q else E := by
  obtain ⟨ad', c', w', hr, h2, h3⟩ := run_append_fresh (P := P) (ty := o.type) el hf hsl hm h63 hby hBw
  refine step_run hgd (v := .slice ad' (n + m) c') (w' := w') ?_ (h ad' c' w' h2 h3)
  unfold execOp
  simp only [ho, resolve, invoke, builtin, Sem.run_bind, Sem.run_pure, Result.andThen_ok, List.map_toArray, List.map_cons, List.map_nil, hs, hx, hr]
end Go.Proofs.Ytmfplinbbcoahaa
/-
  More laws of single operations: loads of rows, new variables, parts of slices. Over any program.
-/
namespace Go.Proofs.Ytmfplinbbcoahaa
open Go.RowKit Go.Sort
set_option linter.unusedVariables false
set_option linter.unusedSimpArgs false

theorem cells_get {w : World} {g : Nat} {cs : List Value} {ty : TypeId} {fz : Nat × Nat} (h : w.heap[g]? = some (.cells cs.toArray ty fz)) (j : Nat) : w.cell? ⟨g, j, none⟩ = cs[j]? := by
  simp [World.cell?, h]
theorem range_block {w : World} {b : Nat} {cs : List Value} {ty : TypeId} {fz : Nat × Nat} (h : w.heap[b]? = some (.cells cs.toArray ty fz)) : w.rangeAt b 0 cs :=
  fun j v hv => by rw [Nat.zero_add, cells_get h, hv]

theorem wpL_newAt {P : Program} {w : World} {ops : Array Oper} {rest : List Oper} {o1 o2 : Oper} {a : Act} {Q : Exit → Act → World → Prop} (b : Nat) (hg1 : o1.guard = none) (hg2 : o2.guard = none) (T : TypeId) (ho1 : o1.op = .alloc T) (x y : Operand) (ho2 : o2.op = .store T x y)
    (cs zs : Array Value) (hi : (P.info? T).map (fun i => (i.zero, i.size)) = some (some (.agg zs), cs.size)) (hz : zs.size = cs.size) (h1 : cs.all (·.oneCell') = true)
    (hx : ∀ p, (a.put o1.dst p).eval x = p) (hy : ∀ p, (a.put o1.dst p).eval y = .agg cs) (hb : b = w.heap.size)
    (h : wpList P ops Q rest ((a.put o1.dst (.pointer (some ⟨b, 0, none⟩))).put o2.dst undef) (w.alloc (.cells cs T))) :
    wpList P ops Q (o1 :: o2 :: rest) a w := by
  subst hb
  exact wpL_new hg1 hg2 T ho1 x y ho2 cs zs hi hz h1 hx hy h
theorem range_last {v : World} {b : Nat} {cs : List Value} {T : TypeId} (hb : b = v.heap.size) : (v.alloc (.cells cs.toArray T)).rangeAt b 0 cs := by
  subst hb
  exact range_block (heap_alloc_last v _)
theorem yields_slice {P : Program} {ops : Array Oper} {o : Oper} {a : Act} {S : World → Prop} {t e : TypeId} {size bytes : Nat} {z : Value} (el : Elem P t e size bytes z)
    (hg : Region.wanted o (yielded ops a.tmps) = true) (x : Operand) (lo hi : Option Operand) (hop : o.op = Op.slice t x lo hi none) {ad : Option Addr} {n c : Nat} (hx : a.eval x = .slice ad n c) (l h : Nat)
    (hlo : (lo.map a.eval = none ∧ l = 0) ∨ ∃ k, lo.map a.eval = some (.int k (l : Int))) (hhi : (hi.map a.eval = none ∧ h = n) ∨ ∃ k, hi.map a.eval = some (.int k (h : Int))) (hl : l ≤ h) (hh : h ≤ c) :
    YieldsIf P ops S o (.slice (subAd ad c l size) (h - l) (c - l)) a := by
  refine Or.inl ⟨hg, fun w _ => ?_⟩
  simp only [execOp, hop, hx, Option.map_none, Sem.run_bind, run_slice (P := P) (w := w) el ad n c (lo.map a.eval) (hi.map a.eval) l h hlo hhi hl hh, Result.andThen_ok, Sem.run_pure]

theorem wpL_load {P : Program} {ops : Array Oper} {rest : List Oper} {o : Oper} {a : Act} {w : World} {Q : Exit → Act → World → Prop} (hgd : Region.wanted o (yielded ops a.tmps) = true) (ty : TypeId) (x : Operand) (ho : o.op = .load ty x)
    (b off : Nat) (hx : a.eval x = .pointer (some ⟨b, off, none⟩)) (cs : List Value) (d : TypeDesc) (hc : w.rangeAt b off cs)
    (hu : P.underlying ty = some d) (hd : d.isRow = true) (hi : (P.info? ty).map (·.size) = some cs.length)
    (h : wpList P ops Q rest (a.put o.dst (.agg cs.toArray)) w) : wpList P ops Q (o :: rest) a w := by
  refine wpL_run hgd ?_ h
  unfold execOp
  simp only [ho, hx, Instr.loadAt, Instr.sureAddr, Sem.run_bind, Sem.run_pure, Result.andThen_ok, run_loadVar_mid w b off ty cs d hc hu hd hi]

end Go.Proofs.Ytmfplinbbcoahaa
