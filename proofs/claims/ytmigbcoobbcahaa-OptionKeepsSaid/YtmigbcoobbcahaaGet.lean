/-
  octet.Get reads a number: in order, and from behind (a range over the library's iterator).
-/
import Derived.Test.YtmigbcoobbcahaaOctet
import Derived.RangeFuncNested
import Derived.RangeFuncBound
import Derived.RangeFuncCalls
import Derived.RangeFuncLeaves
import Derived.RangeFuncBox
import Derived.Shelf.Abstract
import Derived.Shelf.RegionOpen
import Derived.OwnWalkIn
import Derived.TacticsInMore
import Derived.LoopNIn
import Derived.LoopIn
namespace Go.Proofs.Ytmigbcoobbcahaa
open Go.RowKit Go.Sort Go.Shelf
set_option linter.unusedVariables false
attribute [local go_sem] Oper.semAt_some

/-- what a round keeps: what lay below n₀, and the block Bx -/
def KpBox (n₀ Bx : Nat) (W W' : World) : Prop := Below n₀ W W' ∧ W'.heap[Bx]? = W.heap[Bx]?
theorem KpBox.refl (n₀ Bx : Nat) (W : World) : KpBox n₀ Bx W W := ⟨Below.refl _ _, rfl⟩
theorem KpBox.trans {n₀ Bx : Nat} {A B C : World} (h : KpBox n₀ Bx A B) (k : KpBox n₀ Bx B C) : KpBox n₀ Bx A C := ⟨h.1.trans k.1, k.2.trans h.2⟩
theorem KpBox.put {n₀ Bx : Nat} {w : World} (hn : n₀ ≤ w.heap.size) (hB : Bx < w.heap.size) (W : World) (l : Nat) (o o' : Obj) (hl : w.heap.size ≤ l) (ho : W.heap[l]? = some o) (h1 : o.isCells = false) (h2 : o.isWalk = false) : KpBox n₀ Bx W (W.putObj l o') :=
  ⟨belowK_b hn W l o o' hl ho h1 h2, World.putObj_heap_other (by omega)⟩
theorem KpBox.bs {n₀ Bx : Nat} {W W' : World} {ad : Option Addr} {n c : Nat} {l : List UInt8} (h : KpBox n₀ Bx W W') (hs : Bs W ad n c l) (hb : ∀ x, ad = some x → 0 < n → x.block < n₀) : Bs W' ad n c l :=
  ⟨hs.1, hs.2.1, hs.2.2.1, hs.2.2.2.1, fun j u hj => by
    obtain ⟨x, hx, hc⟩ := hs.2.2.2.2 j u hj
    have hl := hs.1
    have hlt : j < (BV l).length := (List.getElem?_eq_some_iff.1 hj).1
    exact ⟨x, hx, by rw [h.1.cell (by rw [add_block]; exact hb x hx (by omega))]; exact hc⟩⟩

theorem cell_of_block1 {w : World} {B : Nat} {v : Value} {t : TypeId} (h : w.heap[B]? = some (.cells #[v] t (0, 0))) : w.cell? ⟨B, 0, none⟩ = some v := cell_of_one h
theorem free_of_block1 {w : World} {B : Nat} {v : Value} {t : TypeId} (h : w.heap[B]? = some (.cells #[v] t (0, 0))) : w.frozen? ⟨B, 0, none⟩ = false := free_of_one h

def upto {α : Type} (f : Nat → α) (k : Nat) : List α := (List.range k).map f
theorem upto_succ {α : Type} (f : Nat → α) (k : Nat) : upto f (k + 1) = upto f k ++ [f k] := by simp [upto, List.range_succ]
theorem upto_length {α : Type} (f : Nat → α) (k : Nat) : (upto f k).length = k := by simp [upto]

/-- what slices.Backward hands out -/
def bk (l : List UInt8) (j : Nat) : Nat × UInt8 := (l.length - 1 - j, at8 l (l.length - 1 - j))

set_option maxRecDepth 100000 in
set_option maxHeartbeats 2000000 in
theorem back1_in (F : Fence) (n : Nat) (h7 : F.fn 38) (hro : F.round = none) (hn : 1 ≤ n) (l Bx n₀ : Nat) (ad : Option Addr) (len c : Nat) (bs : List UInt8) (hreach : len ≤ 140737488351232) (hb : ∀ x, ad = some x → 0 < len → x.block < n₀)
    (J Jx : List (Nat × UInt8) → World → Prop)
    (hY : ∀ pre x W, J pre W → pre.length < len → YieldAt F (n - 1) Try.prog l #[.int .i64 (x.1 : Int), .int .u8 (x.2.toNat : Int)] W fun e W' =>
      (e = .returned (.bool true) ∧ J (pre ++ [x]) W' ∧ KpBox n₀ Bx W W') ∨ (e = .returned (.bool false) ∧ Jx (pre ++ [x]) W'))
    (W : World) (hBx : W.heap[Bx]? = some (.cells #[.slice ad len c] 25 (0, 0))) (hs : Bs W ad len c bs) (h0 : J [] W) :
    CallsIn F n Try.prog 38 #[.func (.yield l) #[] #[], .pointer (some ⟨Bx, 0, none⟩)] W fun e W' => (∃ v, e = .returned v) ∧
      ((∃ ys, ys = upto (bk bs) len ∧ J ys W') ∨ (∃ pre, (∃ k, k ≤ len ∧ pre = upto (bk bs) k) ∧ Jx pre W')) := by
  have hlen := hs.len
  have HLEN := Lib.hid hlen
  clear hlen
  have hcB := cell_of_block1 hBx
  refine callsIn_of_wp Try.func38 rfl h7 ?_ hro
  simp only [Try.ntmps38, List.size_toArray, List.length_cons, List.length_nil, Nat.reduceAdd, Nat.reduceSub, Array.replicate_succ, Array.replicate_zero, List.push_toArray, List.append_toArray, List.nil_append, List.cons_append]
  have HS := Lib.hid hs
  clear hs
  gi_wp2
  gi_loopw [3] (fun i wr => ∃ k : Nat, k ≤ len ∧ i = .int .i64 ((len : Int) - 1 - k) ∧ J (upto (bk bs) k) wr ∧ KpBox n₀ Bx W wr)
    (fun i _ => (intOf i + 1).toNat)
  case atStart => exact ⟨0, Nat.zero_le _, by simp, h0, KpBox.refl _ _ _⟩
  case round =>
    obtain ⟨k, hk, rfl, hJs, hnx⟩ := hrel
    by_cases hlt : k < len
    · obtain ⟨fn, tmps, assign, body, hy, hR⟩ := hY _ (bk bs k) wr hJs (by rw [upto_length]; exact hlt)
      have hidx : (bk bs k).1 = len - 1 - k := by unfold bk; rw [← HLEN.out]
      have hval : (bk bs k).2 = at8 bs (len - 1 - k) := by unfold bk; rw [← HLEN.out]
      rw [hidx, hval] at hy
      have hw : ((len - 1 - k : Nat) : Int) = (len : Int) - 1 - k := by omega
      rw [hw] at hy
      obtain ⟨b, off, rfl, hbb, hcc⟩ := (hnx.bs HS.out hb).at (j := len - 1 - k) (by have := HLEN.out; omega)
      have hcx := hcc (len - 1 - k) (by have := HLEN.out; omega)
      have hcB' : wr.cell? ⟨Bx, 0, none⟩ = some (.slice (some ⟨b, off, none⟩) len c) := cell_of_block1 (hnx.2.trans hBx)
      have i1 : (0 : Int) ≤ (len : Int) - 1 - k := by omega
      have i2 : (len : Int) - 1 - k < len := by omega
      clear hcc hidx hval hw
      have HK := Lib.hid hnx
      clear hnx
      gi_wp2
      refine hR.mono ?_
      rintro e W3 (⟨rfl, hJ3, hk3⟩ | ⟨rfl, hJx3⟩)
      · have HK3 := Lib.hid (HK.out.trans hk3)
        have HJ3 := Lib.hid hJ3
        clear hk3 hJ3 HK hcx hcB' hy hR hJs
        gi_wp2
        go_roundw
        case rel => exact ⟨k + 1, by omega, by go_num, by rw [upto_succ]; exact HJ3.out, HK3.out⟩
        case measure => simp [intOf]; omega
      · gi_wp2
        refine bodyPost_ret (results_none rfl _ _ _) rfl ?_
        exact ⟨⟨_, rfl⟩, .inr ⟨_, ⟨k + 1, by omega, (upto_succ _ _).symm⟩, hJx3⟩⟩
    · obtain rfl : k = len := by omega
      gi_wp2
      go_end0
      exact ⟨⟨_, rfl⟩, .inl ⟨_, rfl, hJs⟩⟩

theorem back_any (F : Fence) (n : Nat) (h5 : F.fn 37) (hro : F.round = none) (a : Option Addr) (len cap : Nat) (w : World) :
    CallsIn F n Try.prog 37 #[.slice a len cap] w fun e w' => e = .returned (.func (.func 38) #[] #[.pointer (some ⟨w.heap.size, 0, none⟩)]) ∧ w' = w.alloc (.cells #[.slice a len cap] 25) := by
  refine callsIn_of_wp Try.func37 rfl h5 ?_ hro
  simp only [Try.ntmps37, List.size_toArray, List.length_cons, List.length_nil, Nat.reduceAdd, Nat.reduceSub, Array.replicate_succ, Array.replicate_zero, List.push_toArray, List.append_toArray, List.nil_append, List.cons_append]
  gi_wp2
  go_ret
  exact ⟨rfl, rfl⟩

theorem back_stops (F : Fence) (n : Nat) (h7 : F.fn 38) (hro : F.round = none) (hn : 1 ≤ n) (Bx n₀ : Nat) (ad : Option Addr) (len c : Nat) (bs : List UInt8) (hreach : len ≤ 140737488351232) (w : World) (hBx : Bx < w.heap.size) (hn₀ : n₀ ≤ w.heap.size)
    (hc : w.heap[Bx]? = some (.cells #[.slice ad len c] 25 (0, 0))) (hs : Bs w ad len c bs) (hb : ∀ x, ad = some x → 0 < len → x.block < n₀) :
    SeqStopsK F n Try.prog 38 #[.pointer (some ⟨Bx, 0, none⟩)] (fun x : Nat × UInt8 => #[Value.int .i64 (x.1 : Int), Value.int .u8 (x.2.toNat : Int)]) (KpBox n₀ Bx) (fun ys => ys = upto (bk bs) len)
      (fun pre => ∃ k, k ≤ len ∧ pre = upto (bk bs) k) len w := fun l J Jx W hW _ _ hY h0 => by
  have hc' : W.heap[Bx]? = some (.cells #[.slice ad len c] 25 (0, 0)) := (hW.block Bx hBx).trans hc
  exact back1_in F n h7 hro hn l Bx n₀ ad len c bs hreach hb J Jx hY W hc' (hs.below hW) h0


/-- the head of the slice: at most eight bytes -/
theorem Bs.head8 {w : World} {ad : Option Addr} {n c : Nat} {l : List UInt8} (h : Bs w ad n c l) : Bs w (subAd ad c 0 1) (min n 8 - 0) (c - 0) (l.take 8) := by
  have := Sl.sub h (l := 0) (h := min n 8) (Nat.zero_le _) (Nat.min_le_left _ _)
  have e : ((BV l).drop (0 * 1)).take ((min n 8 - 0) * 1) = BV (l.take 8) := by
    have hn := h.len
    simp only [List.drop_zero, Nat.sub_zero, Nat.mul_one]
    unfold BV
    rw [List.map_take]
    by_cases h8 : n ≤ 8
    · rw [Nat.min_eq_left h8, List.take_of_length_le (by simp; omega), List.take_of_length_le (by simp; omega)]
    · rw [Nat.min_eq_right (by omega)]
  rw [e] at this
  exact this

def RetN (v : Value) (w : World) (e : Ending) (w' : World) : Prop := e = .returned v ∧ Below w.heap.size w w'

set_option maxRecDepth 100000 in
theorem get_big (ad : Option Addr) (n c : Nat) (l : List UInt8) (w : World) (hs : Bs w ad n c l) :
    Calls Try.prog 36 #[.slice ad n c, .bool true] w (RetN (.int .u64 (getN l true)) w) := by
  obtain ⟨m, hm⟩ : ∃ m, m = min n 8 := ⟨_, rfl⟩
  have hc := hs.le
  have hb8 := hs.head8
  rw [← hm] at hb8
  have hlen := hb8.len
  simp only [Nat.sub_zero] at hlen hb8
  have hmin : (if (8 : Int) < (n : Int) then (8 : Int) else (n : Int)) = (m : Int) := by split <;> omega
  have HL := Lib.hid hlen
  have HB8 := Lib.hid hb8
  have hm8 : m ≤ 8 := by omega
  have hmc : m ≤ c := by omega
  have HG : Hid (getN l true = numBE (l.take 8)) := Lib.hid rfl
  clear hm hlen hb8 hs
  go_enter Try.func36, Try.ntmps36
  go_wp2_with ((with_reducible show wpList _ _ _ (⟨some 14, _, _, _, _, _⟩ :: _) _ _); go_must (refine wpL_slice elB rfl (.tmp 10) none (some (.tmp 13)) rfl rfl 0 m (.inl ⟨rfl, rfl⟩) (.inr ⟨.i64, rfl⟩) (Nat.zero_le _) hmc ?_))
  intro ad1 had1
  rw [← had1.out] at HB8
  clear had1
  go_wp2_with fail
  go_loopw [18, 7] (fun i _ wr => ∃ k : Nat, k ≤ m ∧ i = .int .i64 k ∧ wr.heap[w.heap.size]? = some (.cells #[.int .u64 (numBE ((l.take 8).take k) : Nat)] 51 (0, 0)) ∧ Below w.heap.size w wr) (fun i _ _ => m - (intOf i).toNat)
  case atStart => exact ⟨0, Nat.zero_le _, rfl, heap_alloc_new _ _, (Below.refl _ _).alloc (Nat.le_refl _) _⟩
  case round =>
    obtain ⟨k, hk, rfl, hbox, hb⟩ := hrel
    by_cases hlt : k < m
    · obtain ⟨b, off, rfl, hbl, hcc⟩ := (HB8.out.below hb).at (j := k) (by have := HL.out; omega)
      have hcx := hcc k (by have := HL.out; omega)
      have hsz : w.heap.size < wr.heap.size := (Array.getElem?_eq_some_iff.1 hbox).1
      have hcb := cell_of_one hbox
      have hfb := free_of_one hbox
      have hor := or_byte (numBE ((l.take 8).take k)) (at8 (l.take 8) k) (numBE_lt7 _ (by simp; omega))
      have hu := u64_wrap_nat (at8 (l.take 8) k).toNat (by have := (at8 (l.take 8) k).toNat_lt; omega)
      have hstep := numBE_take_succ (l.take 8) k (by have := HL.out; omega)
      have HBOX := Lib.hid (one_setCell hbox (u := .int .u64 ((stepN (numBE ((l.take 8).take k)) (at8 (l.take 8) k) : Nat) : Int)))
      have HB2 := Lib.hid (hb.setCell (p := ⟨w.heap.size, 0, none⟩) (Nat.le_refl _) (.int .u64 ((stepN (numBE ((l.take 8).take k)) (at8 (l.take 8) k) : Nat) : Int)))
      have HST := Lib.hid hstep
      clear hcc hbox hb hstep
      go_wp2_with fail
      go_roundw
      case rel => exact ⟨k + 1, by omega, by go_num, by rw [HST.out]; exact HBOX.out, HB2.out⟩
      case measure => simp [intOf]; omega
    · obtain rfl : k = m := by omega
      have hcb := cell_of_one hbox
      rw [List.take_of_length_le (by have := HL.out; omega), ← HG.out] at hcb
      have HB2 := Lib.hid hb
      clear hbox hb
      go_wp2_with fail
      go_ret
      exact ⟨rfl, HB2.out⟩

/-- the number's box in a range over the iterator -/
theorem box_ownFrom (B : Nat) (t : TypeId) (f : List (Nat × UInt8) → Value) (C : Nat) : OwnFrom C (fun pre W => W.heap[B]? = some (.cells #[f pre] t (0, 0))) :=
  fun s W W' row hs hg hr => (hg.block B (Array.getElem?_eq_some_iff.1 hs).1 (fun e => by
    obtain ⟨_, o, ho, hc⟩ := hr B e.symm
    rw [hs] at ho
    cases ho
    simp [Obj.isCells] at hc)).trans hs

theorem bk_snd (l : List UInt8) : (upto (bk l) l.length).map (·.2) = l.reverse := by
  apply ext_getD (by simp [upto])
  intro j hj
  have hj' : j < l.length := by simpa [upto] using hj
  have e1 : ((upto (bk l) l.length).map (·.2)).getD j 0 = at8 l (l.length - 1 - j) := by simp [upto, List.getD, hj', bk]
  have e2 : l.reverse.getD j 0 = l.getD (l.length - 1 - j) 0 := by simp [List.getD, List.getElem?_reverse hj']
  rw [e1, e2]
  rfl

set_option maxRecDepth 100000 in
set_option maxHeartbeats 1000000 in
theorem get_small (ad : Option Addr) (n c : Nat) (l : List UInt8) (w : World) (hs : Bs w ad n c l) :
    Calls Try.prog 36 #[.slice ad n c, .bool false] w (RetN (.int .u64 (getN l false)) w) := by
  obtain ⟨m, hm⟩ : ∃ m, m = min n 8 := ⟨_, rfl⟩
  have hc := hs.le
  have hb8 := hs.head8
  rw [← hm] at hb8
  have hlen := hb8.len
  simp only [Nat.sub_zero] at hlen hb8
  have hmin : (if (8 : Int) < (n : Int) then (8 : Int) else (n : Int)) = (m : Int) := by split <;> omega
  have HL := Lib.hid hlen
  have HB8 := Lib.hid hb8
  have hm8 : m ≤ 8 := by omega
  have hmc : m ≤ c := by omega
  have HG : Hid (getN l false = numBE (l.take 8).reverse) := Lib.hid rfl
  clear hm hlen hb8 hs
  refine (callsIn_wide (n := 6)).1 (callsIn_of_wp_marks Try.func36 rfl trivial (wpIn_wide.2 ?_) rfl)
  simp only [Try.ntmps36, List.size_toArray, List.length_cons, List.length_nil, Nat.reduceAdd, Nat.reduceSub, Array.replicate_succ, Array.replicate_zero, List.push_toArray, List.append_toArray, List.nil_append, List.cons_append]
  go_wp2_with ((with_reducible show wpList _ _ _ (⟨some 14, _, _, _, _, _⟩ :: _) _ _); go_must (refine wpL_slice elB rfl (.tmp 10) none (some (.tmp 13)) rfl rfl 0 m (.inl ⟨rfl, rfl⟩) (.inr ⟨.i64, rfl⟩) (Nat.zero_le _) hmc ?_))
  intro ad1 had1
  rw [← had1.out] at HB8
  clear had1
  go_wp2_with (go_at_call 37; refine ((callsIn_wide (n := 6)).1 (back_any _ _ trivial rfl _ _ _ _)).mono ?_; rintro e w' ⟨rfl, rfl⟩)
  refine (wpIn_wide (n := 6)).1 ?_
  have hB1 : Below w.heap.size w (w.alloc (.cells #[.int .u64 0] 51)) := (Below.refl _ _).alloc (Nat.le_refl _) _
  have hB2 := hB1.alloc (by simp) (.cells #[.slice ad1 m c] 25)
  refine wpIn_rangeFunc_ownF rfl (by omega) (gf := 38) (lb := #[.pointer (some ⟨w.heap.size + 1, 0, none⟩)]) rfl trivial (enters_of Try.func38 (by kernel_rfl) rfl)
    (back_stops _ _ trivial rfl (by omega) (w.heap.size + 1) w.heap.size ad1 m c (l.take 8) (by omega) ((w.alloc (.cells #[.int .u64 0] 51)).alloc (.cells #[.slice ad1 m c] 25)) (by simp) (by simp; omega) (by have := heap_alloc_new (w.alloc (.cells #[.int .u64 0] 51)) (.cells #[.slice ad1 m c] 25); rwa [World.size_alloc] at this) (HB8.out.below hB2)
      (fun x hx h0 => by obtain ⟨b, off, h2, h3, _⟩ := HB8.out.at (j := 0) (by have := HL.out; omega); rw [h2] at hx; cases hx; exact h3))
    KpBox.trans (KpBox.put (by simp; omega) (by simp)) (Below.refl _ _) (fun _ => rfl)
    (fun pre W => W.heap[w.heap.size]? = some (.cells #[.int .u64 (numBE (pre.map (·.2)) : Nat)] 51 (0, 0)) ∧ Below w.heap.size w W)
    (fun _ _ _ => False)
    (OwnFrom.and (box_ownFrom _ _ (fun pre => .int .u64 (numBE (pre.map (·.2)) : Nat)) _) (ownFrom_below (Nat.le_refl _) (by simp; omega)))
    (fun _ _ _ _ _ hs _ _ => hs)
    ⟨(Below.heap_alloc _ _ _ (by simp)).trans (heap_alloc_new _ _), hB2⟩
    ?a1 ?assign ?body ?done ?stop
  case assign =>
    intro l x W K hK
    gi_wp2
    exact hK
  case body =>
    rintro l pre x W ⟨hbox, hb⟩ hlen
    have hsz : w.heap.size < W.heap.size := (Array.getElem?_eq_some_iff.1 hbox).1
    have hcb := cell_of_one hbox
    have hfb := free_of_one hbox
    have hor := or_byte (numBE (pre.map (·.2))) x.2 (numBE_lt7 _ (by simp; omega))
    have hu := u64_wrap_nat x.2.toNat (by have := x.2.toNat_lt; omega)
    have HBOX := Lib.hid (one_setCell hbox (u := .int .u64 ((stepN (numBE (pre.map (·.2))) x.2 : Nat) : Int)))
    have HB2 := Lib.hid (hb.setCell (p := ⟨w.heap.size, 0, none⟩) (Nat.le_refl _) (.int .u64 ((stepN (numBE (pre.map (·.2))) x.2 : Nat) : Int)))
    clear hbox hb
    gi_wp2
    refine ⟨KeepsOthers.setCell _ _ _, ⟨(Below.refl w.heap.size W).setCell (p := ⟨w.heap.size, 0, none⟩) (Nat.le_refl _) _, Below.heap_setCell _ _ _ _ (by simp)⟩, ?_, ?_⟩
    · rw [numBE_map_snoc]; exact HBOX.out
    · exact HB2.out
  case done =>
    rintro D ys W hD rfl ⟨hbox, hb⟩ hK
    have hlm := HL.out
    have e : numBE ((upto (bk (l.take 8)) m).map (·.2)) = getN l false := by
      rw [HG.out, ← bk_snd, ← hlm]
    rw [e] at hbox
    have hcb := cell_of_one hbox
    have HB2 := Lib.hid hb
    have HD : Hid _ := Lib.hid hD
    clear hlm e hbox hb hD
    go_wp2
    refine ⟨by simp, .inl ⟨_, _, rfl, run_takeDeferred hK, ?_⟩⟩
    exact ⟨_, results_tmp rfl _ _ _, rfl, HB2.out.trans (belowK_b (w := w) (Nat.le_refl _) W D _ _ (by have := HD.out; simp at this; omega) hK rfl rfl)⟩
  case stop =>
    rintro D c pre W _ _ h _
    exact h.elim
end Go.Proofs.Ytmigbcoobbcahaa
