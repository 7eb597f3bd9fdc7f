/-
  SipHash's state in memory: the rounds, and a word taken in.
-/
import Derived.Test.YtndmpphkgcjnkaaSip1
import Derived.StillTailTactics
namespace Go.Proofs.Ytndmpphkgcjnkaa
open Go.RowKit Go.Sort
set_option linter.unusedVariables false

theorem rotS (n t : Nat) (k : Int) (ht : t = turnN n k.toNat) (hn : n < 18446744073709551616) (hk : k = 13 ∨ k = 16 ∨ k = 17 ∨ k = 21 ∨ k = 32) (w : World) :
    Calls Try.prog 32 #[.int .u64 n, .int .i64 k] w fun e w'' => e = .returned (.int .u64 t) ∧ w'' = w :=
  (rot_any n k w hn hk).mono fun e w' h => ⟨by rw [h.1, ht], h.2.symm⟩

/-- the four words lie in block g -/
def StAt (w : World) (g : Nat) (a b c d : Nat) : Prop := w.heap[g]? = some (.cells #[.int .u64 a, .int .u64 b, .int .u64 c, .int .u64 d] 49 (0, 0))
theorem StAt.cells {w : World} {g a b c d : Nat} (h : StAt w g a b c d) : w.cell? ⟨g, 0, none⟩ = some (.int .u64 a) ∧ w.cell? ⟨g, 1, none⟩ = some (.int .u64 b) ∧ w.cell? ⟨g, 2, none⟩ = some (.int .u64 c) ∧ w.cell? ⟨g, 3, none⟩ = some (.int .u64 d) ∧
    w.frozen? ⟨g, 0, none⟩ = false ∧ w.frozen? ⟨g, 1, none⟩ = false ∧ w.frozen? ⟨g, 2, none⟩ = false ∧ w.frozen? ⟨g, 3, none⟩ = false := by
  unfold StAt at h
  simp [World.cell?, World.frozen?, h]
theorem StAt.drew {w : World} {g a b c d : Nat} (h : StAt w g a b c d) : StAt w.drew g a b c d := h
theorem StAt.set {w : World} {g a b c d : Nat} (h : StAt w g a b c d) (k x : Nat) : (w.setCell ⟨g, k, none⟩ (.int .u64 x)).heap[g]? = some (.cells (#[.int .u64 a, .int .u64 b, .int .u64 c, .int .u64 d].setIfInBounds k (.int .u64 x)) 49 (0, 0)) := by
  unfold StAt at h
  have hlt := lt_of_block h
  have h' : w.heap[g] = .cells #[.int .u64 a, .int .u64 b, .int .u64 c, .int .u64 d] 49 (0, 0) := by simpa [Array.getElem?_eq_getElem hlt] using h
  show (w.heap.modify g _)[g]? = _
  rw [Array.getElem?_eq_getElem (by simpa using hlt), Array.getElem_modify_self, h']
  rfl
theorem grown_set (w : World) (g k : Nat) (v : Value) : w.grownBy (w.setCell ⟨g, k, none⟩ v) (some g) :=
  ⟨rfl, rfl, rfl, by simp [World.setCell], fun i hi hne => Below.heap_setCell _ _ _ _ (by intro h; exact hne (by rw [h]))⟩

set_option maxRecDepth 100000 in
set_option maxHeartbeats 1000000 in
theorem rounds_any (g : Nat) (n : Nat) (a b c d : Nat) (w : World) (hn : n ≤ 4) (h : Okw (a, b, c, d)) (hs : StAt w g a b c d) :
    Calls Try.prog 26 #[.pointer (some ⟨g, 0, none⟩), .int .i64 n] w fun e w' => e = .returned (.tuple #[]) ∧ (∃ a' b' c' d', (a', b', c', d') = Nat.repeat roundN n (a, b, c, d) ∧ Okw (a', b', c', d') ∧ StAt w' g a' b' c' d') ∧ w.grownBy w' (some g) := by
  have HS := Lib.hid hs
  have HO := Lib.hid h
  clear hs h
  go_enter Try.func26, Try.ntmps26
  go_wp2
  go_loopw [5] (fun i wr => ∃ k : Nat, k ≤ n ∧ i = .int .i64 k ∧ ∃ a' b' c' d', (a', b', c', d') = Nat.repeat roundN k (a, b, c, d) ∧ Okw (a', b', c', d') ∧ StAt wr g a' b' c' d' ∧ w.grownBy wr (some g)) (fun i _ => n - (intOf i).toNat)
  case atStart => exact ⟨0, Nat.zero_le _, rfl, a, b, c, d, rfl, HO.out, HS.out, World.grownBy.refl _ _⟩
  case round =>
    obtain ⟨k, hk, rfl, a1, b1, c1, d1, he, ho, hst, hg⟩ := hrel
    have HE := Lib.hid he
    have HST := Lib.hid hst
    have HG := Lib.hid hg
    clear he hst hg HS HO
    by_cases hlt : k < n
    · have la1 := ho.1; have lb1 := ho.2.1; have lc1 := ho.2.2.1; have ld1 := ho.2.2.2
      simp only at la1 lb1 lc1 ld1
      obtain ⟨x0, hx0⟩ : ∃ x, x = addN a1 b1 := ⟨_, rfl⟩
      have lx0 : x0 < 18446744073709551616 := by rw [hx0]; exact addN_lt _ _
      have fx0 := wrap_add a1 b1; rw [← hx0] at fx0
      obtain ⟨t1, ht1⟩ : ∃ x, x = turnN b1 (Int.toNat 13) := ⟨_, rfl⟩
      obtain ⟨x1, hx1⟩ : ∃ x, x = xorN t1 x0 := ⟨_, rfl⟩
      have lx1 : x1 < 18446744073709551616 := by rw [hx1]; exact xorN_lt _ _
      have fx1 := bits_xor t1 x0; rw [← hx1] at fx1
      have Fx1 := Lib.hid (rotS b1 t1 13 ht1 lb1 (by omega))
      obtain ⟨x2, hx2⟩ : ∃ x, x = turnN x0 (Int.toNat 32) := ⟨_, rfl⟩
      have lx2 : x2 < 18446744073709551616 := by rw [hx2]; exact turnN_lt _ _
      have Fx2 := Lib.hid (rotS x0 x2 32 hx2 lx0 (by omega))
      obtain ⟨x3, hx3⟩ : ∃ x, x = addN c1 d1 := ⟨_, rfl⟩
      have lx3 : x3 < 18446744073709551616 := by rw [hx3]; exact addN_lt _ _
      have fx3 := wrap_add c1 d1; rw [← hx3] at fx3
      obtain ⟨t4, ht4⟩ : ∃ x, x = turnN d1 (Int.toNat 16) := ⟨_, rfl⟩
      obtain ⟨x4, hx4⟩ : ∃ x, x = xorN t4 x3 := ⟨_, rfl⟩
      have lx4 : x4 < 18446744073709551616 := by rw [hx4]; exact xorN_lt _ _
      have fx4 := bits_xor t4 x3; rw [← hx4] at fx4
      have Fx4 := Lib.hid (rotS d1 t4 16 ht4 ld1 (by omega))
      obtain ⟨x5, hx5⟩ : ∃ x, x = addN x2 x4 := ⟨_, rfl⟩
      have lx5 : x5 < 18446744073709551616 := by rw [hx5]; exact addN_lt _ _
      have fx5 := wrap_add x2 x4; rw [← hx5] at fx5
      obtain ⟨t6, ht6⟩ : ∃ x, x = turnN x4 (Int.toNat 21) := ⟨_, rfl⟩
      obtain ⟨x6, hx6⟩ : ∃ x, x = xorN t6 x5 := ⟨_, rfl⟩
      have lx6 : x6 < 18446744073709551616 := by rw [hx6]; exact xorN_lt _ _
      have fx6 := bits_xor t6 x5; rw [← hx6] at fx6
      have Fx6 := Lib.hid (rotS x4 t6 21 ht6 lx4 (by omega))
      obtain ⟨x7, hx7⟩ : ∃ x, x = addN x3 x1 := ⟨_, rfl⟩
      have lx7 : x7 < 18446744073709551616 := by rw [hx7]; exact addN_lt _ _
      have fx7 := wrap_add x3 x1; rw [← hx7] at fx7
      obtain ⟨t8, ht8⟩ : ∃ x, x = turnN x1 (Int.toNat 17) := ⟨_, rfl⟩
      obtain ⟨x8, hx8⟩ : ∃ x, x = xorN t8 x7 := ⟨_, rfl⟩
      have lx8 : x8 < 18446744073709551616 := by rw [hx8]; exact xorN_lt _ _
      have fx8 := bits_xor t8 x7; rw [← hx8] at fx8
      have Fx8 := Lib.hid (rotS x1 t8 17 ht8 lx1 (by omega))
      obtain ⟨x9, hx9⟩ : ∃ x, x = turnN x7 (Int.toNat 32) := ⟨_, rfl⟩
      have lx9 : x9 < 18446744073709551616 := by rw [hx9]; exact turnN_lt _ _
      have Fx9 := Lib.hid (rotS x7 x9 32 hx9 lx7 (by omega))
      have HR : Hid ((x5, x8, x9, x6) = Nat.repeat roundN (k + 1) (a, b, c, d)) := Lib.hid (by show _ = roundN (Nat.repeat roundN k (a, b, c, d)); rw [← HE.out]; subst hx9 hx8 hx7 hx6 hx5 hx4 hx3 hx2 hx1 hx0; subst ht1 ht4 ht6 ht8; rfl)
      clear hx0 hx1 hx2 hx3 hx4 hx5 hx6 hx7 hx8 hx9 ht1 ht4 ht6 ht8
      obtain ⟨p0, p1, p2, p3, q0, q1, q2, q3⟩ := HST.out.cells
      go_wp2_with fail
      go_still_tail 11, (by kernel_rfl)
      change wpList _ _ _ _ _ wr.drew
      have hD := HST.out.drew; have hGD := HG.out.trans (grown_drew wr (some g))
      generalize wr.drew = v0 at hD hGD ⊢
      clear p0 p1 p2 p3 q0 q1 q2 q3 HST HG
      obtain ⟨p0, p1, p2, p3, q0, q1, q2, q3⟩ := hD.cells
      have HD := Lib.hid hD; have HGD := Lib.hid hGD; clear hD hGD
      go_wp2_with fail
      have hS : StAt (v0.setCell ⟨g, 0, none⟩ (.int .u64 x0)) g x0 b1 c1 d1 := HD.out.set 0 x0
      have hGS := HGD.out.trans (grown_set v0 g 0 (.int .u64 x0))
      generalize v0.setCell ⟨g, 0, none⟩ (.int .u64 x0) = w0 at hS hGS ⊢
      have HST := Lib.hid hS; have HG := Lib.hid hGS; clear hS hGS HD HGD p0 p1 p2 p3 q0 q1 q2 q3
      obtain ⟨p0, p1, p2, p3, q0, q1, q2, q3⟩ := HST.out.cells
      go_still_tail 13, (by kernel_rfl)
      still_call (Fx1.out _)
      repeat still_step
      refine wpStill_nil ?_
      change wpList _ _ _ _ _ w0.drew
      have hD := HST.out.drew; have hGD := HG.out.trans (grown_drew w0 (some g))
      generalize w0.drew = v1 at hD hGD ⊢
      clear p0 p1 p2 p3 q0 q1 q2 q3 HST HG
      obtain ⟨p0, p1, p2, p3, q0, q1, q2, q3⟩ := hD.cells
      have HD := Lib.hid hD; have HGD := Lib.hid hGD; clear hD hGD
      go_wp2_with fail
      have hS : StAt (v1.setCell ⟨g, 1, none⟩ (.int .u64 x1)) g x0 x1 c1 d1 := HD.out.set 1 x1
      have hGS := HGD.out.trans (grown_set v1 g 1 (.int .u64 x1))
      generalize v1.setCell ⟨g, 1, none⟩ (.int .u64 x1) = w1 at hS hGS ⊢
      have HST := Lib.hid hS; have HG := Lib.hid hGS; clear hS hGS HD HGD p0 p1 p2 p3 q0 q1 q2 q3
      obtain ⟨p0, p1, p2, p3, q0, q1, q2, q3⟩ := HST.out.cells
      have HD := HST; have HGD := HG; clear HST HG
      go_wp2_with (go_at_call 32; refine (Fx2.out _).mono ?_; rintro e w' ⟨rfl, hw⟩; obtain rfl := hw.symm)
      have hS : StAt (w1.setCell ⟨g, 0, none⟩ (.int .u64 x2)) g x2 x1 c1 d1 := HD.out.set 0 x2
      have hGS := HGD.out.trans (grown_set w1 g 0 (.int .u64 x2))
      generalize w1.setCell ⟨g, 0, none⟩ (.int .u64 x2) = w2 at hS hGS ⊢
      have HST := Lib.hid hS; have HG := Lib.hid hGS; clear hS hGS HD HGD p0 p1 p2 p3 q0 q1 q2 q3
      obtain ⟨p0, p1, p2, p3, q0, q1, q2, q3⟩ := HST.out.cells
      go_still_tail 11, (by kernel_rfl)
      change wpList _ _ _ _ _ w2.drew
      have hD := HST.out.drew; have hGD := HG.out.trans (grown_drew w2 (some g))
      generalize w2.drew = v3 at hD hGD ⊢
      clear p0 p1 p2 p3 q0 q1 q2 q3 HST HG
      obtain ⟨p0, p1, p2, p3, q0, q1, q2, q3⟩ := hD.cells
      have HD := Lib.hid hD; have HGD := Lib.hid hGD; clear hD hGD
      go_wp2_with fail
      have hS : StAt (v3.setCell ⟨g, 2, none⟩ (.int .u64 x3)) g x2 x1 x3 d1 := HD.out.set 2 x3
      have hGS := HGD.out.trans (grown_set v3 g 2 (.int .u64 x3))
      generalize v3.setCell ⟨g, 2, none⟩ (.int .u64 x3) = w3 at hS hGS ⊢
      have HST := Lib.hid hS; have HG := Lib.hid hGS; clear hS hGS HD HGD p0 p1 p2 p3 q0 q1 q2 q3
      obtain ⟨p0, p1, p2, p3, q0, q1, q2, q3⟩ := HST.out.cells
      go_still_tail 13, (by kernel_rfl)
      still_call (Fx4.out _)
      repeat still_step
      refine wpStill_nil ?_
      change wpList _ _ _ _ _ w3.drew
      have hD := HST.out.drew; have hGD := HG.out.trans (grown_drew w3 (some g))
      generalize w3.drew = v4 at hD hGD ⊢
      clear p0 p1 p2 p3 q0 q1 q2 q3 HST HG
      obtain ⟨p0, p1, p2, p3, q0, q1, q2, q3⟩ := hD.cells
      have HD := Lib.hid hD; have HGD := Lib.hid hGD; clear hD hGD
      go_wp2_with fail
      have hS : StAt (v4.setCell ⟨g, 3, none⟩ (.int .u64 x4)) g x2 x1 x3 x4 := HD.out.set 3 x4
      have hGS := HGD.out.trans (grown_set v4 g 3 (.int .u64 x4))
      generalize v4.setCell ⟨g, 3, none⟩ (.int .u64 x4) = w4 at hS hGS ⊢
      have HST := Lib.hid hS; have HG := Lib.hid hGS; clear hS hGS HD HGD p0 p1 p2 p3 q0 q1 q2 q3
      obtain ⟨p0, p1, p2, p3, q0, q1, q2, q3⟩ := HST.out.cells
      go_still_tail 11, (by kernel_rfl)
      change wpList _ _ _ _ _ w4.drew
      have hD := HST.out.drew; have hGD := HG.out.trans (grown_drew w4 (some g))
      generalize w4.drew = v5 at hD hGD ⊢
      clear p0 p1 p2 p3 q0 q1 q2 q3 HST HG
      obtain ⟨p0, p1, p2, p3, q0, q1, q2, q3⟩ := hD.cells
      have HD := Lib.hid hD; have HGD := Lib.hid hGD; clear hD hGD
      go_wp2_with fail
      have hS : StAt (v5.setCell ⟨g, 0, none⟩ (.int .u64 x5)) g x5 x1 x3 x4 := HD.out.set 0 x5
      have hGS := HGD.out.trans (grown_set v5 g 0 (.int .u64 x5))
      generalize v5.setCell ⟨g, 0, none⟩ (.int .u64 x5) = w5 at hS hGS ⊢
      have HST := Lib.hid hS; have HG := Lib.hid hGS; clear hS hGS HD HGD p0 p1 p2 p3 q0 q1 q2 q3
      obtain ⟨p0, p1, p2, p3, q0, q1, q2, q3⟩ := HST.out.cells
      go_still_tail 13, (by kernel_rfl)
      still_call (Fx6.out _)
      repeat still_step
      refine wpStill_nil ?_
      change wpList _ _ _ _ _ w5.drew
      have hD := HST.out.drew; have hGD := HG.out.trans (grown_drew w5 (some g))
      generalize w5.drew = v6 at hD hGD ⊢
      clear p0 p1 p2 p3 q0 q1 q2 q3 HST HG
      obtain ⟨p0, p1, p2, p3, q0, q1, q2, q3⟩ := hD.cells
      have HD := Lib.hid hD; have HGD := Lib.hid hGD; clear hD hGD
      go_wp2_with fail
      have hS : StAt (v6.setCell ⟨g, 3, none⟩ (.int .u64 x6)) g x5 x1 x3 x6 := HD.out.set 3 x6
      have hGS := HGD.out.trans (grown_set v6 g 3 (.int .u64 x6))
      generalize v6.setCell ⟨g, 3, none⟩ (.int .u64 x6) = w6 at hS hGS ⊢
      have HST := Lib.hid hS; have HG := Lib.hid hGS; clear hS hGS HD HGD p0 p1 p2 p3 q0 q1 q2 q3
      obtain ⟨p0, p1, p2, p3, q0, q1, q2, q3⟩ := HST.out.cells
      go_still_tail 11, (by kernel_rfl)
      change wpList _ _ _ _ _ w6.drew
      have hD := HST.out.drew; have hGD := HG.out.trans (grown_drew w6 (some g))
      generalize w6.drew = v7 at hD hGD ⊢
      clear p0 p1 p2 p3 q0 q1 q2 q3 HST HG
      obtain ⟨p0, p1, p2, p3, q0, q1, q2, q3⟩ := hD.cells
      have HD := Lib.hid hD; have HGD := Lib.hid hGD; clear hD hGD
      go_wp2_with fail
      have hS : StAt (v7.setCell ⟨g, 2, none⟩ (.int .u64 x7)) g x5 x1 x7 x6 := HD.out.set 2 x7
      have hGS := HGD.out.trans (grown_set v7 g 2 (.int .u64 x7))
      generalize v7.setCell ⟨g, 2, none⟩ (.int .u64 x7) = w7 at hS hGS ⊢
      have HST := Lib.hid hS; have HG := Lib.hid hGS; clear hS hGS HD HGD p0 p1 p2 p3 q0 q1 q2 q3
      obtain ⟨p0, p1, p2, p3, q0, q1, q2, q3⟩ := HST.out.cells
      go_still_tail 13, (by kernel_rfl)
      still_call (Fx8.out _)
      repeat still_step
      refine wpStill_nil ?_
      change wpList _ _ _ _ _ w7.drew
      have hD := HST.out.drew; have hGD := HG.out.trans (grown_drew w7 (some g))
      generalize w7.drew = v8 at hD hGD ⊢
      clear p0 p1 p2 p3 q0 q1 q2 q3 HST HG
      obtain ⟨p0, p1, p2, p3, q0, q1, q2, q3⟩ := hD.cells
      have HD := Lib.hid hD; have HGD := Lib.hid hGD; clear hD hGD
      go_wp2_with fail
      have hS : StAt (v8.setCell ⟨g, 1, none⟩ (.int .u64 x8)) g x5 x8 x7 x6 := HD.out.set 1 x8
      have hGS := HGD.out.trans (grown_set v8 g 1 (.int .u64 x8))
      generalize v8.setCell ⟨g, 1, none⟩ (.int .u64 x8) = w8 at hS hGS ⊢
      have HST := Lib.hid hS; have HG := Lib.hid hGS; clear hS hGS HD HGD p0 p1 p2 p3 q0 q1 q2 q3
      obtain ⟨p0, p1, p2, p3, q0, q1, q2, q3⟩ := HST.out.cells
      have HD := HST; have HGD := HG; clear HST HG
      go_wp2_with (go_at_call 32; refine (Fx9.out _).mono ?_; rintro e w' ⟨rfl, hw⟩; obtain rfl := hw.symm)
      have hS : StAt (w8.setCell ⟨g, 2, none⟩ (.int .u64 x9)) g x5 x8 x9 x6 := HD.out.set 2 x9
      have hGS := HGD.out.trans (grown_set w8 g 2 (.int .u64 x9))
      generalize w8.setCell ⟨g, 2, none⟩ (.int .u64 x9) = w9 at hS hGS ⊢
      have HST := Lib.hid hS; have HG := Lib.hid hGS; clear hS hGS HD HGD p0 p1 p2 p3 q0 q1 q2 q3
      go_roundw
      case rel => exact ⟨k + 1, by omega, by go_num, x5, x8, x9, x6, HR.out, ⟨lx5, lx8, lx9, lx6⟩, HST.out, HG.out⟩
      case measure => simp [intOf]; omega
    · obtain rfl : k = n := by omega
      go_wp2_with fail
      go_end0
      exact ⟨rfl, ⟨a1, b1, c1, d1, HE.out, ho, HST.out⟩, HG.out⟩
end Go.Proofs.Ytndmpphkgcjnkaa
