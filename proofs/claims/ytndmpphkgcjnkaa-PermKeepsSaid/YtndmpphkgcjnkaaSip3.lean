/-
  SipHash: a word taken in.
-/
import Derived.Test.YtndmpphkgcjnkaaSip2
namespace Go.Proofs.Ytndmpphkgcjnkaa
open Go.RowKit Go.Sort
set_option linter.unusedVariables false

/-- a word taken in -/
def wordN (s : Nat × Nat × Nat × Nat) (n : Nat) : Nat × Nat × Nat × Nat :=
  let r := roundN (roundN (s.1, s.2.1, s.2.2.1, xorN s.2.2.2 n))
  (xorN r.1 n, r.2.1, r.2.2.1, r.2.2.2)

set_option maxRecDepth 100000 in
set_option maxHeartbeats 1000000 in
theorem word_any (g : Nat) (n : Nat) (a b c d : Nat) (w : World) (h : Okw (a, b, c, d)) (hs : StAt w g a b c d) :
    Calls Try.prog 25 #[.pointer (some ⟨g, 0, none⟩), .int .u64 n] w fun e w' => e = .returned (.tuple #[]) ∧ (∃ a' b' c' d', (a', b', c', d') = wordN (a, b, c, d) n ∧ Okw (a', b', c', d') ∧ StAt w' g a' b' c' d') ∧ w.grownBy w' (some g) := by
  have HST := Lib.hid hs
  obtain ⟨x, hx⟩ : ∃ x, x = xorN d n := ⟨_, rfl⟩
  have fx := bits_xor d n
  rw [← hx] at fx
  have lx : x < 18446744073709551616 := by rw [hx]; exact xorN_lt _ _
  have ho : Okw (a, b, c, x) := ⟨h.1, h.2.1, h.2.2.1, lx⟩
  have HX := Lib.hid hx
  have HO := Lib.hid ho
  clear hs h hx ho
  obtain ⟨p0, p1, p2, p3, q0, q1, q2, q3⟩ := HST.out.cells
  go_enter Try.func25, Try.ntmps25
  go_wp2_with fail
  have hS : StAt (w.setCell ⟨g, 3, none⟩ (.int .u64 x)) g a b c x := HST.out.set 3 x
  have hG := grown_set w g 3 (.int .u64 x)
  generalize w.setCell ⟨g, 3, none⟩ (.int .u64 x) = w1 at hS hG ⊢
  have HS := Lib.hid hS
  have HG := Lib.hid hG
  clear hS hG HST p0 p1 p2 p3 q0 q1 q2 q3
  have R := rounds_any g 2 a b c x w1 (by omega) HO.out HS.out
  have HR := Lib.hid R
  clear R
  go_wp2_with (go_at_call 26; refine HR.out.mono ?_; rintro e w2 ⟨rfl, ⟨a2, b2, c2, d2, he2, ho2, hs2⟩, hg2⟩; have HE2 := Lib.hid he2; have HO2 := Lib.hid ho2; have HS2 := Lib.hid hs2; have HG2 := Lib.hid hg2; clear he2 ho2 hs2 hg2; obtain ⟨p0, p1, p2, p3, q0, q1, q2, q3⟩ := HS2.out.cells; have fy := bits_xor a2 n)
  have hS : StAt (w2.setCell ⟨g, 0, none⟩ (.int .u64 (xorN a2 n))) g (xorN a2 n) b2 c2 d2 := HS2.out.set 0 (xorN a2 n)
  have hG := grown_set w2 g 0 (.int .u64 (xorN a2 n))
  go_end0
  refine ⟨rfl, ⟨_, _, _, _, ?_, ⟨xorN_lt _ _, HO2.out.2.1, HO2.out.2.2.1, HO2.out.2.2.2⟩, hS⟩, HG.out.trans (HG2.out.trans hG)⟩
  have e := HE2.out
  have e' : (a2, b2, c2, d2) = roundN (roundN (a, b, c, x)) := e
  unfold wordN
  rw [show xorN (a, b, c, d).2.2.2 n = x from HX.out.symm]
  show _ = (xorN (roundN (roundN (a, b, c, x))).1 n, (roundN (roundN (a, b, c, x))).2.1, (roundN (roundN (a, b, c, x))).2.2.1, (roundN (roundN (a, b, c, x))).2.2.2)
  rw [← e']
  rfl
end Go.Proofs.Ytndmpphkgcjnkaa
