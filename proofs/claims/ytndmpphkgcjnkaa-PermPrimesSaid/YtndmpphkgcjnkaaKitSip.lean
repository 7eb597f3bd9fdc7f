/-
  The hash of parts, at hand.
-/
import Derived.Test.YtndmpphkgcjnkaaKit
import Derived.Test.YtndmpphkgcjnkaaSip6
namespace Go.Proofs.Ytndmpphkgcjnkaa
open Go.RowKit Go.Sort
set_option linter.unusedVariables false

theorem one_at {v W : World} {b : Nat} {e : TypeId} (hb : b = v.heap.size) (x : UInt8) (hW : Below (v.alloc (.cells #[.int .u8 (x.toNat : Int)] e)).heap.size (v.alloc (.cells #[.int .u8 (x.toNat : Int)] e)) W) : Bs W (some ⟨b, 0, none⟩) 1 1 [x] := by
  subst hb
  exact (Bs.one v e x).below hW
theorem pts_at {v W : World} {b m : Nat} {e : TypeId} (cs : Array Value) (ps : List (Option Addr × Nat × Nat × List UInt8)) (hb : b = v.heap.size) (hcs : cs.toList = ps.map fun p => Value.slice p.1 p.2.1 p.2.2.1) (hm : ps.length = m) (hle : m ≤ maxLen)
    (hp : ∀ p ∈ ps, Bs v p.1 p.2.1 p.2.2.1 p.2.2.2) (hW : Below (v.alloc (.cells cs e)).heap.size (v.alloc (.cells cs e)) W) : Pts W (some ⟨b, 0, none⟩) m m ps := by
  subst hb
  refine Pts.below ⟨?_, fun p hq => (hp p hq).below ((Below.refl _ _).alloc (Nat.le_refl _) _)⟩ hW
  rw [← hcs]
  exact Sl.lit v cs e m 1 (by rw [← Array.length_toList, hcs, List.length_map, hm]; omega) hle

/-- 'Of' of a known answer -/
theorem of_eq (kb : List UInt8) (hkb : kb.length = 16) (ad : Option Addr) (m c : Nat) (ps : List (Option Addr × Nat × Nat × List UInt8)) (w : World) (hp : Pts w ad m c ps) (l : List UInt8) (hl : flat ps = l) (hsz : l.length ≤ 140737488351232) (r : Int) (hr : ((sipN kb l : Nat) : Int) = r) :
    Calls Try.prog 21 #[.agg (BV kb).toArray, .slice ad m c] w fun e w' => e = .returned (.int .u64 r) ∧ Below w.heap.size w w' := by
  subst hl
  subst hr
  exact of_any kb hkb ad m c ps w hp hsz

theorem cP {w a w' : World} {ad : Option Addr} {m c : Nat} {ps : List (Option Addr × Nat × Nat × List UInt8)} (h : Hid (Pts w ad m c ps)) (hu : Below w.heap.size w a) (hb : Below a.heap.size a w') : Hid (Pts w' ad m c ps) :=
  Lib.hid ((h.out.below hu).below hb)
end Go.Proofs.Ytndmpphkgcjnkaa
