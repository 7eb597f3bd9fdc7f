/-
  What is known is carried from call to call.
-/
import Derived.Test.YtmigbcoobbcahaaOctet4
namespace Go.Proofs.Ytmigbcoobbcahaa
open Go.RowKit Go.Sort
set_option linter.unusedVariables false

theorem Below.next {A : Nat} {v w a w' : World} (h : Below A v w) (hA : A ≤ w.heap.size) (hu : Below w.heap.size w a) (hb : Below a.heap.size a w') : Below A v w' :=
  h.trans ((hu.trans (hb.mono hu.size)).mono hA)
theorem cB {w a w' : World} {ad : Option Addr} {n c : Nat} {l : List UInt8} (h : Hid (Bs w ad n c l)) (hu : Below w.heap.size w a) (hb : Below a.heap.size a w') : Hid (Bs w' ad n c l) :=
  Lib.hid ((h.out.below hu).below hb)
theorem cK {v w a w' : World} (h : Hid (Below v.heap.size v w)) (hu : Below w.heap.size w a) (hb : Below a.heap.size a w') : Hid (Below v.heap.size v w') :=
  Lib.hid (Below.next h.out h.out.size hu hb)
theorem cO {w a w' : World} {base : Nat} {e : TypeId} {size : Nat} {ad : Option Addr} {n c : Nat} {xs : List Value} (h : Hid (w.ownsRow base e size (.slice ad n c) n xs)) (hu : Below w.heap.size w a) (hb : Below a.heap.size a w') : Hid (w'.ownsRow base e size (.slice ad n c) n xs) :=
  Lib.hid (own_keep (own_keep h.out hu) hb)

/-- the compact forms: one step for all -/
theorem cU {v w a w' : World} (h : Hid (Below v.heap.size v w)) (hu : Below w.heap.size w a) (hb : Below a.heap.size a w') : Below w.heap.size w w' := hu.trans (hb.mono hu.size)
theorem cB1 {w w' : World} {ad : Option Addr} {n c : Nat} {l : List UInt8} (h : Hid (Bs w ad n c l)) (hE : Below w.heap.size w w') : Hid (Bs w' ad n c l) := Lib.hid (h.out.below hE)
theorem cK1 {v w w' : World} (h : Hid (Below v.heap.size v w)) (hE : Below w.heap.size w w') : Hid (Below v.heap.size v w') := Lib.hid (h.out.trans (hE.mono h.out.size))
theorem cO1 {w w' : World} {base : Nat} {e : TypeId} {size : Nat} {ad : Option Addr} {n c : Nat} {xs : List Value} (h : Hid (w.ownsRow base e size (.slice ad n c) n xs)) (hE : Below w.heap.size w w') : Hid (w'.ownsRow base e size (.slice ad n c) n xs) := Lib.hid (own_keep h.out hE)

theorem put_int (z : Int) (size : Int) (big : Bool) (w : World) (h0 : 0 ≤ z) (h1 : z ≤ 18446744073709551615) :
    Calls Try.prog 22 #[.int .u64 z, .int .i64 size, .bool big] w (RetB 5 (putL z.toNat size big) w) := by
  have := put_any z.toNat size big w (by omega)
  rwa [Int.toNat_of_nonneg h0] at this
theorem refPut_int (z : Int) (size : Int) (big : Bool) (w : World) (h0 : 0 ≤ z) (h1 : z ≤ 18446744073709551615) :
    Calls Try.prog 24 #[.int .u64 z, .int .i64 size, .bool big] w (RetB 5 (putL z.toNat size big) w) := by
  have := refPut_any z.toNat size big w (by omega)
  rwa [Int.toNat_of_nonneg h0] at this

end Go.Proofs.Ytmigbcoobbcahaa
