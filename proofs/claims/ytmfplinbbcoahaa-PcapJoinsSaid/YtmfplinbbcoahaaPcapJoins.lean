/-
  THE STATEMENT 'PcapJoins': the row's step round its walk, by program (frame.py).
-/
import Derived.Test.YtmfplinbbcoahaaRows
import Derived.Test.YtmfplinbbcoahaaM12
import Derived.Test.YtmfplinbbcoahaaM18
namespace Go.Proofs.Ytmfplinbbcoahaa.pcapJoins
open Go.ChangeShapes Go.WideShapes Go.ChangeAt Go.RowKit Go.Sort
open Go.ChangeMaps (open_string shut_string)
set_option linter.unusedVariables false

theorem own : ownKnob Try.prog.godebug = none := by kernel_rfl
theorem laidOut : laidOutB Try.prog = true := by kernel_rfl

theorem walk (a0 : Option Addr) (len0 cap0 : Nat) (os0 : List BlkV) (a1 : Option Addr) (len1 cap1 : Nat) (os1 : List BlkV) (W : World) (w0 : Blks W a0 len0 cap0 os0) (f0 : ∀ o ∈ os0, wfB o.val) (w1 : Blks W a1 len1 cap1 os1) (f1 : ∀ o ∈ os1, wfB o.val) :
    Calls Try.prog 14 #[.slice a0 len0 cap0, .slice a1 len1 cap1] W fun e w' => e = .returned (.bool true) ∧ Below W.heap.size W w' :=
  joins27_walk a0 len0 cap0 os0 a1 len1 cap1 os1 W w0 f0 w1 f1


set_option maxRecDepth 100000 in
theorem lifted (os : Os) (started : os.Started) (H : Type) (enc : TypeId × Value → H) :
    ReturnsInHanded {} Try.checked os 14 .any (Rows.pcapJoinsSpec.pre6 enc Try.prog Try.f14 Rows.pcapJoinsRow.domain false) (Rows.pcapJoinsSpec.post enc Try.prog Try.f14 false true false false) := by
  refine returnsInHanded_of_change (C := Try.checked) own started (by kernel_rfl) Try.func14
    (ChangeSpec.witness6 (enc := enc) (C := Try.checked) false ⟨#[], #[.slice none 0 0, .slice none 0 0], []⟩ 8 (by kernel_rfl) (by kernel_rfl) (by kernel_rfl) (by kernel_rfl)) ?_
  intro W base args ds gs before hval0 hW hcnd _
  have hval : ∀ (j : Nat) t v, Try.f14.params[j]? = some t → args[j]? = some v → Value.okWide Try.prog W .any base t v := hval0
  have hW' := hW
  obtain ⟨p, q, hA0, hV, rfl, hfz, hnd⟩ := hW
  have hA : DataW.TrodAll enc Try.prog W 0 (fun _ => true) true Try.f14.params.toList args.toList ds p := hA0
  rw [Try.params14] at hA hval
  obtain ⟨v0, vs0, d0, ds0, p0, q0, hargs, rfl, rfl, h0, r0⟩ := trodAll_cons hA
  obtain ⟨v1, vs1, d1, ds1, p1, q1, rfl, rfl, rfl, h1, r1⟩ := trodAll_cons r0
  obtain ⟨rfl, rfl, rfl⟩ := trodAll_nil r1
  obtain rfl : args = #[v0, v1] := by cases args; simp_all
  obtain ⟨rfl, rfl⟩ := trodVars_none hV
  have k0 := h0
  have lt0 : ∀ x ∈ p0, x.block < W.heap.size := by obtain ⟨m, hm⟩ := k0; exact DataW.trod_lt m _ _ _ hm
  obtain ⟨a0, len0, cap0, rfl⟩ := okWide_slice Try.underlying44 (hval 0 44 v0 rfl rfl)
  obtain ⟨os0, w0, f0⟩ : ∃ os : List BlkV, Blks W a0 len0 cap0 os ∧ ∀ o ∈ os, wfB o.val := by
    obtain ⟨fuel, hf⟩ := h0
    obtain ⟨a', l', c', os, hcs, h1, h2⟩ := open_blks hf
    simp [Value.cells] at hcs
    obtain ⟨rfl, rfl, rfl⟩ := hcs
    exact ⟨os, h1, h2⟩
  have k1 := h1
  have lt1 : ∀ x ∈ p1, x.block < W.heap.size := by obtain ⟨m, hm⟩ := k1; exact DataW.trod_lt m _ _ _ hm
  obtain ⟨a1, len1, cap1, rfl⟩ := okWide_slice Try.underlying44 (hval 1 44 v1 rfl rfl)
  obtain ⟨os1, w1, f1⟩ : ∃ os : List BlkV, Blks W a1 len1 cap1 os ∧ ∀ o ∈ os, wfB o.val := by
    obtain ⟨fuel, hf⟩ := h1
    obtain ⟨a', l', c', os, hcs, h1, h2⟩ := open_blks hf
    simp [Value.cells] at hcs
    obtain ⟨rfl, rfl, rfl⟩ := hcs
    exact ⟨os, h1, h2⟩
  clear hA0 hval0
  refine (walk a0 len0 cap0 os0 a1 len1 cap1 os1 W w0 f0 w1 f1).mono fun e W' ⟨he, bel⟩ => ?_
  subst he
  exact ⟨_, rfl, _, _, _, [], _, [], hW', trodAll_mk1 (shut_bool Try.underlying4 _), (trodAll_cons_mk (Below.trod laidOut (by kernel_rfl) (of_decide_eq_true (by kernel_rfl)) k0 bel lt0) (trodAll_cons_mk (Below.trod laidOut (by kernel_rfl) (of_decide_eq_true (by kernel_rfl)) k1 bel lt1) trodAll_mk0)), rfl, bel.frame _, fun h => by cases h⟩

theorem over : Rows.pcapJoinsRow.holds Try.pinned (OpenSpec.ofChange Rows.pcapJoinsSpec) :=
  OpenClaim.holds_of_wide 14 Try.f14 rfl rfl rfl rfl rfl rfl rfl ⟨rfl, rfl, rfl, rfl, rfl⟩ rfl rfl rfl rfl rfl (by kernel_rfl) Try.func14 (by kernel_rfl)
    (of_decide_eq_true (by kernel_rfl)) (by unfold Func.isWrapper; first | (rw [if_pos (by decide +kernel)]; kernel_rfl) | (rw [if_neg (by decide +kernel)]; exact ⟨rfl, rfl⟩))
    (fun os started H enc _ => lifted os started H enc)

theorem proved : Rows.PcapJoinsSaid := over
end Go.Proofs.Ytmfplinbbcoahaa.pcapJoins
