/-
  Joined by program (merge.py): OpenOpts, OpenBlk.
-/
import Derived.Test.YtmfplinbbcoahaaM3
import Derived.Test.YtmfplinbbcoahaaM8
/-
  A slice of options that came in, opened.
-/
namespace Go.Proofs.Ytmfplinbbcoahaa
open Go.RowKit Go.Sort
open Go.ChangeAt Go.ChangeShapes Go.WideShapes
set_option linter.unusedVariables false
section
variable {H : Type} {enc : TypeId × Value → H} {w : World} {base : Nat} {spare : Nat → Bool} {held : Bool}
theorem trod_opt {fuel : Nat} {x y : Value} {r : DataW H × List MemPlace} (h : DataW.trod enc Try.prog w base spare held fuel 90 [x, y] = some r) :
    ∃ o : OptV, [x, y] = o.cells ∧ Bs w o.ad o.n o.c o.l ∧ (Lit.int .i64 o.code).wf = true := by
  obtain ⟨hl, f, hf⟩ := trod_struct Try.underlying90 h
  have hc1 : Try.prog.cellsOf 3 = 1 := by kernel_rfl
  have hc2 : Try.prog.cellsOf 24 = 1 := by kernel_rfl
  simp only [List.mem_cons, List.not_mem_nil, or_false, forall_eq_or_imp, forall_eq, hc1, hc2] at hf
  obtain ⟨⟨y1, h1⟩, ⟨y2, h2⟩⟩ := hf
  simp only [List.drop_zero, List.take_succ_cons, List.take_zero, List.drop_succ_cons] at h1 h2
  obtain ⟨n, rfl, hw⟩ := trod_int Try.underlying3 h1
  obtain ⟨ad, k, c, l, rfl, hb⟩ := trod_bslice Try.underlying24 Try.underlying5 (by kernel_rfl) h2
  exact ⟨⟨n, ad, k, c, l⟩, rfl, hb, hw⟩
theorem open_opts {fuel : Nat} {cs : List Value} {x : DataW H × List MemPlace} (h : DataW.trod enc Try.prog w base spare held fuel 25 cs = some x) :
    ∃ (a : Option Addr) (len cap : Nat) (os : List OptV), cs = [.slice a len cap] ∧ Ops w a len cap os ∧ ∀ o ∈ os, (Lit.int .i64 o.code).wf = true := by
  rcases DataW.trod_slice Try.underlying25 h with ⟨rfl, _⟩ | ⟨ad, ln, cap, elems, rest, n, _, rfl, rfl, hb, hl, hm, hlen, hel, hsp, hns⟩
  · exact ⟨none, 0, 0, [], rfl, ⟨Sl.nil w 2, fun o ho => by cases ho⟩, fun o ho => by cases ho⟩
  · have hc2 : Try.prog.cellsOf 90 = 2 := by kernel_rfl
    rw [hc2] at hel
    have hos : ∀ i, i < ln → ∃ o : OptV, w.cell? (ad.add (i * 2)) = some (.int .i64 o.code) ∧ w.cell? ((ad.add (i * 2)).add 1) = some (.slice o.ad o.n o.c) ∧ Bs w o.ad o.n o.c o.l ∧ (Lit.int .i64 o.code).wf = true := by
      intro i hi
      have hy := hel i hi
      rw [List.getElem?_eq_getElem (by omega)] at hy
      obtain ⟨cs, hcs, hy⟩ := Option.bind_eq_some_iff.1 hy
      obtain ⟨p, q, rfl, hp, hq⟩ := cells_two hcs
      obtain ⟨o, ho, hb, hw⟩ := trod_opt hy
      simp [OptV.cells] at ho
      obtain ⟨rfl, rfl⟩ := ho
      exact ⟨o, hp, hq, hb, hw⟩
    obtain ⟨os, hl2, hos⟩ := choose_list ln hos
    refine ⟨some ad, ln, cap, os, rfl, ⟨⟨by rw [ocells_length]; omega, hl, hm, by simp, fun j u hj => ⟨_, rfl, ?_⟩⟩, fun o ho => ?_⟩, fun o ho => ?_⟩
    · have hjl : j < 2 * os.length := by have := (List.getElem?_eq_some_iff.1 hj).1; rwa [ocells_length] at this
      obtain ⟨g1, g2⟩ := ocells_get os (j / 2) (by omega)
      obtain ⟨q1, q2, _⟩ := hos (j / 2) (by omega)
      rcases Nat.mod_two_eq_zero_or_one j with e | e
      · rw [show j = 2 * (j / 2) by omega, g1] at hj
        cases hj
        have ea : ad.add j = ad.add (j / 2 * 2) := congrArg _ (by omega)
        rw [ea]
        exact q1
      · rw [show j = 2 * (j / 2) + 1 by omega, g2] at hj
        cases hj
        have ea : ad.add j = (ad.add (j / 2 * 2)).add 1 := by
          rw [show (ad.add (j / 2 * 2)).add 1 = ad.add (j / 2 * 2 + 1) by simp [Addr.add]; split <;> simp_all [Nat.add_assoc]]
          exact congrArg _ (by omega)
        rw [ea]
        exact q2
    · obtain ⟨i, hi, rfl⟩ := List.getElem_of_mem ho
      exact (hos i hi).2.2.1
    · obtain ⟨i, hi, rfl⟩ := List.getElem_of_mem ho
      exact (hos i hi).2.2.2
end
end Go.Proofs.Ytmfplinbbcoahaa
/-
  A block that came in, opened; a slice of blocks, too.
-/
namespace Go.Proofs.Ytmfplinbbcoahaa
open Go.RowKit Go.Sort
open Go.ChangeAt Go.ChangeShapes Go.WideShapes
set_option linter.unusedVariables false
section
variable {H : Type} {enc : TypeId × Value → H} {w : World} {base : Nat} {spare : Nat → Bool} {held : Bool}
theorem lit_u32 {n : Int} (h : (Lit.int .u32 n).wf = true) : ∃ k : Nat, n = (k : Int) ∧ k < 4294967296 := by
  simp [Lit.wf, IntKind.min, IntKind.max, IntKind.signed, IntKind.bits] at h
  exact ⟨n.toNat, by omega, by omega⟩
theorem lit_u64 {n : Int} (h : (Lit.int .u64 n).wf = true) : ∃ k : Nat, n = (k : Int) ∧ k < 18446744073709551616 := by
  simp [Lit.wf, IntKind.min, IntKind.max, IntKind.signed, IntKind.bits] at h
  exact ⟨n.toNat, by omega, by omega⟩
set_option maxRecDepth 100000 in
theorem trod_blk {fuel : Nat} {L : List Value} {r : DataW H × List MemPlace} (h : DataW.trod enc Try.prog w base spare held fuel 27 L = some r) :
    ∃ v : BlkV, L = v.cells ∧ Blk w v ∧ wfB v.val ∧ (Lit.int .i64 v.kind).wf = true ∧ (Lit.int .i64 v.link).wf = true ∧ (Lit.int .i64 v.iface).wf = true := by
  obtain ⟨hl, f, hf⟩ := trod_struct Try.underlying27 h
  have hc : Try.prog.cellsOf 27 = 11 := by kernel_rfl
  have hc1 : Try.prog.cellsOf 3 = 1 := by kernel_rfl
  have hc2 : Try.prog.cellsOf 4 = 1 := by kernel_rfl
  have hc3 : Try.prog.cellsOf 22 = 1 := by kernel_rfl
  have hc4 : Try.prog.cellsOf 23 = 1 := by kernel_rfl
  have hc5 : Try.prog.cellsOf 24 = 1 := by kernel_rfl
  have hc6 : Try.prog.cellsOf 25 = 1 := by kernel_rfl
  simp only [List.mem_cons, List.not_mem_nil, or_false, forall_eq_or_imp, forall_eq, hc1, hc2, hc3, hc4, hc5, hc6] at hf
  rw [hc] at hl
  obtain ⟨⟨y0, h0⟩, ⟨y1, h1⟩, ⟨y2, h2⟩, ⟨y3, h3⟩, ⟨y4, h4⟩, ⟨y5, h5⟩, ⟨y6, h6⟩, ⟨y7, h7⟩, ⟨y8, h8⟩, ⟨y9, h9⟩, ⟨y10, h10⟩⟩ := hf
  rw [take_one_of (show 0 < L.length by omega)] at h0
  rw [take_one_of (show 1 < L.length by omega)] at h1
  rw [take_one_of (show 2 < L.length by omega)] at h2
  rw [take_one_of (show 3 < L.length by omega)] at h3
  rw [take_one_of (show 4 < L.length by omega)] at h4
  rw [take_one_of (show 5 < L.length by omega)] at h5
  rw [take_one_of (show 6 < L.length by omega)] at h6
  rw [take_one_of (show 7 < L.length by omega)] at h7
  rw [take_one_of (show 8 < L.length by omega)] at h8
  rw [take_one_of (show 9 < L.length by omega)] at h9
  rw [take_one_of (show 10 < L.length by omega)] at h10
  obtain ⟨k, e0, w0⟩ := trod_int Try.underlying3 h0
  obtain ⟨bg, e1⟩ := trod_bool Try.underlying4 h1
  obtain ⟨ty', e2, w2⟩ := trod_int Try.underlying22 h2
  obtain ⟨lk, e3, w3⟩ := trod_int Try.underlying3 h3
  obtain ⟨sn', e4, w4⟩ := trod_int Try.underlying22 h4
  obtain ⟨ifc, e5, w5⟩ := trod_int Try.underlying3 h5
  obtain ⟨tm', e6, w6⟩ := trod_int Try.underlying23 h6
  obtain ⟨ln', e7, w7⟩ := trod_int Try.underlying22 h7
  obtain ⟨dad, dn, dc, dl, e8, hb⟩ := trod_bslice Try.underlying24 Try.underlying5 (by kernel_rfl) h8
  obtain ⟨nad, nn, nc, ns, e9, hns, _⟩ := open_opts h9
  obtain ⟨oad, on, oc, os, e10, hos, _⟩ := open_opts h10
  obtain ⟨ty, rfl, b2⟩ := lit_u32 w2
  obtain ⟨sn, rfl, b4⟩ := lit_u32 w4
  obtain ⟨tm, rfl, b6⟩ := lit_u64 w6
  obtain ⟨ln, rfl, b7⟩ := lit_u32 w7
  simp only [List.cons.injEq, and_true] at e9 e10
  refine ⟨⟨k, bg, ty, lk, sn, ifc, tm, ln, dad, dn, dc, dl, nad, nn, nc, ns, oad, on, oc, os⟩, ?_, ⟨hb, hns, hos⟩, ⟨b2, b4, b6, b7⟩, w0, w3, w5⟩
  have kL : L = [L[0], L[1], L[2], L[3], L[4], L[5], L[6], L[7], L[8], L[9], L[10]] := by
    apply List.ext_getElem
    · simp [hl]
    · intro i h1 h2
      simp at h2
      match i, h2 with
      | 0, _ => rfl
      | 1, _ => rfl
      | 2, _ => rfl
      | 3, _ => rfl
      | 4, _ => rfl
      | 5, _ => rfl
      | 6, _ => rfl
      | 7, _ => rfl
      | 8, _ => rfl
      | 9, _ => rfl
      | 10, _ => rfl
  rw [kL, e0, e1, e2, e3, e4, e5, e6, e7, e8, e9, e10]
  rfl
set_option maxRecDepth 100000 in
theorem open_blk {r : Reach} {b0 : Nat} {v : Value} {d : DataW H} {ps : List MemPlace} (hv : Value.okWide Try.prog w r b0 27 v) (h : DataW.Trod enc Try.prog w base spare held 27 v d ps) :
    ∃ x : BlkV, v = .agg x.cells.toArray ∧ Blk w x ∧ wfB x.val := by
  simp only [Value.okWide, Try.underlying27] at hv
  obtain ⟨cs, rfl, hsz, _⟩ := hv
  obtain ⟨fuel, hf⟩ := h
  obtain ⟨x, hx, hb, hw, _⟩ := trod_blk hf
  simp only [Value.cells] at hx
  exact ⟨x, by rw [← hx], hb, hw⟩
end
end Go.Proofs.Ytmfplinbbcoahaa
