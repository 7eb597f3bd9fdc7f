/-
  Joined by program (merge.py): Perm4, Perm5, Drawn, Drawn2, Tail, MgK, Mg1, Mg7, Mg2, Mg8, Mg4.
-/
import Derived.BigQuiet
import Derived.Lone
import Derived.StepT
import Derived.StillTail
import Derived.Lib.Bytealg
import Derived.Laws.CopyOwn
import Derived.Laws.Bits64b
import Derived.Deep.RegionLaw
import Derived.Deep.LoopGhost
import Derived.Test.YtaadpldijnegkaaG1
import Derived.Test.YtaadpldijnegkaaG2
/-
  Chapter 16: the document's offset and skip, walked.
-/
namespace Go.Proofs.Ytaadpldijnegkaa
open Go.RowKit Go.Sort
set_option linter.unusedVariables false
set_option linter.unusedSimpArgs false

theorem Fresh.mono {w : World} {B B' g n c : Nat} {l : List UInt8} (h : Fresh w B g n c l) (hB : B' ≤ B) : Fresh w B' g n c l := by
  obtain ⟨cur, e, fz, h1, h2, h3⟩ := h
  exact ⟨cur, e, fz, h1, Nat.le_trans hB h2, h3⟩

set_option maxRecDepth 100000 in
set_option maxHeartbeats 2000000 in
theorem refPermOf_any (kb : List UInt8) (hkb : kb.length = 16) (s : ByteArray) (hs : s.size ≤ 999999) (size : Nat) (h2 : 2 ≤ size) (h3 : size ≤ 65537) (w : World) :
    Calls Try.prog 24 #[.agg (BV kb).toArray, .string s, .int .i64 (size : Int)] w fun e w' => e = .returned (.tuple #[.int .i64 ((offN kb s size : Nat) : Int), .int .i64 ((skipN kb s size : Nat) : Int)]) ∧ Below w.heap.size w w' := by
  obtain ⟨w1, hw1⟩ : ∃ w1, w1 = w.alloc (.cells (BV kb).toArray 22) := ⟨_, rfl⟩
  have HB := Lib.hid (show Below w.heap.size w w1 by rw [hw1]; exact bup)
  have HR := Lib.hid (show w1.rangeAt w.heap.size 0 (BV kb) by rw [hw1]; exact range_last rfl)
  have HZ := Lib.hid (show w1.heap.size = w.heap.size + 1 by rw [hw1]; simp)
  have HW := Lib.hid hw1
  have HI : Hid ((Try.prog.info? 22).map (·.size) = some (BV kb).length) := Lib.hid (by rw [BV_length, hkb]; kernel_rfl)
  have HB1 := Lib.hid (Below.refl w1.heap.size w1)
  obtain ⟨X0, hX0⟩ : ∃ X : Nat, X = sipN kb (s.data.toList ++ [0]) := ⟨_, rfl⟩
  obtain ⟨X1, hX1⟩ : ∃ X : Nat, X = sipN kb (s.data.toList ++ [1]) := ⟨_, rfl⟩
  have b0 : X0 < 18446744073709551616 := by rw [hX0]; exact xorN_lt _ _
  have b1 : X1 < 18446744073709551616 := by rw [hX1]; exact xorN_lt _ _
  obtain ⟨A, hA⟩ : ∃ A, A = X0 % size := ⟨_, rfl⟩
  obtain ⟨B, hB⟩ : ∃ B, B = X1 % (size - 1) := ⟨_, rfl⟩
  have hAi : (X0 : Int) % (size : Int) = (A : Int) := by rw [hA, Int.natCast_emod]
  have hBi : (X1 : Int) % ((size : Int) - 1) = (B : Int) := by rw [hB, Int.natCast_emod]; congr 1; omega
  have hAl : A < size := by rw [hA]; exact Nat.mod_lt _ (by omega)
  have hBl : B < size - 1 := by rw [hB]; exact Nat.mod_lt _ (by omega)
  have HOF : Hid (offN kb s size = A) := Lib.hid (by rw [hA, hX0]; rfl)
  have HSK : Hid (skipN kb s size = B + 1) := Lib.hid (by rw [hB, hX1]; rfl)
  have HX0 := Lib.hid hX0
  have HX1 := Lib.hid hX1
  clear hw1 hA hB hX0 hX1
  go_enter Try.func24, Try.ntmps24
  go_wp2_with fail
  rw [← HW.out]
  obtain ⟨wc, hwc⟩ : ∃ wc, wc = w1 := ⟨_, rfl⟩
  have HB2 : Hid (Below w1.heap.size w1 wc) := Lib.hid (by rw [hwc]; exact Below.refl _ _)
  rw [← hwc]
  clear HB1 hwc
  have HB1 := HB2
  clear HB2
  refine wp_region_held_drew (S := fun v => v.rangeAt w.heap.size 0 (BV kb)) (by kernel_rfl) ?_ (fun hHeld => ?_)
  focus (have hz := HZ.out; exact range_below HR.out (by omega) (HB1.out.trans (Below.mono bup HB1.out.size)))
  refine' tk 0 (oi := ⟨some 10, _, _, _, _, _⟩) (v := _) rfl (by kernel_rfl) (yieldsIf_load_mid (by rfl) _ _ rfl _ _ rfl (BV kb) _ (fun v hv => hv) (Try.underlying22) rfl (HI.out)) hHeld ?_
  simp only [PT]
  refine tk 1 (oi := ⟨some 11, _, _, _, _, _⟩) (v := ?_) rfl (by kernel_rfl) (.inl ⟨by rfl, ?_⟩) hHeld ?_; rotate_left; focus (intro w hSw; (try dsimp only at hSw); go_simp; try with_reducible rfl)
  simp only [PT]
  refine wpAnyH_ready (rs := [2, 3]) (by kernel_rfl) (by simp) ?_
  refine (AllReadyH.cons (o := ⟨some 12, _, _, _, _, _⟩) rfl (fun K hK => ?_) (AllReadyH.cons (o := ⟨some 13, _, _, _, _, _⟩) rfl (fun K hK => ?_) AllReadyH.nil))
  (go_must (refine step_conv s Try.underlying9 Try.underlying62 Try.underlying5 (by omega) rfl (.tmp 11) rfl rfl ?_); intro c1 wc hf1 hb1; have HF1 := Lib.hid (hf1.mono (B' := w1.heap.size) (by have := HB1.out.size; simp; omega)); have hE__ := cU HB1 bup hb1; replace HB1 := ck HB1 hE__; clear hE__; (try replace HL1 := ckk HL1 bup hb1); clear hf1 hb1)
  refine hK.out _ _ ?_ (fun hHeld => ?_)
  focus (have hz := HZ.out; exact range_below HR.out (by omega) (HB1.out.trans (Below.mono bup HB1.out.size)))
  clear hK K
  try simp only [PT]
  refine wpAnyH_ready (rs := [3]) (by kernel_rfl) (by simp) ?_
  refine (AllReadyH.cons (o := ⟨some 13, _, _, _, _, _⟩) rfl (fun K hK => ?_) AllReadyH.nil)
  (go_simp; have HL1 : Hid (Bs (wc.alloc (.cells #[.int .u8 0] 5)) (some ⟨wc.heap.size, 0, none⟩) 1 1 [0]) := Lib.hid (one_at rfl 0 (Below.refl _ _)))
  refine hK.out _ _ ?_ (fun hHeld => ?_)
  focus (have hz := HZ.out; exact range_below HR.out (by omega) (HB1.out.trans (Below.mono bup HB1.out.size)))
  clear hK K
  try simp only [PT]
  refine wpAnyH_ready (rs := [4]) (by kernel_rfl) (by simp) ?_
  refine (AllReadyH.cons (o := ⟨some 14, _, _, _, _, _⟩) rfl (fun K hK => ?_) AllReadyH.nil)
  (go_must (refine step_append_fresh elB rfl (.tmp 12) (.tmp 13) rfl rfl (HF1.out.below bup) rfl (HL1.out.below bup) (by omega) (by omega) (by omega) (by have := HB1.out.size; simp; omega) ?_); intro ad3 c3 w3 hs3 hb3; have HS3 := Lib.hid hs3; have HB2 := Lib.hid ((HB1.out.trans (Below.mono bup HB1.out.size)).trans hb3); clear HB1 HF1 HL1 hs3 hb3; have HB1 := HB2; clear HB2)
  refine hK.out _ _ ?_ (fun hHeld => ?_)
  focus (have hz := HZ.out; exact range_below HR.out (by omega) (HB1.out.trans (Below.mono bup HB1.out.size)))
  clear hK K
  try simp only [PT]
  refine wpAnyH_ready (rs := [5]) (by kernel_rfl) (by simp) ?_
  refine (AllReadyH.cons (o := ⟨some 15, _, _, _, _, _⟩) rfl (fun K hK => ?_) AllReadyH.nil)
  focus (go_simp; go_must (refine (refOf_any kb hkb ad3 (s.size + 1) c3 (s.data.toList ++ [0]) _ HS3.out (by omega)).mono ?_); rintro e wc ⟨he, hb6⟩; rw [← HX0.out] at he; subst he; have hE__ := cU HB1 bup hb6; replace HB1 := ck HB1 hE__; clear hE__; clear hb6 HS3; go_wp2_with fail)
  refine hK.out _ _ ?_ (fun hHeld => ?_)
  focus (have hz := HZ.out; exact range_below HR.out (by omega) (HB1.out.trans (Below.mono bup HB1.out.size)))
  clear hK K
  try simp only [PT]
  refine tk 6 (oi := ⟨some 8, _, _, _, _, _⟩) (v := ?_) rfl (by kernel_rfl) (.inl ⟨by rfl, ?_⟩) hHeld ?_; rotate_left; focus (intro w hSw; (try dsimp only at hSw); go_simp; try with_reducible rfl)
  simp only [PT]
  refine wpAnyH_done (by kernel_rfl) ?_ _
  rotate_left
  (go_simp; have HL1 : Hid (Bs (wc.alloc (.cells #[.int .u8 0] 5)) (some ⟨wc.heap.size, 0, none⟩) 1 1 [0]) := Lib.hid (one_at rfl 0 (Below.refl _ _)))
  refine hK.out _ _ ?_ (fun hHeld => ?_)
  focus (have hz := HZ.out; exact range_below HR.out (by omega) (HB1.out.trans (Below.mono bup HB1.out.size)))
  clear hK K
  try simp only [PT]
  refine wpAnyH_ready (rs := [2]) (by kernel_rfl) (by simp) ?_
  refine (AllReadyH.cons (o := ⟨some 12, _, _, _, _, _⟩) rfl (fun K hK => ?_) AllReadyH.nil)
  (go_must (refine step_conv s Try.underlying9 Try.underlying62 Try.underlying5 (by omega) rfl (.tmp 11) rfl rfl ?_); intro c1 wc hf1 hb1; have HF1 := Lib.hid (hf1.mono (B' := w1.heap.size) (by have := HB1.out.size; simp; omega)); have hE__ := cU HB1 bup hb1; replace HB1 := ck HB1 hE__; clear hE__; (try replace HL1 := ckk HL1 bup hb1); clear hf1 hb1)
  refine hK.out _ _ ?_ (fun hHeld => ?_)
  focus (have hz := HZ.out; exact range_below HR.out (by omega) (HB1.out.trans (Below.mono bup HB1.out.size)))
  clear hK K
  try simp only [PT]
  refine wpAnyH_ready (rs := [4]) (by kernel_rfl) (by simp) ?_
  refine (AllReadyH.cons (o := ⟨some 14, _, _, _, _, _⟩) rfl (fun K hK => ?_) AllReadyH.nil)
  (go_must (refine step_append_fresh elB rfl (.tmp 12) (.tmp 13) rfl rfl (HF1.out.below bup) rfl (HL1.out.below bup) (by omega) (by omega) (by omega) (by have := HB1.out.size; simp; omega) ?_); intro ad3 c3 w3 hs3 hb3; have HS3 := Lib.hid hs3; have HB2 := Lib.hid ((HB1.out.trans (Below.mono bup HB1.out.size)).trans hb3); clear HB1 HF1 HL1 hs3 hb3; have HB1 := HB2; clear HB2)
  refine hK.out _ _ ?_ (fun hHeld => ?_)
  focus (have hz := HZ.out; exact range_below HR.out (by omega) (HB1.out.trans (Below.mono bup HB1.out.size)))
  clear hK K
  try simp only [PT]
  refine wpAnyH_ready (rs := [5]) (by kernel_rfl) (by simp) ?_
  refine (AllReadyH.cons (o := ⟨some 15, _, _, _, _, _⟩) rfl (fun K hK => ?_) AllReadyH.nil)
  focus (go_simp; go_must (refine (refOf_any kb hkb ad3 (s.size + 1) c3 (s.data.toList ++ [0]) _ HS3.out (by omega)).mono ?_); rintro e wc ⟨he, hb6⟩; rw [← HX0.out] at he; subst he; have hE__ := cU HB1 bup hb6; replace HB1 := ck HB1 hE__; clear hE__; clear hb6 HS3; go_wp2_with fail)
  refine hK.out _ _ ?_ (fun hHeld => ?_)
  focus (have hz := HZ.out; exact range_below HR.out (by omega) (HB1.out.trans (Below.mono bup HB1.out.size)))
  clear hK K
  try simp only [PT]
  refine tk 6 (oi := ⟨some 8, _, _, _, _, _⟩) (v := ?_) rfl (by kernel_rfl) (.inl ⟨by rfl, ?_⟩) hHeld ?_; rotate_left; focus (intro w hSw; (try dsimp only at hSw); go_simp; try with_reducible rfl)
  simp only [PT]
  refine wpAnyH_done (by kernel_rfl) ?_ _
  rotate_left
  all_goals
    go_wp2_with fail
    refine wp_region_held_drew (S := fun v => v.rangeAt w.heap.size 0 (BV kb)) (by kernel_rfl) ?_ (fun hHeld => ?_)
    focus (have hz := HZ.out; exact range_below HR.out (by omega) (HB1.out.trans (Below.mono bup HB1.out.size)))
    refine' tk 0 (oi := ⟨some 16, _, _, _, _, _⟩) (v := _) rfl (by kernel_rfl) (yieldsIf_load_mid (by rfl) _ _ rfl _ _ rfl (BV kb) _ (fun v hv => hv) (Try.underlying22) rfl (HI.out)) hHeld ?_
    simp only [PT]
    refine tk 1 (oi := ⟨some 17, _, _, _, _, _⟩) (v := ?_) rfl (by kernel_rfl) (.inl ⟨by rfl, ?_⟩) hHeld ?_; rotate_left; focus (intro w hSw; (try dsimp only at hSw); go_simp; try with_reducible rfl)
    simp only [PT]
    refine wpAnyH_ready (rs := [2, 3]) (by kernel_rfl) (by simp) ?_
    refine (AllReadyH.cons (o := ⟨some 18, _, _, _, _, _⟩) rfl (fun K hK => ?_) (AllReadyH.cons (o := ⟨some 19, _, _, _, _, _⟩) rfl (fun K hK => ?_) AllReadyH.nil))
    (go_must (refine step_conv s Try.underlying9 Try.underlying62 Try.underlying5 (by omega) rfl (.tmp 17) rfl rfl ?_); intro c1 wc hf1 hb1; have HF1 := Lib.hid (hf1.mono (B' := w1.heap.size) (by have := HB1.out.size; simp; omega)); have hE__ := cU HB1 bup hb1; replace HB1 := ck HB1 hE__; clear hE__; (try replace HL1 := ckk HL1 bup hb1); clear hf1 hb1)
    refine hK.out _ _ ?_ (fun hHeld => ?_)
    focus (have hz := HZ.out; exact range_below HR.out (by omega) (HB1.out.trans (Below.mono bup HB1.out.size)))
    clear hK K
    try simp only [PT]
    refine wpAnyH_ready (rs := [3]) (by kernel_rfl) (by simp) ?_
    refine (AllReadyH.cons (o := ⟨some 19, _, _, _, _, _⟩) rfl (fun K hK => ?_) AllReadyH.nil)
    (go_simp; have HL1 : Hid (Bs (wc.alloc (.cells #[.int .u8 1] 5)) (some ⟨wc.heap.size, 0, none⟩) 1 1 [1]) := Lib.hid (one_at rfl 1 (Below.refl _ _)))
    refine hK.out _ _ ?_ (fun hHeld => ?_)
    focus (have hz := HZ.out; exact range_below HR.out (by omega) (HB1.out.trans (Below.mono bup HB1.out.size)))
    clear hK K
    try simp only [PT]
    refine wpAnyH_ready (rs := [4]) (by kernel_rfl) (by simp) ?_
    refine (AllReadyH.cons (o := ⟨some 20, _, _, _, _, _⟩) rfl (fun K hK => ?_) AllReadyH.nil)
    (go_must (refine step_append_fresh elB rfl (.tmp 18) (.tmp 19) rfl rfl (HF1.out.below bup) rfl (HL1.out.below bup) (by omega) (by omega) (by omega) (by have := HB1.out.size; simp; omega) ?_); intro ad3 c3 w3 hs3 hb3; have HS3 := Lib.hid hs3; have HB2 := Lib.hid ((HB1.out.trans (Below.mono bup HB1.out.size)).trans hb3); clear HB1 HF1 HL1 hs3 hb3; have HB1 := HB2; clear HB2)
    refine hK.out _ _ ?_ (fun hHeld => ?_)
    focus (have hz := HZ.out; exact range_below HR.out (by omega) (HB1.out.trans (Below.mono bup HB1.out.size)))
    clear hK K
    try simp only [PT]
    refine wpAnyH_ready (rs := [5]) (by kernel_rfl) (by simp) ?_
    refine (AllReadyH.cons (o := ⟨some 21, _, _, _, _, _⟩) rfl (fun K hK => ?_) AllReadyH.nil)
    focus (go_simp; go_must (refine (refOf_any kb hkb ad3 (s.size + 1) c3 (s.data.toList ++ [1]) _ HS3.out (by omega)).mono ?_); rintro e wc ⟨he, hb6⟩; rw [← HX1.out] at he; subst he; have hE__ := cU HB1 bup hb6; replace HB1 := ck HB1 hE__; clear hE__; clear hb6 HS3; go_wp2_with fail)
    refine hK.out _ _ ?_ (fun hHeld => ?_)
    focus (have hz := HZ.out; exact range_below HR.out (by omega) (HB1.out.trans (Below.mono bup HB1.out.size)))
    clear hK K
    try simp only [PT]
    refine tk 6 (oi := ⟨some 9, _, _, _, _, _⟩) (v := ?_) rfl (by kernel_rfl) (.inl ⟨by rfl, ?_⟩) hHeld ?_; rotate_left; focus (intro w hSw; (try dsimp only at hSw); go_simp; try with_reducible rfl)
    simp only [PT]
    refine wpAnyH_done (by kernel_rfl) ?_ _
    rotate_left
    (go_simp; have HL1 : Hid (Bs (wc.alloc (.cells #[.int .u8 1] 5)) (some ⟨wc.heap.size, 0, none⟩) 1 1 [1]) := Lib.hid (one_at rfl 1 (Below.refl _ _)))
    refine hK.out _ _ ?_ (fun hHeld => ?_)
    focus (have hz := HZ.out; exact range_below HR.out (by omega) (HB1.out.trans (Below.mono bup HB1.out.size)))
    clear hK K
    try simp only [PT]
    refine wpAnyH_ready (rs := [2]) (by kernel_rfl) (by simp) ?_
    refine (AllReadyH.cons (o := ⟨some 18, _, _, _, _, _⟩) rfl (fun K hK => ?_) AllReadyH.nil)
    (go_must (refine step_conv s Try.underlying9 Try.underlying62 Try.underlying5 (by omega) rfl (.tmp 17) rfl rfl ?_); intro c1 wc hf1 hb1; have HF1 := Lib.hid (hf1.mono (B' := w1.heap.size) (by have := HB1.out.size; simp; omega)); have hE__ := cU HB1 bup hb1; replace HB1 := ck HB1 hE__; clear hE__; (try replace HL1 := ckk HL1 bup hb1); clear hf1 hb1)
    refine hK.out _ _ ?_ (fun hHeld => ?_)
    focus (have hz := HZ.out; exact range_below HR.out (by omega) (HB1.out.trans (Below.mono bup HB1.out.size)))
    clear hK K
    try simp only [PT]
    refine wpAnyH_ready (rs := [4]) (by kernel_rfl) (by simp) ?_
    refine (AllReadyH.cons (o := ⟨some 20, _, _, _, _, _⟩) rfl (fun K hK => ?_) AllReadyH.nil)
    (go_must (refine step_append_fresh elB rfl (.tmp 18) (.tmp 19) rfl rfl (HF1.out.below bup) rfl (HL1.out.below bup) (by omega) (by omega) (by omega) (by have := HB1.out.size; simp; omega) ?_); intro ad3 c3 w3 hs3 hb3; have HS3 := Lib.hid hs3; have HB2 := Lib.hid ((HB1.out.trans (Below.mono bup HB1.out.size)).trans hb3); clear HB1 HF1 HL1 hs3 hb3; have HB1 := HB2; clear HB2)
    refine hK.out _ _ ?_ (fun hHeld => ?_)
    focus (have hz := HZ.out; exact range_below HR.out (by omega) (HB1.out.trans (Below.mono bup HB1.out.size)))
    clear hK K
    try simp only [PT]
    refine wpAnyH_ready (rs := [5]) (by kernel_rfl) (by simp) ?_
    refine (AllReadyH.cons (o := ⟨some 21, _, _, _, _, _⟩) rfl (fun K hK => ?_) AllReadyH.nil)
    focus (go_simp; go_must (refine (refOf_any kb hkb ad3 (s.size + 1) c3 (s.data.toList ++ [1]) _ HS3.out (by omega)).mono ?_); rintro e wc ⟨he, hb6⟩; rw [← HX1.out] at he; subst he; have hE__ := cU HB1 bup hb6; replace HB1 := ck HB1 hE__; clear hE__; clear hb6 HS3; go_wp2_with fail)
    refine hK.out _ _ ?_ (fun hHeld => ?_)
    focus (have hz := HZ.out; exact range_below HR.out (by omega) (HB1.out.trans (Below.mono bup HB1.out.size)))
    clear hK K
    try simp only [PT]
    refine tk 6 (oi := ⟨some 9, _, _, _, _, _⟩) (v := ?_) rfl (by kernel_rfl) (.inl ⟨by rfl, ?_⟩) hHeld ?_; rotate_left; focus (intro w hSw; (try dsimp only at hSw); go_simp; try with_reducible rfl)
    simp only [PT]
    refine wpAnyH_done (by kernel_rfl) ?_ _
    rotate_left
    all_goals
      go_wp2_with fail
      go_quiet (fail)
      go_wp2_with fail
      go_ret2
      exact ⟨by rw [HOF.out, HSK.out]; rfl, HB.out.trans ((HB1.out.trans (below_drewN _ _ _)).mono HB.out.size)⟩
end Go.Proofs.Ytaadpldijnegkaa
/-
  Chapter 16: all choices, walked.
-/
namespace Go.Proofs.Ytaadpldijnegkaa
open Go.RowKit Go.Sort
set_option linter.unusedVariables false
set_option linter.unusedSimpArgs false

theorem elI : Elem Try.prog 28 3 1 8 (.int .i64 0) := ⟨Try.underlying28, by kernel_rfl, rfl, by omega⟩
/-- the cells of numbers -/
def NV (l : List Nat) : List Value := l.map fun n : Nat => Value.int .i64 (n : Int)
theorem NV_length (l : List Nat) : (NV l).length = l.length := by simp [NV]
theorem NV_append (l m : List Nat) : NV (l ++ m) = NV l ++ NV m := by simp [NV]
theorem NV_one (l : List Nat) : ∀ u ∈ NV l, u.oneCell' = true := by
  intro u hu
  obtain ⟨x, _, rfl⟩ := List.mem_map.1 hu
  rfl
theorem NV_set (l : List Nat) (i n : Nat) : (NV l).set i (.int .i64 (n : Int)) = NV (l.set i n) := by simp [NV, List.map_set]

def allN (off skip size : Nat) : List Nat := (List.range size).map (choiceN off skip size)
def allTo (off skip size k : Nat) : List Nat := (List.range size).map fun i => if i < k then choiceN off skip size i else 0
theorem allTo_zero (off skip size : Nat) : NV (allTo off skip size 0) = List.replicate size (.int .i64 0) := by
  apply List.ext_getElem
  · simp [NV, allTo]
  · intro i h1 h2
    simp [NV, allTo]
theorem allTo_succ (off skip size k : Nat) (h : k < size) : (allTo off skip size k).set k (choiceN off skip size k) = allTo off skip size (k + 1) := by
  apply List.ext_getElem
  · simp [allTo]
  · intro i h1 h2
    simp only [allTo, List.length_set, List.length_map, List.length_range] at h1
    simp only [List.getElem_set, allTo, List.getElem_map, List.getElem_range]
    by_cases e : k = i
    · subst e; simp
    · rw [if_neg e]
      by_cases e2 : i < k
      · rw [if_pos e2, if_pos (by omega)]
      · rw [if_neg e2, if_neg (by omega)]
theorem allTo_all (off skip size : Nat) : allTo off skip size size = allN off skip size := by
  unfold allTo allN
  refine List.map_congr_left fun i hi => ?_
  rw [if_pos (by simpa using hi)]
def atN (off skip size k : Nat) : Nat := (off + k * skip) % size
theorem atN_choice (off skip size k : Nat) (h : k < size) : choiceN off skip size k = atN off skip size k := by
  unfold choiceN atN
  rw [Nat.mod_eq_of_lt h]
theorem atN_succ (off skip size k : Nat) (h0 : 0 < size) (hs : skip < size) : atN off skip size (k + 1) = if size ≤ atN off skip size k + skip then atN off skip size k + skip - size else atN off skip size k + skip := by
  unfold atN
  have hl := Nat.mod_lt (off + k * skip) h0
  have e : (off + (k + 1) * skip) % size = ((off + k * skip) % size + skip) % size := by
    rw [Nat.add_mul, Nat.one_mul, ← Nat.add_assoc, Nat.mod_add_mod]
  rw [e]
  split
  · rename_i h
    rw [Nat.mod_eq_sub_mod h, Nat.mod_eq_of_lt (by omega)]
  · rename_i h
    exact Nat.mod_eq_of_lt (by omega)

/-- what is answered: numbers in memory of its own -/
def RetI (size : Nat) (l : List Nat) (w : World) (e : Ending) (w' : World) : Prop :=
  ∃ ad c, e = .returned (.slice ad size c) ∧ w'.ownsRow w.heap.size 3 1 (.slice ad size c) size (NV l) ∧ Below w.heap.size w w'

set_option maxRecDepth 100000 in
set_option maxHeartbeats 1000000 in
theorem refAll_any (kb : List UInt8) (hkb : kb.length = 16) (s : ByteArray) (hs : s.size ≤ 999999) (size : Nat) (h2 : 2 ≤ size) (h3 : size ≤ 65537) (w : World) :
    Calls Try.prog 32 #[.agg (BV kb).toArray, .string s, .int .i64 (size : Int)] w (RetI size (allN (offN kb s size) (skipN kb s size) size) w) := by
  obtain ⟨w1, hw1⟩ : ∃ w1, w1 = w.alloc (.cells (BV kb).toArray 22) := ⟨_, rfl⟩
  have HB := Lib.hid (show Below w.heap.size w w1 by rw [hw1]; exact bup)
  have HR := Lib.hid (show w1.rangeAt w.heap.size 0 (BV kb) by rw [hw1]; exact range_last rfl)
  have HW := Lib.hid hw1
  have HI : Hid ((Try.prog.info? 22).map (·.size) = some (BV kb).length) := Lib.hid (by rw [BV_length, hkb]; kernel_rfl)
  have HB1 := Lib.hid (Below.refl w1.heap.size w1)
  obtain ⟨A, hA⟩ : ∃ A, A = offN kb s size := ⟨_, rfl⟩
  obtain ⟨B, hB⟩ : ∃ B, B = skipN kb s size := ⟨_, rfl⟩
  have hAl : A < size := by rw [hA]; exact Nat.mod_lt _ (by omega)
  have hBl : 0 < B ∧ B < size := by rw [hB]; have := Nat.mod_lt (tagN kb s 1) (show 0 < size - 1 by omega); unfold skipN; omega
  rw [← hA, ← hB]
  have HA := Lib.hid hA
  have HBB := Lib.hid hB
  have HAT : Hid (A = atN A B size 0) := Lib.hid (by unfold atN; rw [Nat.zero_mul, Nat.add_zero, Nat.mod_eq_of_lt hAl])
  have HAN : Hid (allN A B size = (List.range size).map (atN A B size)) := Lib.hid (by
    unfold allN
    exact List.map_congr_left fun i hi => atN_choice A B size i (by simpa using hi))
  clear hw1 hA hB
  go_enter Try.func32, Try.ntmps32
  go_wp2_with (first
    | ((with_reducible refine sl 12 ?_); (try rw [← HW.out]); go_must (refine wpL_load rfl 22 (.tmp 3) rfl w.heap.size 0 rfl (BV kb) _ HR.out Try.underlying22 rfl HI.out ?_); simp only [PT])
    | (go_at_call 24; go_must (refine (refPermOf_any kb hkb s hs size h2 h3 _).mono ?_); rintro e w2 ⟨he, hb2⟩; rw [← HA.out, ← HBB.out] at he; subst he; have hE__ := cU HB1 bup hb2; replace HB1 := ck HB1 hE__; clear hE__; clear hb2))
  go_loopw [7, 9, 10] (fun v7 v9 v10 wr => ∃ (k a : Nat) (ad : Option Addr) (c : Nat), k ≤ size ∧ v10 = .int .i64 k ∧ v7 = .int .i64 a ∧ a < size ∧ Hid (a = atN A B size k) ∧ v9 = .slice ad k c ∧ wr.ownsRow w1.heap.size 3 1 (.slice ad k c) k (NV ((List.range k).map (atN A B size))) ∧ Below w1.heap.size w1 wr) (fun _ _ i _ => size - (intOf i).toNat)
  case atStart => exact ⟨0, A, none, 0, Nat.zero_le _, rfl, rfl, hAl, HAT, rfl, World.ownsRow_nil _ _ _ _, HB1.out⟩
  case round =>
    obtain ⟨k, a, ad, c, hk, rfl, rfl, hal, ha, rfl, hown, hb⟩ := hrel
    have HO := Lib.hid hown
    have HB2 := Lib.hid hb
    have hbs := hb.size
    clear hown hb HB1
    by_cases hlt : k < size
    · have hst := atN_succ A B size k (by omega) hBl.2
      rw [← ha.out] at hst
      by_cases hge : size ≤ a + B
      · rw [if_pos hge] at hst
        have HST := Lib.hid hst
        have hge2 : (size : Int) ≤ (a : Int) + B := by omega
        clear hst
        go_wp2_with ((with_reducible refine sl 26 ?_); go_must (refine wpL_push elI rfl (.tmp 23) (.tmp 25) rfl w1.heap.size rfl HO.out _ 1 rfl rfl rfl (NV_one [a]) (by omega) (by omega) (by omega) hbs HB2.out (Nat.le_refl _) ?_); intro ad3 c3 w3 ho3 hb3 hg3; clear hg3)
        have HO3 := Lib.hid ho3
        have HB3 := Lib.hid hb3
        clear ho3 hb3
        go_wp2_with fail
        go_roundw
        case rel => exact ⟨k + 1, a + B - size, ad3, c3, by omega, by go_num, by go_num, by omega, Lib.hid HST.out.symm, rfl, by rw [List.range_succ, List.map_append, NV_append, List.map_cons, List.map_nil, ← ha.out]; exact HO3.out, HB3.out⟩
        case measure => simp [intOf]; omega
      · rw [if_neg hge] at hst
        have HST := Lib.hid hst
        have hge2 : ¬ ((size : Int) ≤ (a : Int) + B) := by omega
        clear hst
        go_wp2_with ((with_reducible refine sl 26 ?_); go_must (refine wpL_push elI rfl (.tmp 23) (.tmp 25) rfl w1.heap.size rfl HO.out _ 1 rfl rfl rfl (NV_one [a]) (by omega) (by omega) (by omega) hbs HB2.out (Nat.le_refl _) ?_); intro ad3 c3 w3 ho3 hb3 hg3; clear hg3)
        have HO3 := Lib.hid ho3
        have HB3 := Lib.hid hb3
        clear ho3 hb3
        go_wp2_with fail
        go_roundw
        case rel => exact ⟨k + 1, a + B, ad3, c3, by omega, by go_num, by go_num, by omega, Lib.hid HST.out.symm, rfl, by rw [List.range_succ, List.map_append, NV_append, List.map_cons, List.map_nil, ← ha.out]; exact HO3.out, HB3.out⟩
        case measure => simp [intOf]; omega
    · obtain rfl : k = size := by omega
      rw [← HAN.out] at HO
      go_wp2_with fail
      go_ret
      exact ⟨_, _, rfl, own_base HO.out HB.out.size, HB.out.trans (HB2.out.mono HB.out.size)⟩

/-- a slice of numbers reads as l -/
def Ns (w : World) (ad : Option Addr) (n c : Nat) (l : List Nat) : Prop := Sl w ad n c 1 (NV l)
theorem Ns.len {w : World} {ad : Option Addr} {n c : Nat} {l : List Nat} (h : Ns w ad n c l) : n = l.length := by have := Sl.len h; rw [NV_length] at this; omega
theorem Ns.at {w : World} {ad : Option Addr} {n c : Nat} {l : List Nat} (h : Ns w ad n c l) {j : Nat} (hj : j < l.length) :
    ∃ b off, ad = some ⟨b, off, none⟩ ∧ ∀ i (hi : i < l.length), w.cell? ⟨b, off + i, none⟩ = some (.int .i64 (l[i] : Int)) := by
  obtain ⟨b, off, ha, hb, hc⟩ := Sl.at h (j := j) (by rw [NV_length]; exact hj)
  refine ⟨b, off, ha, fun i hi => ?_⟩
  rw [hc i (by rw [NV_length]; exact hi)]
  simp [NV]
set_option maxHeartbeats 1000000 in
set_option maxRecDepth 100000 in
theorem sameI_any (ad ad' : Option Addr) (n n' c c' : Nat) (l : List Nat) (w : World) (hs : Ns w ad n c l) (hs' : Ns w ad' n' c' l) (hl : l.length ≤ 100000) :
    Calls Try.prog 31 #[.slice ad n c, .slice ad' n' c'] w fun e w' => e = .returned (.bool true) ∧ Below w.heap.size w w' := by
  have hn := hs.len
  have hn' := hs'.len
  subst hn hn'
  have hc1 : l.length ≤ c := hs.2.1
  have hc2 : l.length ≤ c' := hs'.2.1
  have HS := Lib.hid hs
  have HS' := Lib.hid hs'
  clear hs hs'
  go_enter Try.func31, Try.ntmps31
  go_wp2_with fail
  go_loopw [5] (fun i wr => ∃ k : Nat, k ≤ l.length ∧ i = .int .i64 k ∧ Below w.heap.size w wr) (fun i _ => l.length - (intOf i).toNat)
  case atStart => exact ⟨0, Nat.zero_le _, rfl, Below.refl _ _⟩
  case round =>
    obtain ⟨k, hk, rfl, hb⟩ := hrel
    by_cases hlt : k < l.length
    · obtain ⟨b, off, rfl, hcc⟩ := Ns.at (Sl.below HS.out hb) hlt
      obtain ⟨b', off', rfl, hcc'⟩ := Ns.at (Sl.below HS'.out hb) hlt
      have k1 := hcc k hlt
      have k2 := hcc' k hlt
      obtain ⟨x, hx⟩ : ∃ x, x = l[k] := ⟨_, rfl⟩
      rw [← hx] at k1 k2
      have HB := Lib.hid hb
      have hk0 : (0 : Int) ≤ (k : Int) := by omega
      have hk1 : (k : Int) < (l.length : Int) := by omega
      clear hcc hcc' hx hb
      go_wp2_with fail
      go_quiet (fail)
      go_wp2_with fail
      go_roundw
      case rel => exact ⟨k + 1, by omega, by go_num, HB.out.trans (below_drewN _ _ _)⟩
      case measure => simp [intOf]; omega
    · have HB := Lib.hid hb
      clear hb
      go_wp2_with fail
      go_ret
      exact ⟨rfl, HB.out⟩
end Go.Proofs.Ytaadpldijnegkaa
/-
  The tape's count never falls: of whatever program, machine and step. (For a 'cmp' of slices.SortFunc that lays blocks: what is known of it as 'Below' is so 'some draws, some blocks'.)
-/
namespace Go.Proofs.Ytaadpldijnegkaa
open Go.RowKit Go.Sort
set_option linter.unusedVariables false
set_option linter.unusedSimpArgs false

theorem ask_drawn {α : Type} : ∀ (q : Ask α) (w : World), w.drawn ≤ (w.ask q).2.drawn
  | .done a, w => Nat.le_refl _
  | .ask what range k, w => by
    unfold World.ask
    dsimp only
    split
    · exact ask_drawn _ _
    · exact Nat.le_trans (Nat.le_succ _) (ask_drawn _ { w with drawn := w.drawn + 1 })
theorem sys_drawn (w : World) (c : Sys) : w.drawn ≤ (w.sys c).2.drawn := by
  have h := ask_drawn (Kernel.perform c w.os) w
  unfold World.sys
  generalize w.ask (Kernel.perform c w.os) = r at h
  obtain ⟨⟨a, os⟩, w'⟩ := r
  cases a <;> simp_all
theorem viewStore_drawn {p : Program} {w : World} {at_ : Addr} {u : TypeId} {k : Addr} {v : Value} {b : Bool} {r : World × List Addr} (h : w.viewStore p at_ u k v b = .ok r) : r.1.drawn = w.drawn := by
  unfold World.viewStore at h
  simp only [bind, Except.bind, pure, Except.pure] at h
  repeat' first
    | (cases h; done)
    | (cases h; rfl)
    | split at h
theorem farStore_drawn {p : Program} {w : World} {a : Addr} {v : Value} {b : Bool} {r : World × List Addr} (h : w.farStore p a v b = .ok r) : r.1.drawn = w.drawn := by
  unfold World.farStore at h
  split at h
  · split at h
    · cases h; exact viewStore_drawn (by assumption)
    · cases h
  · cases h
theorem setCell_drawn (w : World) (a : Addr) (v : Value) : (w.setCell a v).drawn = w.drawn := rfl
theorem freeze_drawn (w : World) (a : Addr) (n : Nat) : (w.freeze a n).drawn = w.drawn := by unfold World.freeze; split <;> rfl
/-- how far the tape is read in the end -/
def upTo {α : Type} : Result α → Nat
  | .ok _ w => w.drawn
  | .halt _ w => w.drawn
theorem run_drawn {α : Type} (p : Program) (s : Sem α) : ∀ w : World, w.drawn ≤ upTo (s.run p w) := by
  induction s with
  | pure a => intro w; exact Nat.le_refl _
  | load m a k ih =>
    intro w
    unfold Sem.run
    split
    · exact ih _ _
    · split
      · exact ih _ _
      · exact Nat.le_refl _
  | store m a v k ih =>
    intro w
    cases v <;> unfold Sem.run <;> (try exact Nat.le_refl _)
    all_goals
      split
      · split
        · exact Nat.le_refl _
        · exact ih (w.setCell a _)
      · split
        · rename_i h; have := farStore_drawn h; simp only at this; rw [← this]; exact ih _
        · exact Nat.le_refl _
  | new o k ih => intro w; exact ih _ { w with heap := w.heap.push o }
  | shape r k ih => intro w; exact ih _ _
  | freeze a n k ih => intro w; unfold Sem.run; rw [← freeze_drawn w a n]; exact ih _
  | frozen a k ih => intro w; exact ih _ _
  | getObj r k ih =>
    intro w
    unfold Sem.run
    split
    · exact Nat.le_refl _
    · exact ih _ _
    · exact Nat.le_refl _
  | setObj r o k ih =>
    intro w
    unfold Sem.run
    split
    · exact Nat.le_refl _
    · exact ih { w with heap := w.heap.setIfInBounds r o }
    · exact Nat.le_refl _
  | choose q k ih =>
    intro w
    unfold Sem.run
    split
    · exact ih _ _
    · exact Nat.le_trans (Nat.le_succ _) (ih _ { w with drawn := w.drawn + 1 })
  | sys c k ih => intro w; unfold Sem.run; exact Nat.le_trans (sys_drawn w c) (ih _ _)
  | program k ih => intro w; exact ih _ _
  | mark m k ih => intro w; exact ih _
  | halt h => intro w; exact Nat.le_refl _
theorem run_ok {α : Type} {p : Program} {s : Sem α} {w w' : World} {a : α} (h : s.run p w = .ok a w') : w.drawn ≤ w'.drawn := by
  have := run_drawn p s w; rw [h] at this; exact this
theorem run_halt {α : Type} {p : Program} {s : Sem α} {w w' : World} {a : Halt} (h : s.run p w = .halt a w') : w.drawn ≤ w'.drawn := by
  have := run_drawn p s w; rw [h] at this; exact this
theorem runT_ok {α : Type} {p : Program} {s : Sem α} {w w' : World} {es es' : Array Event} {a : α} (h : s.runT p w es = (.ok a w', es')) : w.drawn ≤ w'.drawn := by
  have h1 := Sem.runT_fst p s w es; rw [h] at h1; exact run_ok h1.symm
theorem runT_halt {α : Type} {p : Program} {s : Sem α} {w w' : World} {es es' : Array Event} {a : Halt} (h : s.runT p w es = (.halt a w', es')) : w.drawn ≤ w'.drawn := by
  have h1 := Sem.runT_fst p s w es; rw [h] at h1; exact run_halt h1.symm
/-- a step of a goroutine that reads the tape no less far -/
def lowG (d : Nat) : GStep → Prop
  | .go _ w _ => d ≤ w.drawn
  | .comm _ _ _ _ w _ => d ≤ w.drawn
  | .spawn _ _ w _ => d ≤ w.drawn
  | .count _ w _ => d ≤ w.drawn
  | .timer _ _ w _ => d ≤ w.drawn
  | .alone _ _ w _ => d ≤ w.drawn
  | .newcoro _ _ _ w _ => d ≤ w.drawn
  | .coroswitch _ _ _ w _ => d ≤ w.drawn
  | .collect _ w _ => d ≤ w.drawn
  | .watch _ w _ => d ≤ w.drawn
  | .ended _ _ _ => True
theorem lowG_after {d : Nat} {es : Array Event} {s : GStep} (h : lowG d s) : lowG d (GStep.after es s) := by cases s <;> exact h
theorem lowG_le {d d' : Nat} {s : GStep} (h : lowG d' s) (hd : d ≤ d') : lowG d s := by
  cases s <;> first | exact Nat.le_trans hd h | trivial
theorem low_endWith (w : World) (fd : Nat) (t : ByteArray) (o : Outcome) (d : Nat) : lowG d (endWith w fd t o) := by
  unfold endWith
  dsimp only
  repeat' first
    | trivial
    | split
theorem low_dieOf (fr : Frame) (a : List ByteArray) (m : String) (b : Bool) (w : World) : lowG w.drawn (dieOf fr a m b w) := Nat.le_refl _
theorem low_endThrow (fr : Frame) (m : String) (w : World) : lowG w.drawn (endThrow fr m w) := Nat.le_refl _
theorem low_endPrinting (p : Program) (fr : Frame) (v : Value) (w : World) : lowG w.drawn (endPrinting p fr v w) := by
  unfold endPrinting
  dsimp only
  split
  · exact low_endThrow _ _ _
  · trivial
theorem low_endFatal (p : Program) (fr : Frame) (cs : List Frame) (dy : Option Dying) (m : String) (w : World) : lowG w.drawn (endFatal p fr cs dy m w) := by
  unfold endFatal
  dsimp only
  split
  · rename_i h; exact lowG_le (low_dieOf _ _ _ _ _) (run_ok h)
  · trivial
  · trivial
theorem low_writeOn (p : Program) (fr : Frame) (d : Dying) (f : Fatal) (w : World) : lowG w.drawn (writeOn p fr d f w) := by
  unfold writeOn
  dsimp only
  split
  · trivial
  · split
    · rename_i h; exact runT_ok h
    · rename_i h; exact runT_halt h
    · trivial
    · trivial
theorem low_die (p : Program) (fr : Frame) (d : Dying) (w : World) : lowG w.drawn (die p fr d w) := by
  unfold die
  split
  · exact low_writeOn _ _ _ _ _
  · split
    · split
      · exact Nat.le_refl _
      · exact low_endWith _ _ _ _ _
    · dsimp only
      split
      · exact Nat.le_refl _
      · split
        · rename_i h; exact run_ok h
        · trivial
      · refine lowG_after ?_
        split
        · rename_i h; exact run_ok (by first | exact h | (rw [← Sem.runT_fst]; exact h))
        · rename_i h; exact run_ok (by first | exact h | (rw [← Sem.runT_fst]; exact h))
        · trivial
        · rename_i h; exact lowG_le (low_endPrinting _ _ _ _) (run_halt (by first | exact h | (rw [← Sem.runT_fst]; exact h)))
        · trivial
      · trivial
theorem low_doReturn (p : Program) (main : Bool) (fr : Frame) (cs : List Frame) (dy : Option Dying) (v : Value) (w : World) : lowG w.drawn (doReturn p main fr cs dy v w) := by
  unfold doReturn
  dsimp only
  repeat' first
    | trivial
    | exact Nat.le_refl _
    | split
end Go.Proofs.Ytaadpldijnegkaa
/-
  The tape's count never falls: the step of a goroutine, of a machine, a call.
-/
namespace Go.Proofs.Ytaadpldijnegkaa
open Go.RowKit Go.Sort
set_option linter.unusedVariables false
set_option linter.unusedSimpArgs false
set_option maxHeartbeats 4000000

theorem low_ite {c : Prop} [Decidable c] {a b : GStep} {d : Nat} (h1 : c → lowG d a) (h2 : ¬ c → lowG d b) : lowG d (if c then a else b) := by
  split
  · exact h1 (by assumption)
  · exact h2 (by assumption)
theorem low_callDeferred (p : Program) (fr : Frame) (cs : List Frame) (dy : Option Dying) (d : Deferred) (w : World) : lowG w.drawn (callDeferred p fr cs dy d w) := by
  unfold callDeferred
  refine low_ite (fun _ => trivial) (fun _ => ?_)
  · have hr := run_drawn p (invoke d.target d.args) w
    rw [← Sem.runT_fst p _ w #[]] at hr
    generalize (invoke d.target d.args).runT p w #[] = r at hr ⊢
    obtain ⟨r, es⟩ := r
    dsimp only at hr ⊢
    refine lowG_after ?_
    split
    all_goals first
      | trivial
      | exact hr
      | exact lowG_le (low_endFatal _ _ _ _ _ _) hr
      | exact lowG_le (low_endThrow _ _ _) hr
      | (split <;> exact hr)
theorem low_unwind (p : Program) (main : Bool) (fr : Frame) (cs : List Frame) (dy : Option Dying) (w : World) : lowG w.drawn (unwind p main fr cs dy w) := by
  unfold unwind
  split
  · rename_i block a ds hd
    have hr := run_drawn p (Instr.takeDeferred block) w
    rw [← Sem.runT_fst p _ w #[]] at hr
    generalize (Instr.takeDeferred block).runT p w #[] = r at hr ⊢
    obtain ⟨r, es⟩ := r
    dsimp only at hr ⊢
    refine lowG_after ?_
    split
    · exact hr
    · trivial
  · exact low_callDeferred _ _ _ _ _ _
  · split
    · trivial
    · split
      · trivial
      · split
        · exact Nat.le_refl _
        · split
          · split
            · exact Nat.le_refl _
            · split
              · rename_i h; exact run_ok h
              · trivial
              · trivial
          · split
            · exact low_endPrinting _ _ _ _
            · trivial
    · split
      · exact low_doReturn _ _ _ _ _ _ _
      · rename_i fn _
        have hr := run_drawn p (results fn fr.tmps) w
        rw [← Sem.runT_fst p _ w #[]] at hr
        generalize (results fn fr.tmps).runT p w #[] = r at hr ⊢
        obtain ⟨r, es⟩ := r
        dsimp only at hr ⊢
        refine lowG_after ?_
        split
        · exact lowG_le (low_doReturn _ _ _ _ _ _ _) hr
        · trivial
        · trivial
theorem low_early (p : Program) (fr : Frame) (cs : List Frame) (dy : Option Dying) (g : Nat) (w : World) : lowG w.drawn (early p fr cs dy g w) := by
  unfold early
  dsimp only
  repeat' first
    | trivial
    | exact Nat.le_refl _
    | (have hh := run_ok ‹Sem.run p (choose (Question.early g)) w = _›; exact hh)
    | split
theorem low_apply (p : Program) (b : Bool) (fr : Frame) (cs : List Frame) (dy : Option Dying) (s : Sem Next) (w : World) : lowG w.drawn (stepG.apply p b fr cs dy s w) := by
  unfold stepG.apply
  dsimp only
  have hr : w.drawn ≤ upTo ((if b = true then s.runT p w #[] else (s.run p w, #[])) : Result Next × Array Event).1 := by
    split
    · rw [Sem.runT_fst]; exact run_drawn p s w
    · exact run_drawn p s w
  generalize ((if b = true then s.runT p w #[] else (s.run p w, #[])) : Result Next × Array Event) = r at hr ⊢
  obtain ⟨r, es⟩ := r
  dsimp only at hr ⊢
  refine lowG_after ?_
  split
  all_goals first
    | trivial
    | exact hr
    | exact lowG_le (low_endFatal _ _ _ _ _ _) hr
    | exact lowG_le (low_endThrow _ _ _) hr
    | exact lowG_le (low_early _ _ _ _ _ _) hr
    | exact low_ite (fun _ => lowG_le (low_endThrow _ _ _) hr) (fun _ => hr)
    | (split <;> exact hr)
theorem low_oper (p : Program) (b : Bool) (fr : Frame) (cs : List Frame) (dy : Option Dying) (w : World) : lowG w.drawn (stepG.oper p b fr cs dy w) := by
  unfold stepG.oper
  split
  · trivial
  · split <;> exact low_apply _ _ _ _ _ _ _
theorem low_leave (p : Program) (main : Bool) (fr : Frame) (cs : List Frame) (dy : Option Dying) (l : Nat) (jump : Option Code) (w : World) (why : String) :
    lowG w.drawn (let (r, es) := (Instr.endRound l jump).runT p w #[]
        GStep.after (seen p fr.fn es) <| match r with
        | .ok v w => doReturn p main fr cs dy v w
        | .halt _ w => .ended (.stuck why (fr.pos p)) w) := by
  have hr := run_drawn p (Instr.endRound l jump) w
  rw [← Sem.runT_fst p _ w #[]] at hr
  generalize (Instr.endRound l jump).runT p w #[] = r at hr ⊢
  obtain ⟨r, es⟩ := r
  dsimp only at hr ⊢
  refine lowG_after ?_
  split
  · exact lowG_le (low_doReturn _ _ _ _ _ _ _) hr
  · trivial
theorem low_elim {α : Type} (o : Option α) (s : GStep) (f : α → GStep) (d : Nat) (h : lowG d s) (h2 : ∀ x, lowG d (f x)) : lowG d (o.elim s f) := by cases o <;> first | exact h | exact h2 _
theorem low_exec (p : Program) (main b : Bool) (fr : Frame) (cs : List Frame) (dy : Option Dying) (w : World) : lowG w.drawn (stepG.exec p main b fr cs dy w) := by
  unfold stepG.exec
  dsimp only
  have hl : ∀ (c : Bool) (jump : Option Code), lowG w.drawn (match fr.roundOf with
      | none => if c = true then GStep.go { frame := { fr with mode := .returning }, callers := cs, status := .running, dying := dy } w else GStep.ended (.stuck "exit, goto: no such block or label" (fr.pos p)) w
      | some l =>
        let (r, es) := (Instr.endRound l jump).runT p w #[]
        GStep.after (seen p fr.fn es) <| match r with
        | .ok v w => doReturn p main fr cs dy v w
        | .halt _ w => .ended (.stuck "range over a function: no such loop" (fr.pos p)) w) := by
    intro c jump
    split
    · exact low_ite (fun _ => Nat.le_refl _) (fun _ => trivial)
    · exact low_leave _ _ _ _ _ _ _ _ _
  split
  all_goals first
    | trivial
    | exact Nat.le_refl _
    | exact hl _ _
    | exact low_apply _ _ _ _ _ _ _
    | exact low_elim _ _ _ _ (hl _ _) (fun _ => Nat.le_refl _)
    | exact low_elim _ _ _ _ trivial (fun _ => low_apply _ _ _ _ _ _ _)
    | (split <;> first | trivial | exact Nat.le_refl _ | exact low_oper _ _ _ _ _ _ | (split <;> first | trivial | (rename_i h; exact run_ok h)))
    | (rename_i l k h
       have hr := run_drawn p (Instr.endLoop l) w
       rw [← Sem.runT_fst p _ w #[]] at hr
       generalize (Instr.endLoop l).runT p w #[] = r at hr ⊢
       obtain ⟨r, es⟩ := r
       dsimp only at hr ⊢
       refine lowG_after ?_
       split
       · exact hr
       · exact hr
       · trivial)
    | (rename_i f params assign body k h
       have hr := run_drawn p (Instr.enterLoop fr.fn fr.tmps params assign body fr.roundOf) w
       rw [← Sem.runT_fst p _ w #[]] at hr
       generalize (Instr.enterLoop fr.fn fr.tmps params assign body fr.roundOf).runT p w #[] = r at hr ⊢
       obtain ⟨r, es⟩ := r
       dsimp only at hr ⊢
       refine lowG_after ?_
       split
       · exact lowG_le (low_apply _ _ _ _ _ _ _) hr
       · trivial)
theorem low_stepG (p : Program) (main : Bool) (g : Goroutine) (w : World) (b : Bool) : lowG w.drawn (stepG p main g w b) := by
  obtain ⟨fr, callers, status, dying, offers⟩ := g
  simp only [stepG]
  split
  · exact low_die _ _ _ _
  · exact low_exec _ _ _ _ _ _ _
  · exact low_unwind _ _ _ _ _ _
theorem communicate_drawn (p : Program) (rest : Rest) (gs : Array Goroutine) (i : Nat) (g : Goroutine) (cases : Array CommCase) (blocking : Bool)
    (shape : CommShape) (w : World) (m' : Machine) (h : (communicate p rest gs i g cases blocking shape w).1 = .next m') : w.drawn ≤ m'.world.drawn := by
  have hw : ∀ w', waitingAt rest cases w = some w' → w'.drawn = w.drawn := by
    intro w' h'
    unfold waitingAt at h'
    split at h'
    · split at h'
      · cases h'; rfl
      · cases h'
    · cases h'; rfl
  unfold communicate at h
  simp only [] at h
  repeat' first
    | (simp at h; done)
    | (simp only [Stepped.next.injEq] at h; subst h; first | exact Nat.le_refl _ | exact Nat.le_of_eq (hw _ (by assumption)).symm | (have hh := run_ok ‹Sem.run p _ w = Result.ok _ _›; exact hh) | (have h1 := run_ok ‹Sem.run p _ w = Result.ok _ _›; have h2 := run_ok ‹Sem.run p (choose _) _ = Result.ok _ _›; exact Nat.le_trans h1 h2) | (have h1 := run_ok ‹Sem.run p _ w = Result.ok _ _›; have h2 := run_halt ‹Sem.run p (runtimePanic _) _ = Result.halt _ _›; exact Nat.le_trans h1 h2))
    | split at h
theorem look_drawn (p : Program) (gs : Array Goroutine) (rest : Rest) (w : World) (m' : Machine)
    (h : look p gs rest w = .next m') : w.drawn ≤ m'.world.drawn := by
  unfold look at h
  simp only [] at h
  repeat' first
    | (simp at h; done)
    | (simp only [Stepped.next.injEq] at h; subst h; (have hh := run_ok ‹Sem.run p _ w = Result.ok _ _›; exact hh))
    | split at h
theorem timerOp_drawn (m : Machine) (op : TimerOp) (r : Value × Machine) (h : timerOp m op = .ok r) : m.world.drawn ≤ r.2.world.drawn := by
  have hd : ∀ (w : World) (c : Nat), (drain w c).2.drawn = w.drawn := by
    intro w c
    unfold drain
    split <;> rfl
  have hre : ∀ (m : Machine) (k : Nat) (t : Timer) (a b : Nat), (retime m k t a b).2.world.drawn = m.world.drawn := by
    intro m k t a b
    unfold retime
    cases t.chan with
    | none => rfl
    | some c => exact hd _ _
  have hn : ∀ (m : Machine) (var : Addr) (f : Nat → Timer → Value × Machine) (r : Value × Machine), (∀ k t, (f k t).2.world.drawn = m.world.drawn) → timerOp.named m var f = .ok r → r.2.world.drawn = m.world.drawn := by
    intro m var f r hf h
    unfold timerOp.named at h
    split at h
    · cases h; exact hf _ _
    · cases h
  have ho : ∀ (m m' : Machine) (var : Addr), timerOp.opened m var = some m' → m'.world.drawn = m.world.drawn := by
    intro m m' var h
    unfold timerOp.opened at h
    split at h
    · split at h
      · cases h; rfl
      · cases h
    · cases h; rfl
  cases op with
  | new t =>
    simp only [timerOp] at h
    repeat' first
      | (cases h; done)
      | (cases h; exact Nat.le_refl _)
      | split at h
  | stop var => exact Nat.le_of_eq (hn m var _ r (fun k t => hre m k t 0 t.period) h).symm
  | reset var when period =>
    simp only [timerOp] at h
    split at h
    · rename_i m2 he
      have e := ho _ _ _ he
      exact Nat.le_of_eq (by first | exact ((hn _ var _ r (fun k t => hre m2 k t when period) h).trans e).symm | exact (hn _ var _ r (fun k t => (hre m2 k t when period).trans e) h).symm)
    · cases h
  | deadline ctx read write when =>
    simp only [timerOp] at h
    cases h
    exact Nat.le_refl _
theorem runT_drawn (p : Program) (m m' : Machine) (i : Nat) (b : Bool) (h : (runT p m i b).1 = .next m') : m.world.drawn ≤ m'.world.drawn := by
  simp only [runT] at h
  revert h
  generalize m.gs.swapAt! _ _ = gg
  have hl := low_stepG p (i == 0) gg.1 m.world b
  revert hl
  generalize stepG p _ gg.1 m.world b = s
  intro hl h
  cases s <;> simp only [] at h
  all_goals first
    | (simp at h; done)
    | exact Nat.le_trans hl (communicate_drawn _ _ _ _ _ _ _ _ _ _ h)
    | exact Nat.le_trans hl (look_drawn _ _ _ _ _ h)
    | (simp only [Stepped.next.injEq] at h; subst h; exact hl)
    | (repeat' first
        | (simp at h; done)
        | (simp only [Stepped.next.injEq] at h; subst h; exact hl)
        | (simp only [Stepped.next.injEq] at h; subst h; have ht := timerOp_drawn _ _ _ ‹timerOp _ _ = Except.ok _›; exact Nat.le_trans hl ht)
        | (simp only [Stepped.next.injEq] at h; subst h; have he := ‹endThrow _ _ _ = GStep.go _ _ _›; unfold endThrow dieOf at he; cases he; exact hl)
        | split at h)
theorem serve_drawn (p : Program) (m m' : Machine) (k : Nat) (h : serve p m k = .next m') : m.world.drawn ≤ m'.world.drawn := by
  unfold serve at h
  simp only [] at h
  repeat' first
    | (simp at h; done)
    | (simp only [Stepped.next.injEq] at h; subst h; exact Nat.le_refl _)
    | split at h
def lowM (d : Nat) : Move → Prop
  | .goroutine m _ => d ≤ m.world.drawn
  | .machine (.next m) _ => d ≤ m.world.drawn
  | .machine _ _ => True
theorem low_serve (p : Program) (m : Machine) (k : Nat) (ops : Array MemOp) : lowM m.world.drawn (.machine (serve p m k) ops) := by
  cases h : serve p m k with
  | next m' => exact serve_drawn p m m' k h
  | ended o w => trivial
theorem lowM_le {d d' : Nat} {s : Move} (h : lowM d' s) (hd : d ≤ d') : lowM d s := by
  cases s with
  | goroutine m i => exact Nat.le_trans hd h
  | machine s ops => cases s <;> first | exact Nat.le_trans hd h | trivial
theorem low_askOn (p : Program) (m : Machine) : lowM m.world.drawn (askOn p m) := by
  unfold askOn
  dsimp only
  repeat' first
    | trivial
    | exact Nat.le_refl _
    | (have hh := run_ok ‹Sem.run p _ m.world = Result.ok _ _›; exact lowM_le (low_serve _ _ _ _) hh)
    | (have hh := run_ok ‹Sem.run p _ m.world = Result.ok _ _›; exact hh)
    | split
  all_goals
    try (have i1 := run_ok ‹Sem.run p _ m.world = Result.ok _ _›)
    try (have i2 := run_ok ‹Sem.run p (choose (Question.extern "clock.wait" _)) _ = Result.ok _ _›)
    try (have i3 := run_ok ‹Sem.run p (choose (Question.sched _)) _ = Result.ok _ _›)
    try (have i4 := run_ok ‹Sem.run p (choose (Question.extern "sched.slice" _)) _ = Result.ok _ _›)
    simp only [lowM, Machine.advanceTo] at *
    omega
theorem low_ask (p : Program) (m : Machine) : lowM m.world.drawn (ask p m) := by
  unfold ask
  split
  · cases hr : (choose (.extern "collector.look" 2)).run p m.world with
    | halt h w => trivial
    | ok k world =>
      have h1 := run_ok hr
      rcases k with _ | _ | k
      · exact lowM_le (low_askOn p { m with world }) h1
      · show lowM _ (match look p m.gs m.rest world with | .next m => askOn p m | e => Move.machine e)
        cases hl : look p m.gs m.rest world with
        | next m₂ => exact lowM_le (low_askOn p m₂) (Nat.le_trans h1 (look_drawn _ _ _ _ _ hl))
        | ended o w => trivial
      · exact lowM_le (low_askOn p { m with world }) h1
  · exact low_askOn p m
theorem low_move (p : Program) (m : Machine) : lowM m.world.drawn (move p m) := by
  unfold move
  repeat' first
    | trivial
    | exact Nat.le_refl _
    | exact low_ask p _
    | split
theorem step_drawn (p : Program) (m m' : Machine) (h : step p m = .next m') : m.world.drawn ≤ m'.world.drawn := by
  have hm := low_move p m
  unfold step stepT at h
  generalize move p m = v at h hm
  cases v with
  | goroutine m₁ i => exact Nat.le_trans hm (runT_drawn p m₁ m' i true h)
  | machine s ops =>
    simp only at h
    subst h
    exact hm
theorem steps_drawn {p : Program} {m m' : Machine} (h : Steps p m m') : m.world.drawn ≤ m'.world.drawn := by
  obtain ⟨n, hn⟩ := h
  induction n generalizing m with
  | zero => simp only [runN, Stepped.next.injEq] at hn; subst hn; exact Nat.le_refl _
  | succ n ih =>
    simp only [runN] at hn
    cases hs : step p m with
    | next m₁ => rw [hs] at hn; exact Nat.le_trans (step_drawn p m m₁ hs) (ih hn)
    | ended o w => rw [hs] at hn; cases hn
/-- **WHAT RETURNS HAS READ THE TAPE NO LESS FAR.** -/
theorem calls_drawn {P : Program} {f : FuncId} {args : Array Value} {w : World} {v : Value} {R : World → Prop} (h : Calls P f args w fun e w' => e = .returned v ∧ R w') : Calls P f args w fun e w' => e = .returned v ∧ R w' ∧ w.drawn ≤ w'.drawn := by
  intro cs
  obtain ⟨e, w', fr, ⟨he, hR⟩, hc, hf, hl⟩ := h cs
  subst he
  exact ⟨_, w', fr, ⟨rfl, hR, steps_drawn hc⟩, hc, hf, hl⟩
/-- some draws, some blocks laid -/
theorem grown_of_below {w w' : World} (h : RowKit.Below w.heap.size w w') (hd : w.drawn ≤ w'.drawn) : ∃ q os', w' = grow (w.drewN q) os' := by
  obtain ⟨p, hp⟩ := regrown_of_below h
  refine ⟨w'.drawn - w.drawn, p.os, ?_⟩
  have e1 : w'.drawn = p.d := by rw [hp]; rfl
  have e2 : w.drewN (w'.drawn - w.drawn) = redrawn w p.d := by
    rw [← e1]
    unfold World.drewN redrawn
    congr 1
    omega
  rw [e2, ← hp]
end Go.Proofs.Ytaadpldijnegkaa
/-
  Drawn regions whose last operation (t) writes what the others have read: S holds as long as t has not come. Over any program.
-/
namespace Go.Proofs.Ytaadpldijnegkaa
open Go.RowKit Go.Sort
set_option linter.unusedVariables false
set_option linter.unusedSimpArgs false

section
variable {P : Program} {ops : Array Oper} {Q : Exit → Act → World → Prop} {md : Region.Mode} {S : World → Prop} {t : Nat}
def wpAnyT (P : Program) (md : Region.Mode) (ops : Array Oper) (Q : Exit → Act → World → Prop) (S : World → Prop) (t : Nat) : Nat → Array Bool → Act → World → Prop
  | 0, listed, a, w => Region.ready md ops listed = [] ∧ Q .normal a w
  | fuel + 1, listed, a, w =>
    (Region.ready md ops listed = [] → Q .normal a w) ∧
    ∀ i ∈ Region.ready md ops listed, wpOp P ops Q i (fun a' w' => (i ≠ t → S w') ∧ wpAnyT P md ops Q S t fuel (listed.setIfInBounds i true) a' w') a w
theorem wpAny_of_T : ∀ (fuel : Nat) (listed : Array Bool) (a : Act) (w : World), wpAnyT P md ops Q S t fuel listed a w → wpAny P md ops Q fuel listed a w
  | 0, _, _, _, h => h
  | fuel + 1, _, _, _, h => ⟨h.1, fun i hi => wpOp_mono (fun a' w' h' => wpAny_of_T fuel _ a' w' h'.2) (h.2 i hi)⟩
theorem ready_waits {i j : Nat} {listed : Array Bool} (hi : listed.getD i true = false) (hw : Region.waitsFor md ops j i = true) (hj : j ∈ Region.ready md ops listed) : False := by
  obtain ⟨oj, hoj, e, he, hb, hon⟩ := Region.waitsFor_spec hw
  obtain ⟨_, ok, hok, hall⟩ := mem_ready.1 hj
  rw [hoj] at hok
  cases hok
  have h1 := hall e he hb
  rw [hon] at h1
  rcases Nat.lt_or_ge i listed.size with h' | h'
  · simp [h'] at hi h1
    rw [hi] at h1
    cases h1
  · simp [Array.getElem?_eq_none h'] at h1
theorem wpAnyT_first {i : Nat} {oi : Oper} {v : Value} (hi : ops[i]? = some oi) (hsel : ∀ (j : Nat) (o : Oper) cs b, ops[j]? = some o → o.op ≠ .select cs b)
    (hQ : ∀ c a w, Q (.panic c) (a.put oi.dst v) w → Q (.panic c) a w) (hti : Region.waitsFor md ops t i = true) :
    ∀ (fuel : Nat) (listed : Array Bool) (a : Act) (w : World),
      (∀ j oj, ops[j]? = some oj → j ≠ i → listed.getD j true = false → (∀ e ∈ oj.after, Region.binds md e = true → e.on ≠ i) → oi.apart ops oj = true) →
      i ∈ Region.ready md ops listed → YieldsIf P ops S oi v a → S w →
      wpAnyT P md ops Q S t fuel (listed.setIfInBounds i true) (a.put oi.dst v) w → wpAnyT P md ops Q S t (fuel + 1) listed a w := by
  intro fuel
  induction fuel with
  | zero =>
    intro listed a w _ hr hy hS H
    refine ⟨fun h => (by rw [h] at hr; cases hr), fun j hj => ?_⟩
    by_cases hji : j = i
    · subst hji
      exact hy.wpOp hi hS ⟨fun _ => hS, H⟩
    · have h1 := ready_mono hj hji
      rw [H.1] at h1
      cases h1
  | succ fuel ih =>
    intro listed a w hfree hr hy hS H
    refine ⟨fun h => (by rw [h] at hr; cases hr), fun j hj => ?_⟩
    have hun := (mem_ready.1 hr).1
    have hjt : j ≠ t := fun e => by subst e; exact ready_waits hun hti hj
    by_cases hji : j = i
    · subst hji
      exact hy.wpOp hi hS ⟨fun _ => hS, H⟩
    · obtain ⟨hjun, oj, hoj, hall⟩ := mem_ready.1 hj
      have hnot : ∀ e ∈ oj.after, Region.binds md e = true → e.on ≠ i := fun e he hb hon => ready_waits (j := j) hun (by
        unfold Region.waitsFor
        simp only [hoj]
        obtain ⟨k, hk, hke⟩ := Array.getElem_of_mem he
        exact Array.any_eq_true'.2 ⟨e, he, by simp [hb, hon]⟩) hj
      have h2 := wpOp_putIf hoj (hfree j oj hoj hji hjun hnot) (fun cs b => hsel i oi cs b hi) (fun cs b => hsel j oj cs b hoj) hQ hy (H.2 j (ready_mono hj hji))
      refine wpOp_mono (fun a' w' h3 => ⟨fun _ => h3.2.1 hjt, ih (listed.setIfInBounds j true) a' w' (fun k ok hk hki hku hno => hfree k ok hk hki ?_ hno) (ready_mono hr (Ne.symm hji)) h3.1 (h3.2.1 hjt) ?_⟩) h2
      · by_cases hjk : j = k
        · subst hjk; exact hjun
        · rw [getD_set_ne true hjk] at hku; exact hku
      · rw [Array.setIfInBounds_comm _ _ hji]
        exact h3.2.2
/-- one is taken first: t waits for it -/
theorem tkT (t : Nat) (i : Nat) {oi : Oper} {v : Value} {fuel : Nat} {listed : Array Bool} {a : Act} {w : World} (hi : ops[i]? = some oi)
    (hk : (Region.noSelect ops && (Region.free md ops listed i && ((Region.ready md ops listed).contains i && Region.waitsFor md ops t i))) = true) (hy : YieldsIf P ops S oi v a) (hS : S w)
    (h : wpAnyT P md ops Q S t fuel (listed.setIfInBounds i true) (a.put oi.dst v) w) (hQ : ∀ c a w, Q (.panic c) (a.put oi.dst v) w → Q (.panic c) a w := by exact fun _ _ _ h => h) : wpAnyT P md ops Q S t (fuel + 1) listed a w := by
  simp only [Bool.and_eq_true] at hk
  exact wpAnyT_first hi (Region.noSelect_spec hk.1) hQ hk.2.2.2 fuel listed a w (Region.free_spec hi hk.2.1) (by simpa using hk.2.2.1) hy hS h
theorem wpAnyT_done {listed : Array Bool} {a : Act} {w : World} (hr : Region.ready md ops listed = []) (h : Q .normal a w) : ∀ fuel, wpAnyT P md ops Q S t fuel listed a w
  | 0 => ⟨hr, h⟩
  | _ + 1 => ⟨fun _ => h, by rw [hr]; simp⟩
def AllReadyT (P : Program) (md : Region.Mode) (ops : Array Oper) (Q : Exit → Act → World → Prop) (S : World → Prop) (t fuel : Nat) (listed : Array Bool) (a : Act) (w : World) (rs : List Nat) : Prop :=
  ∀ i ∈ rs, wpOp P ops Q i (fun a' w' => (i ≠ t → S w') ∧ wpAnyT P md ops Q S t fuel (listed.setIfInBounds i true) a' w') a w
theorem AllReadyT.nil {fuel : Nat} {listed : Array Bool} {a : Act} {w : World} : AllReadyT P md ops Q S t fuel listed a w [] := fun _ h => by cases h
theorem AllReadyT.cons {fuel : Nat} {listed : Array Bool} {a : Act} {w : World} {i : Nat} {o : Oper} {rs : List Nat} (ho : ops[i]? = some o)
    (h : ∀ K' : Act → World → Prop, Shut (∀ a w, (i ≠ t → S w) → ((i ≠ t → S w) → wpAnyT P md ops Q S t fuel (listed.setIfInBounds i true) a w) → K' a w) → if Region.wanted o (yielded ops a.tmps) = true then Oper.wp P o a w K' Q else K' (a.put o.dst undef) w)
    (hs : AllReadyT P md ops Q S t fuel listed a w rs) : AllReadyT P md ops Q S t fuel listed a w (i :: rs) := fun j hj => by
  rcases List.mem_cons.1 hj with rfl | hj
  · exact wpOp_step ho (fun K' hK => h K' (fun a w hS hW => hK a w ⟨hS, hW hS⟩))
  · exact hs j hj
theorem wpAnyT_ready {rs : List Nat} {fuel : Nat} {listed : Array Bool} {a : Act} {w : World} (hr : Region.ready md ops listed = rs) (hne : rs ≠ [])
    (h : AllReadyT P md ops Q S t fuel listed a w rs) : wpAnyT P md ops Q S t (fuel + 1) listed a w :=
  ⟨fun h0 => absurd (hr ▸ h0) hne, hr ▸ h⟩
theorem wp_region_T {id : Nat} {a : Act} {w : World} (t : Nat) (hm : P.follows .mixedOrders = true) (hS : S w.drew)
    (h : S w.drew → wpAnyT P .any ops Q S t ops.size (Array.replicate ops.size false) a w.drew) : (Code.region id ops true).wp P Q a w :=
  wp_region_any hm (wpAny_of_T _ _ _ _ (h hS))
end
end Go.Proofs.Ytaadpldijnegkaa
/-
  Chapter 17: what is of no chapter: rows of structs, slices that come in, laws of single operations (written by gen/mg0.py).
-/
namespace Go.Proofs.Ytaadpldijnegkaa
open Go.RowKit Go.Sort
set_option linter.unusedVariables false
set_option linter.unusedSimpArgs false
set_option maxRecDepth 100000

theorem flat_len {α β : Type} (f : α → List β) (k : Nat) (hk : ∀ x, (f x).length = k) (l : List α) : (l.flatMap f).length = l.length * k := by
  induction l with
  | nil => simp
  | cons x l ih => rw [List.flatMap_cons, List.length_append, hk, ih, List.length_cons, Nat.succ_mul, Nat.add_comm]
theorem flat_at {α β : Type} (f : α → List β) (k : Nat) (hk : ∀ x, (f x).length = k) : ∀ (l : List α) (i j : Nat) (hi : i < l.length), j < k → (l.flatMap f)[i * k + j]? = (f l[i])[j]?
  | [], i, j, hi, _ => by simp at hi
  | x :: l, 0, j, _, hj => by
    rw [List.flatMap_cons, Nat.zero_mul, Nat.zero_add, List.getElem?_append_left (by rw [hk]; exact hj)]
    rfl
  | x :: l, i + 1, j, hi, hj => by
    rw [List.flatMap_cons, List.getElem?_append_right (by rw [hk, Nat.succ_mul]; omega), hk, show (i + 1) * k + j - k = i * k + j by rw [Nat.succ_mul]; omega, flat_at f k hk l i j (by simpa using hi) hj]
    rfl
theorem rows_at {α : Type} {cells : α → List Value} {K : Nat} (hK : ∀ v, (cells v).length = K) {w : World} {ad : Option Addr} {n c : Nat} {xs : List α} (h : Sl w ad n c K (xs.flatMap cells)) (h0 : 0 < xs.length) (hK0 : 0 < K) :
    ∃ b off, ad = some ⟨b, off, none⟩ ∧ b < w.heap.size ∧ ∀ i (hi : i < xs.length), w.rangeAt b (off + i * K) (cells xs[i]) := by
  have hl := flat_len cells K hK xs
  have h1 : K ≤ xs.length * K := Nat.le_mul_of_pos_left K h0
  obtain ⟨b, off, ha, hb, hc⟩ := Sl.at h (j := 0) (by rw [hl]; omega)
  refine ⟨b, off, ha, hb, fun i hi j u hj => ?_⟩
  have hjK : j < K := by have := (List.getElem?_eq_some_iff.1 hj).1; rwa [hK] at this
  have hg := flat_at cells K hK xs i j hi hjK
  rw [hj] at hg
  obtain ⟨hl, he⟩ := List.getElem?_eq_some_iff.1 hg
  have := hc (i * K + j) hl
  rw [he] at this
  rw [Nat.add_assoc]
  exact this
theorem mapM_get {f : Nat → Option Value} : ∀ (n m : Nat) (cs : List Value), (List.range' m n).mapM f = some cs → ∀ j u, cs[j]? = some u → f (m + j) = some u
  | 0, m, cs, h, j, u, hj => by
    simp at h
    subst h
    simp at hj
  | n + 1, m, cs, h, j, u, hj => by
    rw [List.range'_succ, List.mapM_cons] at h
    obtain ⟨x, hx, h⟩ := Option.bind_eq_some_iff.1 h
    obtain ⟨ys, hy, h⟩ := Option.bind_eq_some_iff.1 h
    simp at h
    subst h
    cases j with
    | zero => simp at hj; subst hj; exact hx
    | succ j =>
      have := mapM_get n (m + 1) ys hy j u (by simpa using hj)
      rw [show m + (j + 1) = m + 1 + j by omega]
      exact this
theorem cells_each {w : World} {b n : Nat} {a : Addr} {cs : List Value} (h : w.cells? b a n = some cs) : ∀ j u, cs[j]? = some u → w.cell? (a.add j) = some u := by
  unfold World.cells? at h
  split at h
  · rw [List.range_eq_range'] at h
    intro j u hj
    have := mapM_get n 0 cs h j u hj
    rwa [Nat.zero_add] at this
  · cases h
theorem choose_list {α : Type} {P : Nat → α → Prop} : ∀ n : Nat, (∀ i, i < n → ∃ x, P i x) → ∃ l : List α, l.length = n ∧ ∀ i (h : i < l.length), P i l[i]
  | 0, _ => ⟨[], rfl, fun i h => by cases h⟩
  | n + 1, h => by
    obtain ⟨l, hl, hp⟩ := choose_list n (fun i hi => h i (by omega))
    obtain ⟨x, hx⟩ := h n (by omega)
    refine ⟨l ++ [x], by simp [hl], fun i hi => ?_⟩
    simp only [List.length_append, List.length_cons, List.length_nil] at hi
    by_cases e : i < l.length
    · rw [List.getElem_append_left e]; exact hp i e
    · obtain rfl : i = n := by omega
      rw [List.getElem_append_right (by omega)]
      simpa [hl] using hx
section
variable {H : Type} {enc : TypeId × Value → H} {w : World} {base : Nat} {spare : Nat → Bool} {held : Bool}
theorem open_rows {α : Type} (cells : α → List Value) (K : Nat) (hK : ∀ v, (cells v).length = K) (hK0 : 0 < K) {T E : TypeId} (hT : Try.prog.underlying T = some (.slice E)) (hc : Try.prog.cellsOf E = K)
    (hE : ∀ (fuel : Nat) (cs : List Value) (x : DataW H × List MemPlace), DataW.trod enc Try.prog w base spare held fuel E cs = some x → ∃ v : α, cs = cells v)
    {fuel : Nat} {cs : List Value} {x : DataW H × List MemPlace} (h : DataW.trod enc Try.prog w base spare held fuel T cs = some x) :
    ∃ (a : Option Addr) (len cap : Nat) (vs : List α), cs = [.slice a len cap] ∧ Sl w a len cap K (vs.flatMap cells) := by
  rcases DataW.trod_slice hT h with ⟨rfl, _⟩ | ⟨ad, ln, cap, elems, rest, n, _, rfl, rfl, hb, hl, hm, hlen, hel, hsp, hns⟩
  · exact ⟨none, 0, 0, [], rfl, Sl.nil w K⟩
  · rw [hc] at hel
    have hos : ∀ i, i < ln → ∃ v : α, (∀ j u, (cells v)[j]? = some u → w.cell? ((ad.add (i * K)).add j) = some u) := by
      intro i hi
      have hy := hel i hi
      rw [List.getElem?_eq_getElem (by omega)] at hy
      obtain ⟨cs, hcs, hy⟩ := Option.bind_eq_some_iff.1 hy
      obtain ⟨v, rfl⟩ := hE _ _ _ hy
      exact ⟨v, cells_each hcs⟩
    obtain ⟨vs, hl2, hos⟩ := choose_list ln hos
    have hfl := flat_len cells K hK vs
    refine ⟨some ad, ln, cap, vs, rfl, ⟨by rw [hfl, hl2], hl, hm, by simp, fun j u hj => ⟨_, rfl, ?_⟩⟩⟩
    have hjl : j < vs.length * K := by have := (List.getElem?_eq_some_iff.1 hj).1; rwa [hfl] at this
    have hdiv : j / K < vs.length := by rw [Nat.div_lt_iff_lt_mul hK0]; exact hjl
    have hg := flat_at cells K hK vs (j / K) (j % K) hdiv (Nat.mod_lt _ hK0)
    have hdm : j / K * K + j % K = j := by rw [Nat.mul_comm]; exact Nat.div_add_mod j K
    rw [hdm, hj] at hg
    have := hos (j / K) hdiv (j % K) u hg.symm
    have ea : ad.add j = (ad.add (j / K * K)).add (j % K) := by
      rw [add_add (w := w) ad (j / K * K) (j % K) (u := u)]
      · exact congrArg _ hdm.symm
      · have e2 : (ad.add (j / K * K)).add (j % K) = ad.add (j / K * K + j % K) := by
          unfold Addr.add
          by_cases h1 : j / K * K = 0
          · simp [h1]
          · by_cases h2 : j % K = 0
            · simp [h2]
            · simp [h1, h2, Nat.add_assoc]
        rw [← e2]
        exact this
    rw [ea]
    exact this
theorem trod_string {t : TypeId} {fuel : Nat} {c : Value} {x : DataW H × List MemPlace} (ht : Try.prog.underlying t = some .string) (h : DataW.trod enc Try.prog w base spare held fuel t [c] = some x) : ∃ s : ByteArray, c = .string s ∧ s.size ≤ maxLen := by
  cases fuel with
  | zero => simp [DataW.trod] at h
  | succ f =>
    unfold DataW.trod at h
    rw [ht] at h
    cases c <;> simp at h
    exact ⟨_, rfl, h.1⟩
end
theorem fill_whole1 (n : Nat) (Z : Array Value) (v : Value) (vs : List Value) (hZ : Z.size = n) (hv : v.cells = vs.toArray) (hn : vs.length = n) : Instr.fill (fun i => some (i * n, n)) Z [(0, v)] = some vs.toArray := by
  obtain ⟨L⟩ := Z
  have hL : L.length = n := hZ
  have e := fill_one (fun i => some (i * n, n)) L 0 0 n v vs [] (by simp) hv hn (by omega)
  rw [e, fill_nil]
  simp [hL]
theorem own_block {w : World} {base : Nat} {e : TypeId} {size : Nat} {ad : Option Addr} {n c : Nat} {xs : List Value} (h : w.ownsRow base e size (.slice ad n c) n xs) : ∀ x, ad = some x → base ≤ x.block ∧ x.block < w.heap.size := by
  intro x hx
  rcases h.2 with ⟨h2, h0⟩ | ⟨g, cap, cur, hv, hb, hg, hnc, hcm, hcs, ht⟩
  · cases h0; subst hx; simp at h2
  · simp only [Value.slice.injEq] at hv
    obtain rfl := Option.some.inj (hv.1.symm.trans hx)
    exact ⟨hb, lt_of_block hg⟩
theorem skip_step {p : Bool} {A E : Prop} (h : p = false) (hE : E) : if p = true then A else E := by rw [if_neg (by rw [h]; simp)]; exact hE
theorem hatB {w w' : World} {g : Nat} {ob : Obj} (h : Hid (w.heap[g]? = some ob)) (hb : Below w.heap.size w w') : w'.heap[g]? = some ob := (hb.block g (lt_of_block h.out)).trans h.out
theorem wpL_loadC {P : Program} {ops : Array Oper} {rest : List Oper} {o : Oper} {a : Act} {w : World} {Q : Exit → Act → World → Prop} (hgd : Region.wanted o (yielded ops a.tmps) = true) (ty : TypeId) (x : Operand) (ho : o.op = .load ty x)
    (g k : Nat) (hx : a.eval x = .pointer (some ⟨g, k, none⟩)) (v : Value) (hc : w.cell? ⟨g, k, none⟩ = some v) {d : TypeDesc} (hu : P.underlying ty = some d) (hd : d.isRow = false)
    (h : wpList P ops Q rest (a.put o.dst v) w) : wpList P ops Q (o :: rest) a w := by
  refine wpL_run hgd ?_ h
  have hagg : (isAgg ty).run P w = .ok false w := by
    unfold isAgg
    rw [Sem.run_bind, run_underlying hu w]
    cases d <;> simp_all
  unfold execOp
  simp [ho, hx, Instr.loadAt, Instr.sureAddr, Sem.run_bind, Sem.run_pure, Result.andThen_ok, loadVar, hagg, load, Sem.run, hc]
theorem yields_loadC {P : Program} {ops : Array Oper} {S : World → Prop} {o : Oper} {a : Act} (hw : Region.wanted o (yielded ops a.tmps) = true) (ty : TypeId) (x : Operand) (ho : o.op = .load ty x)
    (g k : Nat) (hx : a.eval x = .pointer (some ⟨g, k, none⟩)) (v : Value) (hc : ∀ w, S w → w.cell? ⟨g, k, none⟩ = some v) {d : TypeDesc} (hu : P.underlying ty = some d) (hd : d.isRow = false) : YieldsIf P ops S o v a := by
  refine Or.inl ⟨hw, fun w hS => ?_⟩
  have hagg : (isAgg ty).run P w = .ok false w := by
    unfold isAgg
    rw [Sem.run_bind, run_underlying hu w]
    cases d <;> simp_all
  unfold execOp
  simp [ho, hx, Instr.loadAt, Instr.sureAddr, Sem.run_bind, Sem.run_pure, Result.andThen_ok, loadVar, hagg, load, Sem.run, hc w hS]
theorem range_keep {w w' : World} {b off : Nat} {cs : List Value} (h : w.rangeAt b off cs) (hb : Below w.heap.size w w') : w'.rangeAt b off cs := fun j u hj => by
  have hc := h j u hj
  rw [hb.cell (World.block_lt_of_cell? w _ hc)]
  exact hc
theorem wpL_newG {P : Program} {w : World} {ops : Array Oper} {rest : List Oper} {o1 o2 : Oper} {a : Act} {Q : Exit → Act → World → Prop} (hg1 : o1.guard = none) (hg2 : o2.guard = none) (T : TypeId) (ho1 : o1.op = .alloc T) (x y : Operand) (ho2 : o2.op = .store T x y)
    (cs zs : Array Value) (hi : (P.info? T).map (fun i => (i.zero, i.size)) = some (some (.agg zs), cs.size)) (hz : zs.size = cs.size) (h1 : cs.all (·.oneCell') = true)
    (hx : ∀ p, (a.put o1.dst p).eval x = p) (hy : ∀ p, (a.put o1.dst p).eval y = .agg cs)
    (h : ∀ w1 g, w.heap.size ≤ g → w1.heap[g]? = some (.cells cs T (0, 0)) → Below w.heap.size w w1 → wpList P ops Q rest ((a.put o1.dst (.pointer (some ⟨g, 0, none⟩))).put o2.dst undef) w1) :
    wpList P ops Q (o1 :: o2 :: rest) a w :=
  wpL_newR hg1 hg2 T ho1 x y ho2 cs zs hi hz h1 hx hy (fun w1 hg hb => h w1 _ (Nat.le_refl _) hg hb)
instance {w w' : World} {b off : Nat} {cs : List Value} : Ck (w.rangeAt b off cs) w' w (w'.rangeAt b off cs) := ⟨fun h hE => range_keep h hE⟩
theorem hatV {v a w' : World} {k : Nat} {o : Obj} (hE : Hid (Below v.heap.size v a)) (h : Hid (v.heap[k]? = some o)) (hu : Below a.heap.size a w') : w'.heap[k]? = some o :=
  ((hE.out.trans (hu.mono hE.out.size)).block k (lt_of_block h.out)).trans h.out
theorem cellV {w : World} {g k : Nat} {cs : Array Value} {T : TypeId} {fz : Nat × Nat} {v : Value} (h : w.heap[g]? = some (.cells cs T fz)) (hk : cs[k]? = some v) : w.cell? ⟨g, k, none⟩ = some v := by
  unfold World.cell?
  rw [h]
  exact hk
theorem own_apart {w w' : World} {b1 : Nat} {e1 : TypeId} {s1 : Nat} {ad1 ad2 : Option Addr} {n1 n2 c1 c2 : Nat} {xs : List Value} (h : w.ownsRow b1 e1 s1 (.slice ad1 n1 c1) n1 xs) (hg : w.grownBy w' (Value.ownBlock (.slice ad2 n2 c2))) (ha : ∀ x y, ad1 = some x → ad2 = some y → x.block ≠ y.block) : w'.ownsRow b1 e1 s1 (.slice ad1 n1 c1) n1 xs := by
  rcases h.2 with h2 | ⟨g, cap, cur, hv, hb2, hgg, hr⟩
  · exact ⟨h.1, .inl h2⟩
  · refine ⟨h.1, .inr ⟨g, cap, cur, hv, hb2, (hg.block g (lt_of_block hgg) (fun e => ?_)).trans hgg, hr⟩⟩
    simp only [Value.slice.injEq] at hv
    cases ad2 with
    | none => cases e
    | some y =>
      simp only [Value.ownBlock, Option.some.injEq] at e
      exact ha _ y hv.1 rfl e.symm.symm
theorem apart_app {w : World} {b2 : Nat} {e2 : TypeId} {s2 : Nat} {ad ad' ad2 : Option Addr} {n2 c2 : Nat} {xs : List Value} (h : w.ownsRow b2 e2 s2 (.slice ad2 n2 c2) n2 xs) (ha : ∀ x y, ad = some x → ad2 = some y → x.block ≠ y.block) (hor : ad' = ad ∨ ad' = some ⟨w.heap.size, 0, none⟩) : ∀ x y, ad' = some x → ad2 = some y → x.block ≠ y.block := by
  intro x y hx hy
  rcases hor with h1 | h1
  · exact ha x y (h1 ▸ hx) hy
  · rw [h1] at hx
    cases hx
    have := (own_block h y hy).2
    exact Nat.ne_of_gt this
theorem step_loadC {P : Program} {ops : Array Oper} {o : Oper} {a : Act} {w : World} {K : Act → World → Prop} {Q : Exit → Act → World → Prop} {E : Prop} (hgd : Region.wanted o (yielded ops a.tmps) = true) (ty : TypeId) (x : Operand) (ho : o.op = .load ty x)
    (g k : Nat) (hx : a.eval x = .pointer (some ⟨g, k, none⟩)) (v : Value) (hc : w.cell? ⟨g, k, none⟩ = some v) {d : TypeDesc} (hu : P.underlying ty = some d) (hd : d.isRow = false)
    (h : K (a.put o.dst v) w) : if Region.wanted o (yielded ops a.tmps) = true then Oper.wp P o a w K Q else E := by
  refine step_run2 hgd (v := v) (w' := w) ?_ h
  have hagg : (isAgg ty).run P w = .ok false w := by
    unfold isAgg
    rw [Sem.run_bind, run_underlying hu w]
    cases d <;> simp_all
  unfold execOp
  simp [ho, hx, Instr.loadAt, Instr.sureAddr, Sem.run_bind, Sem.run_pure, Result.andThen_ok, loadVar, hagg, load, Sem.run, hc]
structure But (p q : Nat) (w w' : World) : Prop where
  os : w'.os = w.os
  tape : w'.tape = w.tape
  output : w'.output = w.output
  size : w.heap.size ≤ w'.heap.size
  block : ∀ k, k < w.heap.size → k ≠ p → k ≠ q → w'.heap[k]? = w.heap[k]?
theorem But.of_below {p q : Nat} {w w' : World} (h : Below w.heap.size w w') : But p q w w' := ⟨h.os, h.tape, h.output, h.size, fun k hk _ _ => h.block k hk⟩
theorem But.of_p {p q : Nat} {w w' : World} (h : w.grownBy w' (some p)) : But p q w w' := ⟨h.os, h.tape, h.output, h.size, fun k hk hp _ => h.block k hk (fun e => hp (Option.some.inj e))⟩
theorem But.of_q {p q : Nat} {w w' : World} (h : w.grownBy w' (some q)) : But p q w w' := ⟨h.os, h.tape, h.output, h.size, fun k hk _ hq => h.block k hk (fun e => hq (Option.some.inj e))⟩
theorem But.trans {p q : Nat} {a b c : World} (h : But p q a b) (k : But p q b c) : But p q a c :=
  ⟨k.os.trans h.os, k.tape.trans h.tape, k.output.trans h.output, Nat.le_trans h.size k.size, fun i hi hp hq => (k.block i (Nat.lt_of_lt_of_le hi h.size) hp hq).trans (h.block i hi hp hq)⟩
theorem But.below {p q B : Nat} {v w w' : World} (h : But p q w w') (hb : Below B v w) (hp : B ≤ p) (hq : B ≤ q) (hB : B ≤ v.heap.size) : Below B v w' :=
  ⟨h.os.trans hb.os, h.tape.trans hb.tape, h.output.trans hb.output, Nat.le_trans hb.size h.size, fun k hk => (h.block k (by have := hb.size; omega) (by omega) (by omega)).trans (hb.block k hk)⟩
theorem But.own {p q g : Nat} {w a b : World} (h : But p q w a) (hg : a.grownBy b (some g)) (hge : w.heap.size ≤ g) : But p q w b :=
  ⟨hg.os.trans h.os, hg.tape.trans h.tape, hg.output.trans h.output, Nat.le_trans h.size hg.size, fun k hk hp hq => (hg.block k (Nat.lt_of_lt_of_le hk h.size) (fun e => by cases e; omega)).trans (h.block k hk hp hq)⟩
theorem But.keep {p q k : Nat} {w a : World} {ob : Obj} (h : But p q w a) (hk : w.heap[k]? = some ob) (hp : k ≠ p) (hq : k ≠ q) : a.heap[k]? = some ob := (h.block k (lt_of_block hk) hp hq).trans hk
theorem But.grown {p q : Nat} {w a b : World} {row : Option Nat} (h : But p q w a) (hg : a.grownBy b row) (hge : ∀ k, row = some k → w.heap.size ≤ k) : But p q w b :=
  ⟨hg.os.trans h.os, hg.tape.trans h.tape, hg.output.trans h.output, Nat.le_trans h.size hg.size, fun k hk hp hq => (hg.block k (Nat.lt_of_lt_of_le hk h.size) (fun e => by have := hge k e.symm; omega)).trans (h.block k hk hp hq)⟩
theorem own_but {p q base : Nat} {w w' : World} {e : TypeId} {size : Nat} {ad : Option Addr} {n c : Nat} {xs : List Value} (h : w.ownsRow base e size (.slice ad n c) n xs) (hb : But p q w w') (hp : p < base) (hq : q < base) : w'.ownsRow base e size (.slice ad n c) n xs := by
  rcases h.2 with h2 | ⟨g, cap, cur, hv, hb2, hg, hr⟩
  · exact ⟨h.1, .inl h2⟩
  · exact ⟨h.1, .inr ⟨g, cap, cur, hv, hb2, hb.keep hg (by omega) (by omega), hr⟩⟩
theorem But.cell {p q : Nat} {w w' : World} (hb : But p q w w') {x : Addr} {v : Value} (h : w.cell? x = some v) (h1 : x.block ≠ p) (h2 : x.block ≠ q) : w'.cell? x = some v := by
  have hl := World.block_lt_of_cell? w _ h
  unfold World.cell? at h ⊢
  rw [hb.block x.block hl h1 h2]
  exact h
theorem But.range {p q : Nat} {w w' : World} (hb : But p q w w') {b o : Nat} {cs : List Value} (h : w.rangeAt b o cs) (h1 : b ≠ p) (h2 : b ≠ q) : w'.rangeAt b o cs := fun j v hj => hb.cell (h j v hj) h1 h2
theorem Sl.but {p q : Nat} {w w' : World} {ad : Option Addr} {n c size : Nat} {vs : List Value} (h : Sl w ad n c size vs) (hb : But p q w w') (hne : ∀ x, ad = some x → x.block ≠ p ∧ x.block ≠ q) : Sl w' ad n c size vs :=
  ⟨h.1, h.2.1, h.2.2.1, h.2.2.2.1, fun j u hj => by
    obtain ⟨x, hx, hc⟩ := h.2.2.2.2 j u hj
    exact ⟨x, hx, hb.cell hc (by rw [add_block]; exact (hne x hx).1) (by rw [add_block]; exact (hne x hx).2)⟩⟩
theorem wpL_storeO {P : Program} {ops : Array Oper} {rest : List Oper} {o : Oper} {a : Act} {w : World} {Q : Exit → Act → World → Prop} (hgd : o.guard = none) (ty : TypeId) (x y : Operand) (ho : o.op = .store ty x y)
    {base : Nat} {e : TypeId} {size g n c : Nat} {xs : List Value} (hown : w.ownsRow base e size (.slice (some ⟨g, 0, none⟩) n c) n xs) (i : Nat) (hi : i < xs.length) (u : Value) (h1 : u.oneCell' = true) (hc : u.cells = #[u]) (hx : a.eval x = .pointer (some ⟨g, i, none⟩)) (hy : a.eval y = u) (hif : (P.info? ty).map (·.size) = some 1)
    (h : ∀ w1, w1.ownsRow base e size (.slice (some ⟨g, 0, none⟩) n c) n (xs.set i u) → w.grownBy w1 (some g) → wpList P ops Q rest (a.put o.dst undef) w1) : wpList P ops Q (o :: rest) a w := by
  have hcell : w.cell? ⟨g, i, none⟩ = some xs[i] := by
    have := hown.cellAt i (by rw [← hown.1]; exact hi)
    rwa [List.getElem?_eq_getElem hi] at this
  have hz := hown.frozenAt i
  obtain ⟨o2, g2⟩ := hown.stored i u
  refine wpList_plain hgd fun _ hK => ?_
  have hrun := run_storeCells_cells (P := P) g i [u] 0 w (fun j hj => by
      have : j = 0 := by simpa using hj
      subst this
      simp [hcell]) (fun j hj => by
      have : j = 0 := by simpa using hj
      subst this
      simpa using hz) (fun v hv => by simp at hv; subst hv; exact h1)
  cases hq : P.info? ty with
  | none => simp [hq] at hif
  | some q =>
    have hs : q.size = 1 := by simpa [hq] using hif
    simp only [Nat.add_zero] at hrun
    have hst : (Instr.storeAt ty (.pointer (some ⟨g, i, none⟩)) u).run P w = .ok () (w.setCell ⟨g, i, none⟩ u) := by
      simp [Instr.storeAt, Instr.sureAddr, storeVar, sizeOf, typeInfo, hq, hc, hs, hrun, World.setCells]
    unfold Oper.wp execOp
    simp only [ho, hx, hy, Sem.run_bind, Sem.run_pure, Result.andThen_ok, hst]
    exact hK _ _ (h _ o2 g2)
theorem step_storeO {P : Program} {ops : Array Oper} {o : Oper} {a : Act} {w : World} {K : Act → World → Prop} {Q : Exit → Act → World → Prop} {E : Prop} (hgd : o.guard = none) (ty : TypeId) (x y : Operand) (ho : o.op = .store ty x y)
    {base : Nat} {e : TypeId} {size g n c : Nat} {xs : List Value} (hown : w.ownsRow base e size (.slice (some ⟨g, 0, none⟩) n c) n xs) (i : Nat) (hi : i < xs.length) (u : Value) (h1 : u.oneCell' = true) (hc : u.cells = #[u]) (hx : a.eval x = .pointer (some ⟨g, i, none⟩)) (hy : a.eval y = u) (hif : (P.info? ty).map (·.size) = some 1)
    (h : ∀ w1, w1.ownsRow base e size (.slice (some ⟨g, 0, none⟩) n c) n (xs.set i u) → w.grownBy w1 (some g) → K (a.put o.dst undef) w1) : if Region.wanted o (yielded ops a.tmps) = true then Oper.wp P o a w K Q else E := by
  have hcell : w.cell? ⟨g, i, none⟩ = some xs[i] := by
    have := hown.cellAt i (by rw [← hown.1]; exact hi)
    rwa [List.getElem?_eq_getElem hi] at this
  have hz := hown.frozenAt i
  obtain ⟨o2, g2⟩ := hown.stored i u
  rw [if_pos (by simp [Region.wanted, hgd])]
  have hrun := run_storeCells_cells (P := P) g i [u] 0 w (fun j hj => by
      have : j = 0 := by simpa using hj
      subst this
      simp [hcell]) (fun j hj => by
      have : j = 0 := by simpa using hj
      subst this
      simpa using hz) (fun v hv => by simp at hv; subst hv; exact h1)
  cases hq : P.info? ty with
  | none => simp [hq] at hif
  | some q =>
    have hs : q.size = 1 := by simpa [hq] using hif
    simp only [Nat.add_zero] at hrun
    have hst : (Instr.storeAt ty (.pointer (some ⟨g, i, none⟩)) u).run P w = .ok () (w.setCell ⟨g, i, none⟩ u) := by
      simp [Instr.storeAt, Instr.sureAddr, storeVar, sizeOf, typeInfo, hq, hc, hs, hrun, World.setCells]
    unfold Oper.wp execOp
    simp only [ho, hx, hy, Sem.run_bind, Sem.run_pure, Result.andThen_ok, hst]
    exact h _ o2 g2
end Go.Proofs.Ytaadpldijnegkaa
/-
  Chapter 17: shares: their cells, those that came in, how names compare.
-/
namespace Go.Proofs.Ytaadpldijnegkaa
open Go.RowKit Go.Sort
set_option linter.unusedVariables false
set_option linter.unusedSimpArgs false
set_option maxRecDepth 100000
set_option maxHeartbeats 4000000

/-- a share -/
structure ShV where
  name : ByteArray
  q : Int
  hs : name.size ≤ maxLen
  hq : (Lit.int .i64 q).wf = true
theorem ShV.ext {x y : ShV} (h1 : x.name = y.name) (h2 : x.q = y.q) : x = y := by cases x; cases y; simp only at h1 h2; subst h1; subst h2; rfl
def ShV.cells (x : ShV) : List Value := [.string x.name, .int .i64 x.q]
theorem ShV.length (x : ShV) : x.cells.length = 2 := rfl
theorem ShV.one (x : ShV) : ∀ v ∈ x.cells, v.oneCell' = true := by
  intro v hv
  simp only [ShV.cells, List.mem_cons, List.not_mem_nil, or_false] at hv
  rcases hv with rfl | rfl <;> rfl
def zeroS : ShV := ⟨ByteArray.empty, 0, by simp [maxLen], rfl⟩
instance : Inhabited ShV := ⟨zeroS⟩
def shC (l : List ShV) : List Value := l.flatMap ShV.cells
theorem shC_length (l : List ShV) : (shC l).length = l.length * 2 := flat_len _ _ ShV.length l
theorem shC_at (l : List ShV) (i j : Nat) (hi : i < l.length) (hj : j < 2) : (shC l)[i * 2 + j]? = l[i].cells[j]? := flat_at _ _ ShV.length l i j hi hj
theorem shC_snoc (l : List ShV) (x : ShV) : shC (l ++ [x]) = shC l ++ x.cells := by simp [shC]
theorem shC_append (l m : List ShV) : shC (l ++ m) = shC l ++ shC m := by simp [shC]
theorem shC_one (l : List ShV) : ∀ u ∈ shC l, u.oneCell' = true := by
  intro u hu
  obtain ⟨v, _, h⟩ := List.mem_flatMap.1 hu
  exact ShV.one v u h
theorem sh_info : (Try.prog.info? 48).map (fun i => (i.zero, i.size)) = some (some (.agg zeroS.cells.toArray), 2) := by kernel_rfl
theorem sh_size : (Try.prog.info? 48).map (·.size) = some 2 := by kernel_rfl
theorem sh_one (x : ShV) : (Try.prog.info? 48).map (·.size) = some x.cells.length := sh_size
theorem elSh : Elem Try.prog 23 48 2 24 (.agg zeroS.cells.toArray) := ⟨Try.underlying23, by kernel_rfl, rfl, by omega⟩
theorem fill_sh (x : ShV) : Instr.fill (fun i => some (i * 2, 2)) ((Array.range (1 * 2)).map (zeroS.cells.toArray[· % zeroS.cells.toArray.size]!)) [(0, .agg x.cells.toArray)] = some x.cells.toArray :=
  fill_whole1 2 _ _ x.cells (by simp) rfl (ShV.length x)
/-- a slice of shares -/
def Shs (w : World) (ad : Option Addr) (n c : Nat) (xs : List ShV) : Prop := Sl w ad n c 2 (shC xs)
theorem Shs.len {w : World} {ad : Option Addr} {n c : Nat} {xs : List ShV} (h : Shs w ad n c xs) : n = xs.length := by have := Sl.len h; rw [shC_length] at this; omega
theorem Shs.le {w : World} {ad : Option Addr} {n c : Nat} {xs : List ShV} (h : Shs w ad n c xs) : n ≤ c ∧ c ≤ 9223372036854775807 := ⟨h.2.1, by have := h.2.2.1; simp [maxLen] at this; omega⟩
theorem Shs.below {w w' : World} {ad : Option Addr} {n c : Nat} {xs : List ShV} (h : Shs w ad n c xs) (hb : Below w.heap.size w w') : Shs w' ad n c xs := Sl.below h hb
instance {w w' : World} {ad : Option Addr} {n c : Nat} {xs : List ShV} : Ck (Shs w ad n c xs) w' w (Shs w' ad n c xs) := ⟨fun h hE => h.below hE⟩
theorem Shs.at {w : World} {ad : Option Addr} {n c : Nat} {xs : List ShV} (h : Shs w ad n c xs) (h0 : 0 < xs.length) :
    ∃ b off, ad = some ⟨b, off, none⟩ ∧ b < w.heap.size ∧ ∀ i (hi : i < xs.length), w.rangeAt b (off + i * 2) xs[i].cells := rows_at ShV.length h h0 (by omega)
theorem Shs.of_own {w : World} {base : Nat} {ad : Option Addr} {n c : Nat} {xs : List ShV} (h : w.ownsRow base 48 2 (.slice ad n c) n (shC xs)) : Shs w ad n c xs := Sl.of_own h
theorem Shs.get {w : World} {b off n c : Nat} {xs : List ShV} (h : Shs w (some ⟨b, off, none⟩) n c xs) (k : Nat) (hk : k < xs.length) : w.rangeAt b (off + k * 2) xs[k].cells := by
  obtain ⟨b', off', e, _, h⟩ := h.at (by omega)
  cases e
  exact h k hk
theorem sh_name {w : World} {b o : Nat} {x : ShV} (h : w.rangeAt b o x.cells) : w.cell? ⟨b, o, none⟩ = some (.string x.name) := h 0 _ rfl
theorem sh_q {w : World} {b o : Nat} {x : ShV} (h : w.rangeAt b o x.cells) : w.cell? ⟨b, o + 1, none⟩ = some (.int .i64 x.q) := h 1 _ rfl
section
variable {H : Type} {enc : TypeId × Value → H} {w : World} {base : Nat} {spare : Nat → Bool} {held : Bool}
theorem trod_sh {fuel : Nat} {cs : List Value} {x : DataW H × List MemPlace} (h : DataW.trod enc Try.prog w base spare held fuel 48 cs = some x) : ∃ f : ShV, cs = f.cells := by
  have hc : Try.prog.cellsOf 48 = 2 := by kernel_rfl
  have hc2 : Try.prog.cellsOf 3 = 1 := by kernel_rfl
  have hc3 : Try.prog.cellsOf 9 = 1 := by kernel_rfl
  obtain ⟨hl, f, hf⟩ := trod_struct Try.underlying48 h
  simp only [List.mem_cons, List.not_mem_nil, or_false, forall_eq_or_imp, forall_eq, hc2, hc3] at hf
  obtain ⟨⟨y1, h1⟩, ⟨y2, h2⟩⟩ := hf
  rw [hc] at hl
  rw [take_one_of (show 0 < cs.length by omega)] at h1
  rw [take_one_of (show 1 < cs.length by omega)] at h2
  obtain ⟨nm, e1, w1⟩ := trod_string Try.underlying9 h1
  obtain ⟨q, e2, w2⟩ := trod_int Try.underlying3 h2
  refine ⟨⟨nm, q, w1, w2⟩, ?_⟩
  have k1 : cs = [cs[0], cs[1]] := by
    rcases cs with _ | ⟨a, _ | ⟨b, _ | ⟨d, r⟩⟩⟩ <;> simp at hl ⊢
  rw [k1, e1, e2]
  rfl
theorem open_shs {fuel : Nat} {cs : List Value} {x : DataW H × List MemPlace} (h : DataW.trod enc Try.prog w base spare held fuel 23 cs = some x) :
    ∃ (a : Option Addr) (len cap : Nat) (xs : List ShV), cs = [.slice a len cap] ∧ Shs w a len cap xs :=
  open_rows ShV.cells 2 ShV.length (by omega) Try.underlying23 (by kernel_rfl) (fun fuel cs x h => trod_sh h) h
end
/-- how names compare -/
def nmC (a b : ByteArray) : Int := Lib.compareBytes a.data.toList b.data.toList
theorem call_cmpS (w : World) (a b : ByteArray) : (callFunc 60 #[.string a, .string b]).run Try.prog w = .ok (.value (.int .i64 (nmC a b))) w := by
  rw [run_callFunc_extern Try.func60 (by kernel_rfl) (by kernel_rfl) (by kernel_rfl) (e := Extern.BytealgCompare.compare) (by kernel_rfl)]
  rw [Lib.run_compareString]
  rfl
theorem cmpS_any (a b : ByteArray) (w : World) : Calls Try.prog 48 #[.string a, .string b] w fun e w' => e = .returned (.int .i64 (nmC a b)) ∧ w = w' := by
  have h := call_cmpS w a b
  go_enter Try.func48, Try.ntmps48
  go_wp2_with fail
  go_ret
  exact ⟨rfl, rfl⟩
theorem strCmp_any (a b : ByteArray) (w : World) : Calls Try.prog 37 #[.string a, .string b] w fun e w' => e = .returned (.int .i64 (nmC a b)) ∧ w = w' := by
  go_enter Try.func37, Try.ntmps37
  go_wp2_with (go_at_call 48; go_must (refine (cmpS_any a b _).mono ?_); rintro e w' ⟨rfl, rfl⟩)
  go_ret
  exact ⟨rfl, rfl⟩
theorem byName_any (a b : ShV) (w : World) : Calls Try.prog 36 #[.agg a.cells.toArray, .agg b.cells.toArray] w fun e w' => e = .returned (.int .i64 (nmC a.name b.name)) ∧ Below w.heap.size w w' := by
  have HB := Lib.hid (Below.refl w.heap.size w)
  go_enter Try.func36, Try.ntmps36
  go_wp2_with (first
    | ((with_reducible refine sl 2 ?_); go_must (refine wpL_boxG rfl 48 (.tmp 0) rfl a.cells.toArray rfl ?_); intro w1 g2 he__ le_g2 lt_g2 hg__ hb__; have HG2 := Lib.hid hg__; have hE__ := cU HB bup hb__; replace HB := ck HB hE__; clear hE__; clear hg__ hb__ he__; simp only [PT])
    | ((with_reducible refine sl 3 ?_); go_must (refine wpL_boxG rfl 48 (.tmp 1) rfl b.cells.toArray rfl ?_); intro w2 g3 he__ le_g3 lt_g3 hg__ hb__; have HG3 := Lib.hid hg__; have hE__ := cU HB bup hb__; replace HB := ck HB hE__; replace HG2 := ck HG2 hE__; clear hE__; clear hg__ hb__ he__; simp only [PT])
    | ((with_reducible refine sl 6 ?_); go_must (refine wpL_loadF rfl 9 (.tmp 5) rfl g2 0 rfl (.string a.name) HG2.out rfl Try.underlying9 rfl ?_); simp only [PT])
    | ((with_reducible refine sl 8 ?_); go_must (refine wpL_loadF rfl 9 (.tmp 7) rfl g3 0 rfl (.string b.name) HG3.out rfl Try.underlying9 rfl ?_); simp only [PT])
    | (go_at_call 37; go_must (refine (strCmp_any a.name b.name _).mono ?_); rintro e w' ⟨rfl, rfl⟩))
  go_ret
  exact ⟨rfl, HB.out⟩
end Go.Proofs.Ytaadpldijnegkaa
/-
  Chapter 17: slices.Repeat of one number: walked.
-/
namespace Go.Proofs.Ytaadpldijnegkaa
open Go.RowKit Go.Sort
set_option linter.unusedVariables false
set_option linter.unusedSimpArgs false
set_option maxRecDepth 100000
set_option maxHeartbeats 8000000

theorem mul64_one (n : Nat) (hn : n ≤ 65537) (w : World) : Calls Try.prog 54 #[.int .u64 1, .int .u64 (n : Int)] w fun e w' => e = .returned (.tuple #[.int .u64 0, .int .u64 (n : Int)]) ∧ w = w' := by
  have e1 : bits .and .u64 1 4294967295 = 1 := by decide
  have e2 : bits .and .u64 (n : Int) 4294967295 = (n : Int) := by
    have h := bits_and_u64_nat n 4294967295 (by omega) (by omega)
    have e : n &&& 4294967295 = n % 4294967296 := Nat.and_two_pow_sub_one_eq_mod n 32
    rw [e, Nat.mod_eq_of_lt (by omega)] at h
    exact h
  have e3 : (n : Int) / 4294967296 = 0 := by omega
  have e4 : IntKind.u64.wrap (n : Int) = (n : Int) := by rw [IntKind.wrap_u64]; omega
  have e5 : IntKind.u64.wrap 0 = 0 := by rw [IntKind.wrap_u64]; omega
  have e0 : bits .and .u64 0 4294967295 = 0 := by decide
  have E1 := Lib.hid e1
  have E2 := Lib.hid e2
  have E3 := Lib.hid e3
  have E4 := Lib.hid e4
  have E5 := Lib.hid e5
  have E0 := Lib.hid e0
  clear e1 e2 e3 e4 e5 e0
  go_enter Try.func54, Try.ntmps54
  go_wp2_with fail
  go_ret2
  refine ⟨?_, rfl⟩
  simp [E1.out, E2.out, E3.out, E4.out, E5.out, E0.out]
theorem mul_one' (n : Nat) (hn : n ≤ 65537) (w : World) : Calls Try.prog 40 #[.int .u64 1, .int .u64 (n : Int)] w fun e w' => e = .returned (.tuple #[.int .u64 0, .int .u64 (n : Int)]) ∧ w = w' := by
  go_enter Try.func40, Try.ntmps40
  go_wp2_with (first
    | (go_at_call 54; go_must (refine (mul64_one n hn _).mono ?_); rintro e w' ⟨rfl, rfl⟩))
  go_ret2
  exact ⟨rfl, rfl⟩
theorem splice_repG (cur : List Value) (k j : Nat) (v : Value) (h : cur.take k = List.replicate k v) (hl : k + j ≤ cur.length) : (splice cur k (List.replicate j v)).take (k + j) = List.replicate (k + j) v := by
  unfold splice
  rw [h, ← List.append_assoc, List.replicate_append_replicate]
  exact List.take_left' List.length_replicate
theorem wpL_makeI {P : Program} {w : World} {ops : Array Oper} {rest : List Oper} {o : Oper} {a : Act} {Q : Exit → Act → World → Prop} {t e : TypeId} {z : Value} (el : Elem P t e 1 8 z)
    (hg : Region.wanted o (yielded ops a.tmps) = true) (l c : Operand) (hop : o.op = Op.makeSlice t l c) (n : Nat) (hl : a.eval l = .int .i64 (n : Int)) (hc : a.eval c = .int .i64 (n : Int)) (hn : n ≤ 65537)
    (hK : ∀ g w' (M : List Value), w.heap.size ≤ g → Hid (w'.heap[g]? = some (.cells M.toArray e (0, 0))) → M.length = n → Hid (Below w.heap.size w w') → wpList P ops Q rest (a.put o.dst (.slice (some ⟨g, 0, none⟩) n n)) w') :
    wpList P ops Q (o :: rest) a w := by
  refine wpL_make el hg l c hop w.heap.size n hl hc rfl rfl (by omega) (by unfold maxLen; omega) (Nat.le_refl _) ?_
  intro w' h1 h2
  obtain ⟨_, ⟨hv, _⟩ | ⟨g, cap, cur, hv, hb, hgc, hle, hmx, hsz, ht⟩⟩ := h1
  · cases hv
  · simp only [Value.slice.injEq, Option.some.injEq, Addr.mk.injEq] at hv
    obtain ⟨⟨rfl, -⟩, -, rfl⟩ := hv
    exact hK _ w' cur.toList (Nat.le_refl _) (Lib.hid (by simpa using hgc)) (by simpa using hsz) (Lib.hid ((Below.refl _ _).grown h2 (Nat.le_refl _) (fun k hk => by cases hk)))
theorem yields_cutI {P : Program} {ops : Array Oper} {o : Oper} {a : Act} {S : World → Prop} {t e : TypeId} {bytes : Nat} {z : Value} (el : Elem P t e 1 bytes z)
    (hg : Region.wanted o (yielded ops a.tmps) = true) (x y : Operand) (hop : o.op = Op.slice t x (some y) none none) {g n c k : Nat} (hx : a.eval x = .slice (some ⟨g, 0, none⟩) n c) (hy : a.eval y = .int .i64 (k : Int)) (hk : k < n) (hc : n ≤ c) :
    YieldsIf P ops S o (.slice (some ⟨g, k, none⟩) (n - k) (c - k)) a := by
  have h := yields_slice (S := S) el hg x (some y) none hop hx k n (.inr ⟨_, by rw [Option.map_some, hy]⟩) (.inl ⟨rfl, rfl⟩) (by omega) (by omega)
  have e : subAd (some (⟨g, 0, none⟩ : Addr)) c k 1 = some ⟨g, k, none⟩ := by
    unfold subAd
    rw [if_neg (by omega), Option.map_some, addr_add]
    simp
  rwa [e] at h
theorem yields_preI {P : Program} {ops : Array Oper} {o : Oper} {a : Act} {S : World → Prop} {t e : TypeId} {bytes : Nat} {z : Value} (el : Elem P t e 1 bytes z)
    (hg : Region.wanted o (yielded ops a.tmps) = true) (x y : Operand) (hop : o.op = Op.slice t x none (some y) none) {g n c k : Nat} (hx : a.eval x = .slice (some ⟨g, 0, none⟩) n c) (hy : a.eval y = .int .i64 (k : Int)) (hk : k ≤ n) (hc : n ≤ c) :
    YieldsIf P ops S o (.slice (some ⟨g, 0, none⟩) k c) a := by
  have h := yields_slice (S := S) el hg x none (some y) hop hx 0 k (.inl ⟨rfl, rfl⟩) (.inr ⟨_, by rw [Option.map_some, hy]⟩) (by omega) (by omega)
  have e : subAd (some (⟨g, 0, none⟩ : Addr)) c 0 1 = some ⟨g, 0, none⟩ := by
    unfold subAd
    split
    · rfl
    · simp [Addr.add]
  rwa [e, Nat.sub_zero, Nat.sub_zero] at h
theorem repeat_any (gs cs : Nat) (z : Int) (n : Nat) (h1 : 1 ≤ n) (hn : n ≤ 65537) (w : World) (h : w.cell? ⟨gs, 0, none⟩ = some (.int .i64 z)) :
    Calls Try.prog 29 #[.slice (some ⟨gs, 0, none⟩) 1 cs, .int .i64 (n : Int)] w fun e w' => (∃ g, e = .returned (.slice (some ⟨g, 0, none⟩) n n) ∧ w'.ownsRow w.heap.size 3 1 (.slice (some ⟨g, 0, none⟩) n n) n (List.replicate n (.int .i64 z))) ∧ Below w.heap.size w w' := by
  have hgs : gs < w.heap.size := World.block_lt_of_cell? w _ h
  have HSRC : Hid (∀ (w2 : World), Below w.heap.size w w2 → ∀ (j : Nat) (v : Value), [Value.int .i64 z][j]? = some v → w2.cell? ((⟨gs, 0, none⟩ : Addr).add j) = some v) := Lib.hid (fun w2 hb j v hj => by
    match j with
    | 0 => cases hj; rw [add_zero]; exact (hb.cell (p := ⟨gs, 0, none⟩) hgs).trans h
    | j + 1 => simp at hj)
  have HB := Lib.hid (Below.refl w.heap.size w)
  have HSZ : Hid ((Try.prog.info? 3).map (·.size) = some 1) := Lib.hid (by kernel_rfl)
  have hw4 : IntKind.u64.wrap (n : Int) = (n : Int) := by rw [IntKind.wrap_u64]; omega
  have hw5 : IntKind.i64.wrap (n : Int) = (n : Int) := by rw [IntKind.wrap_i64]; omega
  clear h
  go_enter Try.func29, Try.ntmps29
  go_wp2_with (first
    | (go_at_call 40; go_must (refine (mul_one' n hn _).mono ?_); rintro e w' ⟨rfl, rfl⟩)
    | ((with_reducible refine sl 30 ?_); go_must (refine wpL_makeI elI rfl (.tmp 29) (.tmp 29) rfl n rfl rfl hn ?_); intro g w2 M hgb HG hM HB2; simp only [PT])
    | ((with_reducible refine sl 33 ?_); go_must (refine wpList_copy_splice rfl (.tmp 31) (.tmp 32) 28 28 rfl 3 Try.underlying28 HSZ.out _ _ n n 1 cs rfl rfl g 0 M 3 HG.out [.int .i64 z] (by show 1 = min 1 n; omega) (fun _ => ⟨rfl, _, rfl, HSRC.out _ HB2.out⟩) (by simp; omega) (by intro v hv; simp at hv; subst hv; rfl) w.heap.size w HB2.out hgb ?_); intro w3 HG3 hb3; have HB3 := Lib.hid hb3; clear hb3; simp only [PT]))
  go_loopw [8] (fun i wr => ∃ (k : Nat) (M : List Value), 1 ≤ k ∧ k ≤ n ∧ i = .int .i64 (k : Int) ∧ wr.heap[g]? = some (.cells M.toArray 3 (0, 0)) ∧ M.length = n ∧ M.take k = List.replicate k (.int .i64 z) ∧ Below w.heap.size w wr) (fun i _ => n - (intOf i).toNat)
  case atStart => exact ⟨1, _, Nat.le_refl _, h1, rfl, HG3.out, by rw [length_splice _ _ _ (by simp; omega)]; exact hM, by simp [splice], HB3.out⟩
  case round =>
    obtain ⟨k, M1, hk1, hkn, rfl, hg, hl, ht, hb⟩ := hrel
    have HG := Lib.hid hg
    have HT := Lib.hid ht
    have HB := Lib.hid hb
    clear hg ht hb HG3 HB3
    by_cases hlt : k < n
    · have hlt' : (k : Int) < (n : Int) := by omega
      obtain ⟨j, hj⟩ : ∃ j, j = min k (n - k) := ⟨_, rfl⟩
      have hwj : IntKind.i64.wrap ((k : Int) + (j : Int)) = ((k + j : Nat) : Int) := by rw [IntKind.wrap_i64]; omega
      have HSR : Hid (∀ (i : Nat) (v : Value), (List.replicate j (Value.int .i64 z))[i]? = some v → wr.drew.cell? ((⟨g, 0, none⟩ : Addr).add i) = some v) := Lib.hid (fun i v hi => by
        have hjl : i < j := by have := (List.getElem?_eq_some_iff.1 hi).1; rwa [List.length_replicate] at this
        rw [addr_add, Nat.zero_add]
        show wr.cell? _ = _
        rw [cells_get HG.out]
        have e : M1[i]? = (M1.take k)[i]? := by rw [List.getElem?_take, if_pos (by omega)]
        rw [e, HT.out, List.getElem?_replicate, if_pos (by omega)]
        rw [List.getElem?_replicate, if_pos (by omega)] at hi
        exact hi)
      have HBd : Hid (Below w.heap.size w wr.drew) := Lib.hid HB.out.drew
      have HGd : Hid (wr.drew.heap[g]? = some (.cells M1.toArray 3 (0, 0))) := Lib.hid HG.out
      go_wp2_with fail
      obtain ⟨wd, hwd⟩ : ∃ wd, wd = wr.drew := ⟨_, rfl⟩
      refine wp_region_held_drew (S := fun v => True) (by kernel_rfl) ?_ (fun hHeld => ?_)
      focus (exact trivial)
      refine tk 0 (oi := ⟨some 38, _, _, _, _, _⟩) (v := ?_) rfl (by kernel_rfl) (.inl ⟨by rfl, ?_⟩) hHeld ?_; rotate_left; focus (intro w hSw; (try dsimp only at hSw); go_simp; try with_reducible rfl)
      simp only [PT]
      refine tk 1 (oi := ⟨some 39, _, _, _, _, _⟩) (v := ?_) rfl (by kernel_rfl) (.inl ⟨by rfl, ?_⟩) hHeld ?_; rotate_left; focus (intro w hSw; (try dsimp only at hSw); go_simp; try with_reducible rfl)
      simp only [PT]
      refine tk 2 (oi := ⟨some 40, _, _, _, _, _⟩) (v := ?_) rfl (by kernel_rfl) (.inl ⟨by rfl, ?_⟩) hHeld ?_; rotate_left; focus (intro w hSw; (try dsimp only at hSw); go_simp; try with_reducible rfl)
      simp only [PT]
      refine' tk 3 (oi := ⟨some 41, _, _, _, _, _⟩) (v := _) rfl (by kernel_rfl) (yields_cutI elI rfl (.tmp 39) (.tmp 40) rfl (k := k) (n := n) rfl rfl hlt (Nat.le_refl _)) hHeld ?_
      simp only [PT]
      refine tk 4 (oi := ⟨some 42, _, _, _, _, _⟩) (v := ?_) rfl (by kernel_rfl) (.inl ⟨by rfl, ?_⟩) hHeld ?_; rotate_left; focus (intro w hSw; (try dsimp only at hSw); go_simp; try with_reducible rfl)
      simp only [PT]
      refine tk 5 (oi := ⟨some 43, _, _, _, _, _⟩) (v := ?_) rfl (by kernel_rfl) (.inl ⟨by rfl, ?_⟩) hHeld ?_; rotate_left; focus (intro w hSw; (try dsimp only at hSw); go_simp; try with_reducible rfl)
      simp only [PT]
      refine' tk 6 (oi := ⟨some 44, _, _, _, _, _⟩) (v := _) rfl (by kernel_rfl) (yields_preI elI rfl (.tmp 42) (.tmp 43) rfl (k := k) (n := n) rfl rfl hkn (Nat.le_refl _)) hHeld ?_
      simp only [PT]
      refine wpAnyH_ready (rs := [7]) (by kernel_rfl) (by simp) ?_
      refine (AllReadyH.cons (o := ⟨some 45, _, _, _, _, _⟩) rfl (fun K hK => ?_) AllReadyH.nil)
      (go_must (refine step_copy_splice rfl (.tmp 41) (.tmp 44) 28 28 rfl 3 Try.underlying28 HSZ.out _ _ (n - k) (n - k) k n rfl rfl g k M1 3 HGd.out (List.replicate j (.int .i64 z)) (by rw [List.length_replicate, hj]) (fun _ => ⟨rfl, _, rfl, HSR.out⟩) (by rw [List.length_replicate]; omega) (by intro v hv; rw [List.eq_of_mem_replicate hv]; rfl) w.heap.size w HBd.out hgb ?_); intro w4 HG4 hb4; have HB4 := Lib.hid hb4; clear hb4)
      refine hK.out _ _ ?_ (fun hHeld => ?_)
      focus (exact trivial)
      clear hK K
      try simp only [PT]
      refine tk 8 (oi := ⟨some 46, _, _, _, _, _⟩) (v := ?_) rfl (by kernel_rfl) (.inl ⟨by rfl, ?_⟩) hHeld ?_; rotate_left; focus (intro w hSw; (try dsimp only at hSw); go_simp; try with_reducible rfl)
      simp only [PT]
      refine tk 9 (oi := ⟨some 8, _, _, _, _, _⟩) (v := ?_) rfl (by kernel_rfl) (.inl ⟨by rfl, ?_⟩) hHeld ?_; rotate_left; focus (intro w hSw; (try dsimp only at hSw); go_simp; try with_reducible rfl)
      simp only [PT]
      refine wpAnyH_done (by kernel_rfl) ?_ _
      all_goals
        go_wp2_with fail
        go_roundw
        case rel => exact ⟨k + j, _, by omega, by omega, by simp only [List.length_replicate, ← hj, hwj], HG4.out, by rw [length_splice _ _ _ (by rw [List.length_replicate]; omega)]; exact hl, splice_repG _ _ _ _ HT.out (by omega), HB4.out⟩
        case measure => simp only [intOf, List.length_replicate, ← hj, hwj, Int.toNat_natCast]; omega
    · have hlt' : ¬ (k : Int) < (n : Int) := by omega
      go_wp2_with fail
      obtain rfl : k = n := by omega
      go_ret
      refine ⟨⟨g, rfl, ?_⟩, HB.out⟩
      exact ⟨by simp, .inr ⟨g, k, M1.toArray, rfl, hgb, HG.out, Nat.le_refl _, by unfold maxLen; omega, by simp [hl], by simpa using HT.out⟩⟩
end Go.Proofs.Ytaadpldijnegkaa
/-
  Chapter 17: slices.Values, and what it hands out collected: walked (written by gen/mg2.py).
-/
namespace Go.Proofs.Ytaadpldijnegkaa
open Go.RowKit Go.Sort Go.Shelf
set_option linter.unusedVariables false
set_option linter.unusedSimpArgs false
set_option maxRecDepth 100000
set_option maxHeartbeats 8000000
attribute [local go_sem] Oper.semAt_some

def encS (x : ShV) : Array Value := #[.agg x.cells.toArray]
theorem valC (xs : List ShV) (k : Nat) (hk : k < xs.length) : xs.take (k + 1) = xs.take k ++ [xs[k]] := List.take_succ_eq_append_getElem hk
theorem sh_allone (f : ShV) : f.cells.toArray.all (·.oneCell') = true := by
  rw [Array.all_eq_true_iff_forall_mem]
  intro v hv
  exact ShV.one _ v (by simpa using hv)
theorem values1_in (n : Nat) (hn : 3 ≤ n) (l B : Nat) (ad : Option Addr) (m c : Nat) (xs : List ShV) (w0 : World) (hS : Shs w0 ad m c xs)
    (J : List ShV → World → Prop) (W : World) (hw0 : Below w0.heap.size w0 W)
    (hBB : W.heap[B]? = some (.cells #[.slice ad m c] 23 (0, 0)))
    (hJ : ∀ s A A', J s A → Below A.heap.size A A' → J s A')
    (hY : ∀ pre x W1, J pre W1 → x ∈ xs → pre.length < m → YieldAt Fence.wide (n - 1) Try.prog l (encS x) W1 fun e W' => e = .returned (.bool true) ∧ J (pre ++ [x]) W' ∧ Below w0.heap.size W1 W')
    (h0 : J [] W) :
    CallsIn Fence.wide n Try.prog 47 (#[.func (.yield l) #[] #[]] ++ #[.pointer (some ⟨B, 0, none⟩)]) W fun e W' => (∃ v, e = .returned v) ∧ ∃ ys, ys = xs ∧ J ys W' := by
  have HS := Lib.hid hS
  have HJ := Lib.hid hJ
  have HY := Lib.hid hY
  have HJ0 := Lib.hid h0
  have HBB := Lib.hid hBB
  have HW0 := Lib.hid hw0
  have HM := Lib.hid hS.len
  have hmc := hS.le
  have hF : ∀ f, Fence.wide.fn f := fun _ => trivial
  have h1n : 1 ≤ n := by omega
  clear hS hJ hY h0 hBB hw0
  refine callsIn_of_wp Try.func47 rfl trivial ?_ rfl
  simp only [Try.ntmps47, List.size_toArray, List.length_cons, List.length_nil, Nat.reduceAdd, Nat.reduceSub, Array.replicate_succ, Array.replicate_zero, List.push_toArray, List.append_toArray, List.nil_append, List.cons_append]
  gi_wp2_with (first
    | ((with_reducible refine slI 5 ?_); go_must (refine wpLI_loadF hF rfl 23 (.tmp 1) rfl B 0 rfl (.slice ad m c) HBB.out rfl Try.underlying23 rfl ?_); simp only [PT]))
  clear HBB
  gi_loopw [7] (fun i wr => ∃ (k : Nat) (ys : List ShV), k ≤ m ∧ i = .int .i64 k ∧ Hid (ys = xs.take k) ∧ Hid (J ys wr) ∧ Hid (Below w0.heap.size w0 wr)) (fun i _ => m + 1 - (intOf i).toNat)
  case atStart => exact ⟨0, [], Nat.zero_le _, rfl, Lib.hid rfl, HJ0, HW0⟩
  case round =>
    obtain ⟨k, ys, hk, rfl, HXS, HJx, HW⟩ := hrel
    clear HJ0 HW0
    by_cases hlt : (k : Int) < m
    · have hkN : k < m := by omega
      have hkS : k < xs.length := by rw [← HM.out]; exact hkN
      obtain ⟨b, off, rfl, hbl, hat⟩ := HS.out.at (by omega)
      obtain ⟨s, hs⟩ : ∃ s, s = xs[k] := ⟨_, rfl⟩
      have HSE := Lib.hid hs
      have HR := Lib.hid (range_below (show w0.rangeAt b (off + k * 2) s.cells by rw [hs]; exact hat k hkS) hbl HW.out)
      have HTK := Lib.hid (valC xs k hkS)
      have HMEM : Hid (s ∈ xs) := Lib.hid (by rw [hs]; exact List.getElem_mem _)
      have HLEN : Hid (ys.length < m) := Lib.hid (by rw [HXS.out, List.length_take]; omega)
      have HIS : Hid ((Try.prog.info? 48).map (fun i => (i.zero, i.size)) = some (some (.agg zeroS.cells.toArray), s.cells.toArray.size)) := Lib.hid sh_info
      clear hs hat
      gi_wp2_with (first
        | ((with_reducible refine slI 10 ?_); go_must (refine wpLI_load hF rfl 48 (.tmp 9) rfl b (off + k * 2) rfl s.cells _ HR.out Try.underlying48 rfl (sh_one s) ?_); simp only [PT])
        | ((with_reducible refine slI 4 ?_); go_must (refine wpLI_newN hF rfl rfl 48 rfl (.tmp 4) (.tmp 10) rfl s.cells.toArray _ HIS.out rfl (sh_allone s) (fun _ => rfl) (fun _ => rfl) ?_); intro w4 g4 le_g4 lt_g4 hg__ hb__; have HG4 := Lib.hid hg__; go_must (replace HJx := Lib.hid (HJ.out _ _ _ HJx.out hb__)); go_must (replace HW := Lib.hid (HW.out.trans (hb__.mono HW.out.size))); clear hg__ hb__; go_must (obtain ⟨fn, tmps, assign, body, hy, hR⟩ := HY.out ys s w4 HJx.out HMEM.out HLEN.out); simp only [encS] at hy; simp only [PT])
        | ((with_reducible refine slI 12 ?_); go_must (refine wpLI_load hF rfl 48 (.tmp 4) rfl g4 0 rfl s.cells _ (range_block HG4.out) Try.underlying48 rfl (sh_one s) ?_); simp only [PT]))
      refine hR.mono ?_
      rintro e W3 ⟨rfl, hJ3, hk3⟩
      have HJc := Lib.hid hJ3
      have HWc := Lib.hid (HW.out.trans hk3)
      clear hJ3 hk3 hR hy HG4 HW HJx HR
      gi_wp2
      go_roundw
      case rel => exact ⟨k + 1, ys ++ [s], by omega, by go_num, Lib.hid (by rw [HTK.out, ← HSE.out, HXS.out]), HJc, HWc⟩
      case measure => first | (simp [intOf]; done) | (simp [intOf]; omega)
    · obtain rfl : k = m := by omega
      have HALL : Hid (ys = xs) := Lib.hid (by rw [HXS.out, List.take_of_length_le (by rw [← HM.out]; exact Nat.le_refl _)])
      gi_wp2
      go_end0
      rw [← HALL.out]
      exact ⟨⟨_, rfl⟩, HJx.out⟩
theorem values_any (ad : Option Addr) (m c : Nat) (w : World) :
    Calls Try.prog 35 #[.slice ad m c] w fun e w' => ∃ B, e = .returned (.func (.func 47) #[] #[.pointer (some ⟨B, 0, none⟩)]) ∧ w'.heap[B]? = some (.cells #[.slice ad m c] 23 (0, 0)) ∧ w.heap.size ≤ B ∧ Below w.heap.size w w' := by
  have HB := Lib.hid (Below.refl w.heap.size w)
  go_enter Try.func35, Try.ntmps35
  go_wp2_with (first
    | ((with_reducible refine sl 1 ?_); go_must (refine wpL_boxG rfl 23 (.tmp 0) rfl #[.slice ad m c] rfl ?_); intro w1 g1 he__ le_g1 lt_g1 hg__ hb__; have HG1 := Lib.hid hg__; have hE__ := cU HB bup hb__; replace HB := ck HB hE__; clear hE__; clear hg__ hb__ he__; simp only [PT]))
  go_ret
  exact ⟨g1, rfl, HG1.out, le_g1, HB.out⟩
theorem values_seq (n : Nat) (hm : 3 ≤ n) (B : Nat) (ad : Option Addr) (m c : Nat) (xs : List ShV) (w0 w1 : World) (hS : Shs w0 ad m c xs) (hw0 : Below w0.heap.size w0 w1)
    (hB : w1.heap[B]? = some (.cells #[.slice ad m c] 23 (0, 0))) :
    SeqAll Fence.wide n Try.prog 47 #[.pointer (some ⟨B, 0, none⟩)] encS (Below w0.heap.size) (fun _ A A' => Below A.heap.size A A') (fun ys _ => ys = xs) (fun x _ => x ∈ xs) m w1 := fun l J W hW hJ hY h0 =>
  values1_in n hm l B ad m c xs w0 hS J W (hw0.trans (hW.mono hw0.size)) ((hW.block _ (lt_of_block hB)).trans hB) hJ hY h0
def AxF (Pp : ShV → Prop) (fr : ShV → Nat → Array Value) (x : ShV) (a : Act) (W : World) : Prop := Pp x ∧ ∃ b5, a = ⟨fr x b5, []⟩ ∧ W.heap[b5]? = some (.cells x.cells.toArray 48 (0, 0))
theorem ownFrom_axF (Pp : ShV → Prop) (fr : ShV → Nat → Array Value) (x : ShV) (a : Act) (B : Nat) : OwnFrom B (fun (_ : Unit) W => AxF Pp fr x a W) := fun s W W' row ⟨hp, b5, h0, h1⟩ hg hr =>
  ⟨hp, b5, h0, heap_grown hg (fun r e => (hr r e).2) h1⟩
theorem ownFrom_pure {α : Type} (B : Nat) (p : α → Prop) : OwnFrom B (fun s (_ : World) => p s) := fun s W W' row hs _ _ => hs
/-- what the loop keeps: the flows so far -/
def IApp (g2 B : Nat) (w0 : World) (pre : List ShV) (W : World) : Prop := ∃ ad c, W.heap[g2]? = some (.cells #[.slice ad pre.length c] 23 (0, 0)) ∧ W.ownsRow B 48 2 (.slice ad pre.length c) pre.length (shC pre) ∧ Below w0.heap.size w0 W ∧ B ≤ W.heap.size
theorem ownFrom_app (g2 B B' : Nat) (w0 : World) (h : w0.heap.size ≤ B') : OwnFrom B' (IApp g2 B w0) := fun s W W' row ⟨ad, c, h1, h2, h3, h4⟩ hg hr =>
  ⟨ad, c, heap_grown hg (fun r e => (hr r e).2) h1, own_grown h2 hg (fun r e => (hr r e).2), h3.grown hg h3.size (fun k e => Nat.le_trans h (hr k e).1), Nat.le_trans h4 hg.size⟩
theorem IApp.below {g2 B : Nat} {w0 A A' : World} {pre : List ShV} (h : IApp g2 B w0 pre A) (hb : Below A.heap.size A A') : IApp g2 B w0 pre A' := by
  obtain ⟨ad, c, h1, h2, h3, h4⟩ := h
  exact ⟨ad, c, (hb.block _ (lt_of_block h1)).trans h1, own_keep h2 hb, h3.trans (hb.mono h3.size), Nat.le_trans h4 hb.size⟩
theorem appendSeq_any (B : Nat) (adl : Option Addr) (m cl : Nat) (xs : List ShV) (w : World) (ht : Shs w adl m cl xs) (hm : m ≤ 1000000) (hBB : w.heap[B]? = some (.cells #[.slice adl m cl] 23 (0, 0))) :
    Calls Try.prog 57 #[.slice none 0 0, .func (.func 47) #[] #[.pointer (some ⟨B, 0, none⟩)]] w fun e w' => ∃ ad c, e = .returned (.slice ad (xs).length c) ∧ w'.ownsRow w.heap.size 48 2 (.slice ad (xs).length c) (xs).length (shC (xs)) ∧ Below w.heap.size w w' := by
  have HB := Lib.hid (Below.refl w.heap.size w)
  have HT := Lib.hid ht
  have HBB := Lib.hid hBB
  have hN1 := hm
  clear ht hBB
  refine (callsIn_wide (n := 8)).1 (callsIn_of_wp_marks Try.func57 rfl trivial (wpIn_wide.2 ?_) rfl)
  simp only [Try.ntmps57, List.size_toArray, List.length_cons, List.length_nil, Nat.reduceAdd, Nat.reduceSub, Array.replicate_succ, Array.replicate_zero, List.push_toArray, List.append_toArray, List.nil_append, List.cons_append]
  go_wp2_with (first
    | ((with_reducible refine sl 2 ?_); go_must (refine wpL_boxG rfl 23 (.tmp 0) rfl #[.slice none 0 0] rfl ?_); intro w6 g2 he__ le_g2 lt_g2 hg__ hb__; have HG2 := Lib.hid hg__; have hE__ := cU HB bup hb__; replace HB := ck HB hE__; replace HBB := ck HBB hE__; clear hE__; clear hg__ hb__ he__; simp only [PT]))
  refine (wpIn_wide (n := 8)).1 ?_
  have hsz := HB.out.size
  refine wpIn_rangeFunc_all rfl (by omega) (gf := 47) (lb := #[.pointer (some ⟨B, 0, none⟩)]) rfl trivial (enters_of Try.func47 (by kernel_rfl) rfl)
    (values_seq _ (by omega) B adl m cl xs w w6 HT.out HB.out HBB.out) (fun h k => h.trans k) (belowK_b hsz) (Below.refl _ _) (fun _ => rfl)
    (fun m A A' k ob st hk hkm _ hA => (st.block k (lt_of_block hA)).trans hA)
    (IApp g2 w6.heap.size w) (ownFrom_app _ _ _ _ hsz) (fun s A A' m hm hi st => hi.below st)
    (ownFrom_pure _ _) ⟨none, 0, HG2.out, World.ownsRow_nil _ _ _ _, HB.out, Nat.le_refl _⟩
    (AxF (fun x => x ∈ xs) fun x b5 => #[.slice none 0 0, .func (.func 47) #[] #[.pointer (some ⟨B, 0, none⟩)], .pointer (some ⟨g2, 0, none⟩), undef, .slice none 0 0, .pointer (some ⟨b5, 0, none⟩), .func (.func 47) #[] #[.pointer (some ⟨B, 0, none⟩)], .agg x.cells.toArray, undef, undef, undef, undef, undef]) (fun x a' => ownFrom_axF _ _ _ _ _) ?assign ?body ?done
  case assign =>
    intro l pre x W K hI hP hK
    simp only [encS, fold1]
    simp only [PT]
    have hF : ∀ f, (Fence.wide.inRound l).fn f := fun _ => trivial
    have HII := Lib.hid hI
    have HK := Lib.hid hK
    have HE := Lib.hid (Below.refl W.heap.size W)
    have hszW : w.heap.size ≤ W.heap.size := by obtain ⟨_, _, _, _, h3, _⟩ := hI; exact h3.size
    have HIX : Hid ((Try.prog.info? 48).map (fun i => (i.zero, i.size)) = some (some (.agg zeroS.cells.toArray), x.cells.toArray.size)) := Lib.hid (by exact sh_info)
    clear hI hK
    gi_wp2_with (first
      | ((with_reducible refine slI 5 ?_); go_must (refine wpLI_newN hF rfl rfl 48 rfl (.tmp 5) (.tmp 7) rfl x.cells.toArray _ HIX.out (by rw [List.size_toArray, List.size_toArray, ShV.length x, ShV.length zeroS]) (sh_allone x) (fun _ => rfl) (fun _ => rfl) ?_); intro w7 g5 le_g5 lt_g5 hg__ hb__; have HG5 := Lib.hid hg__; replace HE := ck HE hb__; clear hg__ hb__; simp only [PT]))
    exact HK.out _ _ (KeepsFrom.below HE.out) (HE.out.mono hszW) (HII.out.below HE.out) ⟨hP, g5, by simp, HG5.out⟩
  case body =>
    rintro l pre x a' W hl ⟨ad', c', h1, h2, h3, h4⟩ ⟨hP, b5, rfl, h5⟩ hlt
    have hF : ∀ f, (Fence.wide.inRound l).fn f := fun _ => trivial
    have hszW := h3.size
    have H5 := Lib.hid h5
    have H1 := Lib.hid h1
    have H2 := Lib.hid h2
    have H3 := Lib.hid h3
    have HE := Lib.hid (Below.refl W.heap.size W)
    have HIX : Hid ((Try.prog.info? 48).map (·.size) = some x.cells.length) := Lib.hid (by exact sh_size)
    clear hP h1 h2 h3 h5
    gi_wp2_with (first
      | ((with_reducible refine slI 8 ?_); go_must (refine wpLI_loadF hF rfl 23 (.tmp 2) rfl g2 0 rfl (.slice ad' pre.length c') H1.out rfl Try.underlying23 rfl ?_); simp only [PT])
      | ((with_reducible refine slI 9 ?_); go_must (refine wpLI_load hF rfl 48 (.tmp 5) rfl b5 0 rfl x.cells _ (range_block H5.out) Try.underlying48 rfl HIX.out ?_); simp only [PT])
      | ((with_reducible refine slI 10 ?_); go_must (refine wpLI_lit1 hF rfl 23 48 (.tmp 9) rfl x.cells.toArray _ rfl 2 Try.underlying23 sh_info (by omega) (by omega) (fill_sh x) ?_); intro w11 gL le_gL lt_gL hg__ hb__; have HL := Lib.hid hg__; replace HE := ck HE hb__; clear hg__ hb__; simp only [PT])
      | ((with_reducible refine slI 11 ?_); go_must (refine wpLI_append hF elSh rfl (.tmp 8) (.tmp 10) rfl w6.heap.size rfl (own_keep H2.out HE.out) rfl (by have h := sl_block (cs := x.cells) HL.out; exact h) (ShV.one x) (by unfold maxLen; omega) (by omega) (Nat.le_trans h4 HE.out.size) ?_); intro ad10 c10 w10 ho10 hg10__; have HO2 := own_keep H2.out HE.out; have HQ2 := Lib.hid ((KeepsFrom.below (n₀ := w6.heap.size) HE.out).trans (KeepsFrom.own HO2 hg10__)); have HKb := Lib.hid ((HE.out.mono hszW).grown hg10__ (Nat.le_trans hszW HE.out.size) (fun k e => Nat.le_trans hsz (ownBlock_ge HO2 k e))); have HO := Lib.hid ho10; go_must (have H1n := Lib.hid ((hg10__.block g2 (lt_of_block (hat HE H1)) (fun e => (by have := ownBlock_ge HO2 g2 e.symm; omega))).trans (hat HE H1))); go_must (have H3n := Lib.hid ((H3.out.trans (HE.out.mono hszW)).grown hg10__ (Nat.le_trans hszW HE.out.size) (fun k e => Nat.le_trans hsz (ownBlock_ge HO2 k e)))); have H4n := Lib.hid (Nat.le_trans h4 (Nat.le_trans HE.out.size hg10__.size)); clear ho10 hg10__ HO2; simp only [PT])
      | ((with_reducible show wpListIn _ _ _ _ _ (⟨none, .store _ (.tmp 2) _, _, _, _, _⟩ :: _) _ _); go_must (refine wpLI_storeF hF rfl 23 (.tmp 2) (.tmp 11) rfl g2 0 (.slice ad10 (pre.length + 1) c10) rfl rfl rfl H1n.out (show (0 : Nat) < 1 by decide) (by kernel_rfl) #[.slice ad10 (pre.length + 1) c10] rfl ?_); intro w12 hs__ hr__; have HQ3 := Lib.hid (HQ2.out.trans (KeepsFrom.write hr__ H1n.out)); have HKc := Lib.hid (HKb.out.grown hr__ (Nat.le_trans hszW HKb.out.size) (fun k e => by cases e; exact le_g2)); have H3m := Lib.hid (H3n.out.grown hr__ H3n.out.size (fun k e => by cases e; exact le_g2)); have HOm := Lib.hid (own_write HO.out hr__ H1n.out (by decide)); have H4m := Lib.hid (Nat.le_trans H4n.out hr__.size); have HS := Lib.hid hs__; clear hs__ hr__; simp only [PT]))
    exact ⟨HQ3.out, HKc.out, ad10, c10, by rw [List.length_append]; exact HS.out, by rw [List.length_append, shC_snoc]; exact HOm.out, H3m.out, H4m.out⟩
  case done =>
    rintro D ys W hD he ⟨ad', c', h1, h2, h3, h4⟩ hK
    obtain rfl : xs = ys := he.symm
    have H1 := Lib.hid h1
    have H2 := Lib.hid h2
    have H3 := Lib.hid h3
    have HKD := Lib.hid hK
    have HD : Hid _ := Lib.hid hD
    clear h1 h2 h3 hK hD
    go_wp2_with (first
      | ((with_reducible refine sl 12 ?_); go_must (refine wpL_loadF rfl 23 (.tmp 2) rfl g2 0 rfl (.slice ad' (xs).length c') H1.out rfl Try.underlying23 rfl ?_); simp only [PT]))
    refine ⟨by simp, .inl ⟨_, _, rfl, run_takeDeferred HKD.out, ?_⟩⟩
    refine ⟨_, results_tmp rfl _ _ _, ad', c', rfl, ?_, H3.out.trans (belowK_b (w := w) (Nat.le_refl _) W D _ _ (by have := HD.out; omega) HKD.out rfl rfl)⟩
    exact own_base (own_grown H2.out (grownBy_putObj' W D _) (fun r e => by cases e; exact ⟨_, HKD.out, rfl⟩)) hsz
theorem collect_any (B : Nat) (adl : Option Addr) (m cl : Nat) (xs : List ShV) (w : World) (ht : Shs w adl m cl xs) (hm : m ≤ 1000000) (hBB : w.heap[B]? = some (.cells #[.slice adl m cl] 23 (0, 0))) :
    Calls Try.prog 45 #[.func (.func 47) #[] #[.pointer (some ⟨B, 0, none⟩)]] w fun e w' => ∃ ad c, e = .returned (.slice ad (xs).length c) ∧ w'.ownsRow w.heap.size 48 2 (.slice ad (xs).length c) (xs).length (shC (xs)) ∧ Below w.heap.size w w' := by
  have HT := Lib.hid ht
  have HBB := Lib.hid hBB
  clear ht hBB
  go_enter Try.func45, Try.ntmps45
  go_wp2_with (go_at_call 57; go_must (refine (appendSeq_any B adl m cl xs _ HT.out hm HBB.out).mono ?_); rintro e w2 ⟨ad, c, rfl, ho, hb⟩; have HO := Lib.hid ho; have HB := Lib.hid hb; clear ho hb)
  go_ret
  exact ⟨ad, c, rfl, HO.out, HB.out⟩
end Go.Proofs.Ytaadpldijnegkaa
/-
  Chapter 17: may: walked.
-/
namespace Go.Proofs.Ytaadpldijnegkaa
open Go.RowKit Go.Sort
set_option linter.unusedVariables false
set_option linter.unusedSimpArgs false
set_option maxRecDepth 100000
set_option maxHeartbeats 8000000

/-- what share i is refused for -/
def mayStop (xs : List ShV) (i : Nat) : Prop := (xs.getD i zeroS).q < 0 ∨ 1024000 < (xs.getD i zeroS).q ∨ (0 < i ∧ (xs.getD (i - 1) zeroS).name = (xs.getD i zeroS).name)
def mayP (xs : List ShV) : Prop := xs.length ≤ 1024 ∧ ∀ i, i < xs.length → ¬ mayStop xs i
noncomputable instance (xs : List ShV) : Decidable (mayP xs) := Classical.propDecidable _
noncomputable def mayB (xs : List ShV) : Bool := decide (mayP xs)
theorem mayB_no {xs : List ShV} {i : Nat} (hi : i < xs.length) (h : mayStop xs i) : mayB xs = false := by
  unfold mayB
  rw [decide_eq_false_iff_not]
  exact fun hp => hp.2 i hi h
theorem mayB_end {xs : List ShV} (h : ∀ i, i < xs.length → ¬ mayStop xs i) : mayB xs = decide (xs.length ≤ 1024) := by
  unfold mayB
  by_cases hl : xs.length ≤ 1024
  · rw [decide_eq_true hl]; exact decide_eq_true ⟨hl, h⟩
  · rw [decide_eq_false hl]; exact decide_eq_false (fun hp => hl hp.1)
theorem toL_eq (a : ByteArray) : a.toList = a.data.toList := strOf_toList a.data.toList
theorem nm_ne {a b : ByteArray} (h : ¬ a = b) : (a.toList == b.toList) = false := by
  rw [toL_eq, toL_eq, beq_eq_false_iff_ne]
  intro e
  apply h
  obtain ⟨⟨a⟩⟩ := a
  obtain ⟨⟨b⟩⟩ := b
  simp at e
  rw [e]
theorem stop_no {xs : List ShV} {k : Nat} (h : ∀ j, j < k → ¬ mayStop xs j) {x : ShV} (hx : xs.getD k zeroS = x) {q : Int} (hq : q = x.q) (h1 : ¬ q < 0) (h2 : ¬ 1024000 < q) (h3 : ¬ (0 < k ∧ (xs.getD (k - 1) zeroS).name = x.name)) : ∀ j, j < k + 1 → ¬ mayStop xs j := by
  intro j hj
  rcases Nat.lt_or_ge j k with g | g
  · exact h j g
  · obtain rfl : j = k := by omega
    unfold mayStop
    rw [hx, ← hq]
    rintro (a | a | a)
    · exact h1 a
    · exact h2 a
    · exact h3 a
theorem may_any (ad : Option Addr) (n c : Nat) (xs : List ShV) (w : World) (h : Shs w ad n c xs) :
    Calls Try.prog 27 #[.slice ad n c] w fun e w' => e = .returned (.bool (mayB xs)) ∧ Below w.heap.size w w' := by
  have hM := h.len
  subst hM
  have HS := Lib.hid h
  have hmc := h.le
  have HIS : Hid (∀ x : ShV, (Try.prog.info? 48).map (fun i => (i.zero, i.size)) = some (some (.agg zeroS.cells.toArray), x.cells.toArray.size)) := Lib.hid (fun x => sh_info)
  clear h
  go_enter Try.func27, Try.ntmps27
  go_wp2_with fail
  go_loopw [7] (fun i wr => ∃ k : Nat, k ≤ xs.length ∧ i = .int .i64 (k : Int) ∧ Hid (∀ j, j < k → ¬ mayStop xs j) ∧ Hid (Below w.heap.size w wr)) (fun i _ => xs.length - (intOf i).toNat)
  case atStart => exact ⟨0, by omega, rfl, Lib.hid (fun j hj => by omega), Lib.hid (Below.refl _ _)⟩
  case round =>
    obtain ⟨k, hk, rfl, HNO, HB⟩ := hrel
    by_cases hlt : k < xs.length
    · have hlt' : (k : Int) < (xs.length : Int) := by omega
      have hkS : k < xs.length := by omega
      obtain ⟨b, off, rfl, hbl, hat⟩ := HS.out.at (by omega)
      obtain ⟨x, hx⟩ : ∃ x, x = xs[k] := ⟨_, rfl⟩
      have HR := Lib.hid (range_below (show w.rangeAt b (off + k * 2) x.cells by rw [hx]; exact hat k hkS) hbl HB.out)
      have hgx : xs.getD k zeroS = x := by rw [List.getD_eq_getElem?_getD, List.getElem?_eq_getElem hkS, hx]; rfl
      have HST : Hid (mayStop xs k → mayB xs = false) := Lib.hid (fun h => mayB_no hkS h)
      have HX := Lib.hid hgx
      have HAT : Hid (∀ j, (hj : j < xs.length) → ∀ wz, Below w.heap.size w wz → wz.cell? ⟨b, off + j * 2, none⟩ = some (.string (xs.getD j zeroS).name)) := Lib.hid (fun j hj wz hb => by
        have e : xs.getD j zeroS = xs[j] := by rw [List.getD_eq_getElem?_getD, List.getElem?_eq_getElem hj]; rfl
        rw [e]
        exact sh_name (range_below (hat j hj) hbl hb))
      clear hx hat hgx
      have HBr := HB
      go_wp2_with (first
        | ((with_reducible refine sl 11 ?_); go_must (refine wpL_load rfl 48 (.tmp 10) rfl b (off + k * 2) rfl x.cells _ HR.out Try.underlying48 rfl (sh_one x) ?_); simp only [PT])
        | ((with_reducible refine sl 4 ?_); go_must (refine wpL_allocG rfl 48 rfl (.agg zeroS.cells.toArray) zeroS.cells.toArray 2 sh_info rfl ?_); intro w4 g4 he__ le_4 lt_4 hg__ hb__; have hE__ := cU HB bup hb__; replace HB := ck HB hE__; clear hE__ hb__ he__; have HG4 := Lib.hid hg__; clear hg__; simp only [PT])
        | ((with_reducible show wpList _ _ _ (⟨none, .store _ (.tmp 4) (.tmp 11), _, _, _, _⟩ :: _) _ _); go_must (refine wpL_storeRow rfl 48 (.tmp 4) (.tmp 11) rfl g4 x.cells.toArray rfl rfl HG4.out sh_size rfl (sh_allone x) ?_); intro w5 hs__ hr__; have le_5 := HBr.out.size; replace HB := Lib.hid (HB.out.grown hr__ HB.out.size (fun k hk => by cases hk; omega)); clear HG4; have HG4 := Lib.hid hs__; clear hs__ hr__; simp only [PT]))
      obtain ⟨q, hq⟩ : ∃ q, q = x.q := ⟨_, rfl⟩
      obtain ⟨nm, hnm⟩ : ∃ nm, nm = x.name := ⟨_, rfl⟩
      have HQ := Lib.hid hq
      have HNM := Lib.hid hnm
      have c1 : w5.cell? ⟨g4, 1, none⟩ = some (.int .i64 q) := by rw [hq]; exact (range_block HG4.out) 1 _ rfl
      have c0 : w5.cell? ⟨g4, 0, none⟩ = some (.string nm) := by rw [hnm]; exact (range_block HG4.out) 0 _ rfl
      clear hq hnm
      by_cases hq0 : q < 0
      · have d1 : decide (q < 0) = true := decide_eq_true hq0
        go_quiet (fail)
        go_wp2_with fail
        go_ret
        rw [HST.out (.inl (by rw [HX.out, ← HQ.out]; exact hq0))]
        exact ⟨rfl, by first | exact HB.out | exact HB.out.trans (below_drewN _ _ _) | exact HB.out.drew⟩
      by_cases hq1 : 1024000 < q
      · have d1 : decide (q < 0) = false := decide_eq_false hq0
        have d2 : decide (1024000 < q) = true := decide_eq_true hq1
        go_quiet (fail)
        go_wp2_with fail
        go_ret
        rw [HST.out (.inr (.inl (by rw [HX.out, ← HQ.out]; exact hq1)))]
        exact ⟨rfl, by first | exact HB.out | exact HB.out.trans (below_drewN _ _ _) | exact HB.out.drew⟩
      have d1 : decide (q < 0) = false := decide_eq_false hq0
      have d2 : decide (1024000 < q) = false := decide_eq_false hq1
      rcases k with _ | j
      · go_quiet (fail)
        go_wp2_with fail
        go_roundw
        case rel => exact ⟨_, by omega, by go_num, Lib.hid (stop_no HNO.out HX.out HQ.out hq0 hq1 (by omega)), Lib.hid (by first | exact HB.out | exact HB.out.trans (below_drewN _ _ _) | exact HB.out.drew)⟩
        case measure => simp [intOf]; omega
      have d3 : decide ((0 : Int) < ((j + 1 : Nat) : Int)) = true := decide_eq_true (by omega)
      have hj1 : ((j + 1 : Nat) : Int) - 1 = (j : Int) := by omega
      have hwj : IntKind.i64.wrap (((j + 1 : Nat) : Int) - 1) = (j : Int) := by rw [IntKind.wrap_i64]; have := hmc; omega
      obtain ⟨pn, hpn⟩ : ∃ pn, pn = (xs.getD j zeroS).name := ⟨_, rfl⟩
      have HPN := Lib.hid hpn
      have c2 : w5.cell? ⟨b, off + j * 2, none⟩ = some (.string pn) := by rw [hpn]; exact HAT.out j (by omega) w5 HB.out
      have hj0 : (0 : Int) ≤ (j : Int) := by omega
      have hjl : (j : Int) < (xs.length : Int) := by omega
      clear hpn
      by_cases hne : pn = nm
      · go_quiet (fail)
        go_wp2_with fail
        go_ret
        rw [HST.out (.inr (.inr ⟨by omega, by rw [HX.out, ← HNM.out, Nat.add_sub_cancel, ← HPN.out]; exact hne⟩))]
        exact ⟨rfl, by first | exact HB.out | exact HB.out.trans (below_drewN _ _ _) | exact HB.out.drew⟩
      · have hbe : (pn.toList == nm.toList) = false := nm_ne hne
        go_quiet (fail)
        go_wp2_with fail
        go_roundw
        case rel => exact ⟨_, by omega, by go_num, Lib.hid (stop_no HNO.out HX.out HQ.out hq0 hq1 (by rw [← HNM.out, Nat.add_sub_cancel, ← HPN.out]; exact fun h => hne h.2)), Lib.hid (by first | exact HB.out | exact HB.out.trans (below_drewN _ _ _) | exact HB.out.drew)⟩
        case measure => simp [intOf]; omega
    · have hge : ¬ (k : Int) < (xs.length : Int) := by omega
      obtain rfl : k = xs.length := by omega
      have HE : Hid (mayB xs = decide ((xs.length : Int) ≤ 1024)) := Lib.hid (by rw [mayB_end (fun i hi => HNO.out i (by omega))]; exact decide_eq_decide.2 (by omega))
      go_wp2_with fail
      go_ret
      rw [HE.out]
      exact ⟨rfl, HB.out⟩
end Go.Proofs.Ytaadpldijnegkaa
/-
  Chapter 17: a name's turns in memory; take: walked.
-/
namespace Go.Proofs.Ytaadpldijnegkaa
open Go.RowKit Go.Sort
set_option linter.unusedVariables false
set_option linter.unusedSimpArgs false
set_option maxRecDepth 100000
set_option maxHeartbeats 8000000

/-- a name's turns -/
structure TurnV where
  q : Nat
  cr : Nat
  off : Nat
  skip : Nat
  next : Nat
def nI (n : Nat) : Value := .int .i64 (n : Int)
def TurnV.cells (t : TurnV) : List Value := [nI t.q, nI t.cr, nI t.off, nI t.skip, nI t.next]
theorem TurnV.length (t : TurnV) : t.cells.length = 5 := rfl
theorem TurnV.one (t : TurnV) : ∀ v ∈ t.cells, v.oneCell' = true := by
  intro v hv
  simp only [TurnV.cells, List.mem_cons, List.not_mem_nil, or_false] at hv
  rcases hv with rfl | rfl | rfl | rfl | rfl <;> rfl
def zeroU : TurnV := ⟨0, 0, 0, 0, 0⟩
def tuC (l : List TurnV) : List Value := l.flatMap TurnV.cells
theorem tuC_length (l : List TurnV) : (tuC l).length = l.length * 5 := flat_len _ _ TurnV.length l
theorem tuC_at (l : List TurnV) (i j : Nat) (hi : i < l.length) (hj : j < 5) : (tuC l)[i * 5 + j]? = l[i].cells[j]? := flat_at _ _ TurnV.length l i j hi hj
theorem tuC_snoc (l : List TurnV) (x : TurnV) : tuC (l ++ [x]) = tuC l ++ x.cells := by simp [tuC]
theorem tuC_set : ∀ (l : List TurnV) (i j : Nat) (v : Value) (t : TurnV) (hi : i < l.length) (hj : j < 5) (h : t.cells = l[i].cells.set j v), (tuC l).set (i * 5 + j) v = tuC (l.set i t)
  | [], i, _, _, _, hi, _, _ => by simp at hi
  | a :: l, 0, j, v, t, hi, hj, h => by
    have h' : t.cells = a.cells.set j v := h
    show (a.cells ++ tuC l).set (0 * 5 + j) v = t.cells ++ tuC l
    rw [Nat.zero_mul, Nat.zero_add, List.set_append_left _ _ (by rw [TurnV.length]; exact hj), h']
  | a :: l, i + 1, j, v, t, hi, hj, h => by
    have ih := tuC_set l i j v t (by simpa using hi) hj (by simpa using h)
    show (a.cells ++ tuC l).set ((i + 1) * 5 + j) v = a.cells ++ tuC (l.set i t)
    rw [List.set_append_right _ _ (by rw [TurnV.length]; omega), TurnV.length, show (i + 1) * 5 + j - 5 = i * 5 + j by omega, ih]
/-- slots -/
def iV (l : List Int) : List Value := l.map (Value.int .i64)
theorem iV_length (l : List Int) : (iV l).length = l.length := by simp [iV]
theorem iV_set (l : List Int) (i : Nat) (z : Int) : (iV l).set i (.int .i64 z) = iV (l.set i z) := by simp [iV, List.map_set]
theorem iV_at (l : List Int) (i : Nat) : (iV l)[i]? = l[i]?.map (Value.int .i64) := by simp [iV]
/-- the turns lie at gt, the slots at gs -/
structure Fil (w : World) (bt gt ct bs gs cs : Nat) (ts : List TurnV) (sl : List Int) : Prop where
  t : w.ownsRow bt 55 5 (.slice (some ⟨gt, 0, none⟩) ts.length ct) ts.length (tuC ts)
  s : w.ownsRow bs 3 1 (.slice (some ⟨gs, 0, none⟩) sl.length cs) sl.length (iV sl)
  ne : gt ≠ gs
theorem Fil.keep {w w' : World} {bt gt ct bs gs cs : Nat} {ts : List TurnV} {sl : List Int} (h : Fil w bt gt ct bs gs cs ts sl) (hb : Below w.heap.size w w') : Fil w' bt gt ct bs gs cs ts sl := ⟨own_keep h.t hb, own_keep h.s hb, h.ne⟩
instance {w w' : World} {bt gt ct bs gs cs : Nat} {ts : List TurnV} {sl : List Int} : Ck (Fil w bt gt ct bs gs cs ts sl) w' w (Fil w' bt gt ct bs gs cs ts sl) := ⟨fun h hE => h.keep hE⟩
theorem Fil.tc {w : World} {bt gt ct bs gs cs : Nat} {ts : List TurnV} {sl : List Int} (h : Fil w bt gt ct bs gs cs ts sl) {i j : Nat} (hi : i < ts.length) (hj : j < 5) {v : Value} (hv : ts[i].cells[j]? = some v) : w.cell? ⟨gt, i * 5 + j, none⟩ = some v := by
  have hl : i * 5 + j < ts.length * 5 := by have := Nat.mul_le_mul_right 5 (show i + 1 ≤ ts.length from hi); omega
  rw [h.t.cellAt _ hl, tuC_at ts i j hi hj, hv]
theorem Fil.sc {w : World} {bt gt ct bs gs cs : Nat} {ts : List TurnV} {sl : List Int} (h : Fil w bt gt ct bs gs cs ts sl) {i : Nat} {z : Int} (hz : sl[i]? = some z) : w.cell? ⟨gs, i, none⟩ = some (.int .i64 z) := by
  have hi := (List.getElem?_eq_some_iff.1 hz).1
  rw [h.s.cellAt _ (by omega), iV_at, hz]
  rfl
theorem Fil.lt {w : World} {bt gt ct bs gs cs : Nat} {ts : List TurnV} {sl : List Int} (h : Fil w bt gt ct bs gs cs ts sl) : gt < w.heap.size ∧ gs < w.heap.size := ⟨(own_block h.t _ rfl).2, (own_block h.s _ rfl).2⟩
/-- a field of a turn, stored -/
theorem wpL_storeTu {ops : Array Oper} {rest : List Oper} {o : Oper} {a : Act} {w : World} {Q : Exit → Act → World → Prop} (hgd : o.guard = none) (x y : Operand) (ho : o.op = .store 3 x y)
    {bt gt ct bs gs cs : Nat} {ts : List TurnV} {sl : List Int} (h : Fil w bt gt ct bs gs cs ts sl) (i j : Nat) (hi : i < ts.length) (hj : j < 5) (z : Int) (t : TurnV) (ht : t.cells = ts[i].cells.set j (.int .i64 z)) (hx : a.eval x = .pointer (some ⟨gt, i * 5 + j, none⟩)) (hy : a.eval y = .int .i64 z)
    (hk : ∀ w1, Fil w1 bt gt ct bs gs cs (ts.set i t) sl → w.grownBy w1 (some gt) → wpList Try.prog ops Q rest (a.put o.dst undef) w1) : wpList Try.prog ops Q (o :: rest) a w := by
  have hl : i * 5 + j < (tuC ts).length := by rw [tuC_length]; have := Nat.mul_le_mul_right 5 (show i + 1 ≤ ts.length from hi); omega
  refine wpL_storeO hgd 3 x y ho h.t (i * 5 + j) hl (.int .i64 z) rfl rfl hx hy (by kernel_rfl) (fun w1 h1 h2 => hk w1 ⟨?_, ?_, h.ne⟩ h2)
  · rw [tuC_set ts i j _ t hi hj ht] at h1
    rw [List.length_set]
    exact h1
  · exact own_apart h.s (ad2 := some ⟨gt, 0, none⟩) (n2 := 0) (c2 := 0) h2 (fun x y hx hy => by cases hx; cases hy; exact fun e => h.ne e.symm)
theorem wpL_storeSl {ops : Array Oper} {rest : List Oper} {o : Oper} {a : Act} {w : World} {Q : Exit → Act → World → Prop} (hgd : o.guard = none) (x y : Operand) (ho : o.op = .store 3 x y)
    {bt gt ct bs gs cs : Nat} {ts : List TurnV} {sl : List Int} (h : Fil w bt gt ct bs gs cs ts sl) (i : Nat) (hi : i < sl.length) (z : Int) (hx : a.eval x = .pointer (some ⟨gs, i, none⟩)) (hy : a.eval y = .int .i64 z)
    (hk : ∀ w1, Fil w1 bt gt ct bs gs cs ts (sl.set i z) → w.grownBy w1 (some gs) → wpList Try.prog ops Q rest (a.put o.dst undef) w1) : wpList Try.prog ops Q (o :: rest) a w := by
  refine wpL_storeO hgd 3 x y ho h.s i (by rw [iV_length]; exact hi) (.int .i64 z) rfl rfl hx hy (by kernel_rfl) (fun w1 h1 h2 => hk w1 ⟨?_, ?_, h.ne⟩ h2)
  · exact own_apart h.t (ad2 := some ⟨gs, 0, none⟩) (n2 := 0) (c2 := 0) h2 (fun x y hx hy => by cases hx; cases hy; exact h.ne)
  · rw [iV_set] at h1
    rw [List.length_set]
    exact h1
end Go.Proofs.Ytaadpldijnegkaa
