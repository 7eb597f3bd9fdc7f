/-
  Joined by program (merge.py): FloA.
-/
import Derived.Test.YtgpdlhbndoeldaaA6
/-
  Chapter 21: the statement FlowRights: walked (written by gen/flawa.py).
-/
namespace Go.Proofs.Ytgpdlhbndoeldaa
open Go.RowKit Go.Sort
set_option linter.unusedVariables false
set_option linter.unusedSimpArgs false
set_option maxRecDepth 100000
set_option maxHeartbeats 16000000

def FrA (g h : Nat) (a b : Flo) (u : World) : Prop := u.heap[g]? = some (.cells a.cells.toArray 28 (0, 0)) ∧ u.heap[h]? = some (.cells b.cells.toArray 28 (0, 0))
instance {g h : Nat} {a b : Flo} {w w' : World} : Ck (FrA g h a b w) w' w (FrA g h a b w') := ⟨fun k hE => ⟨(hE.block g (lt_of_block k.1)).trans k.1, (hE.block h (lt_of_block k.2)).trans k.2⟩⟩
theorem skip_step {p : Bool} {A E : Prop} (h : p = false) (hE : E) : if p = true then A else E := by rw [if_neg (by rw [h]; simp)]; exact hE
theorem right_fit {f : Flo} (h : rightF f = true) : f.key.fit = true := by
  simp only [rightF, Bool.and_eq_true] at h
  exact knownT_fit h.1.1.1.1.1.1.1
theorem rights21_walk (a b : Flo) (oa : a.ok) (ob : b.ok) (kb : List UInt8) (hk : kb.length = 16) (n : Int) (w : World) :
    Calls Try.prog 3 #[.agg a.cells.toArray, .agg b.cells.toArray, .agg (BV kb).toArray, .int .i64 n] w fun e w' => e = .returned (.bool true) ∧ Below w.heap.size w w' := by
  have HB := Lib.hid (Below.refl w.heap.size w)
  have HAA := Lib.hid (Flo.geta oa)
  have HAB := Lib.hid (Flo.geta ob)
  have HIa : Hid ((Try.prog.info? 28).map (·.size) = some a.cells.length) := Lib.hid (by rw [Flo.length oa]; exact flo_size)
  have HIb : Hid ((Try.prog.info? 28).map (·.size) = some b.cells.length) := Lib.hid (by rw [Flo.length ob]; exact flo_size)
  have HIK : Hid ((Try.prog.info? 22).map (·.size) = some (BV kb).length) := Lib.hid (by rw [BV_length, hk]; kernel_rfl)
  have HK := Lib.hid hk
  have HOa := Lib.hid oa
  have HOb := Lib.hid ob
  go_enter Try.func3, Try.ntmps3
  rcases Nat.lt_or_ge 200 a.name.size with h1 | h1
  · have d1 : decide ((200 : Int) < (a.name.size : Int)) = true := decide_eq_true (by omega)
    have d2 : decide (200 < a.name.size) = true := decide_eq_true (by omega)
    go_wp2_with (first
      | ((with_reducible refine sl 4 ?_); go_must (refine wpL_boxG rfl 28 (.tmp 0) rfl a.cells.toArray rfl ?_); intro wb4 g4 he__ le_4 lt_4 hg__ hb__; have hE__ := cU HB bup hb__; replace HB := ck HB hE__; (try replace HG4 := ck HG4 hE__); (try replace HG5 := ck HG5 hE__); (try replace HG6 := ck HG6 hE__); (try replace HA := ck HA hE__); clear hE__ hb__; have HG4 := Lib.hid hg__; clear hg__ he__; simp only [PT])
      | ((with_reducible refine sl 5 ?_); go_must (refine wpL_boxG rfl 28 (.tmp 1) rfl b.cells.toArray rfl ?_); intro wb5 g5 he__ le_5 lt_5 hg__ hb__; have hE__ := cU HB bup hb__; replace HB := ck HB hE__; (try replace HG4 := ck HG4 hE__); (try replace HG5 := ck HG5 hE__); (try replace HG6 := ck HG6 hE__); (try replace HA := ck HA hE__); clear hE__ hb__; have HG5 := Lib.hid hg__; clear hg__ he__; simp only [PT])
      | ((with_reducible refine sl 6 ?_); go_must (refine wpL_boxG rfl 22 (.tmp 2) rfl (BV kb).toArray rfl ?_); intro wb6 g6 he__ le_6 lt_6 hg__ hb__; have hE__ := cU HB bup hb__; replace HB := ck HB hE__; (try replace HG4 := ck HG4 hE__); (try replace HG5 := ck HG5 hE__); (try replace HG6 := ck HG6 hE__); (try replace HA := ck HA hE__); clear hE__ hb__; have HG6 := Lib.hid hg__; clear hg__ he__; simp only [PT])
      | (go_at_call 10; go_must (refine (awake_any _).mono ?_); rintro e wa ⟨rfl, hb__⟩; have hE__ := cU HB bup hb__; replace HB := ck HB hE__; (try replace HG4 := ck HG4 hE__); (try replace HG5 := ck HG5 hE__); (try replace HG6 := ck HG6 hE__); (try replace HA := ck HA hE__); clear hE__ hb__)
      | ((with_reducible refine sl 15 ?_); go_must (refine wpL_loadF rfl 9 (.tmp 14) rfl g4 37 rfl (.string a.name) HG4.out HAA.out.1 Try.underlying9 rfl ?_); simp only [PT])
      | ((with_reducible refine sl 21 ?_); go_must (refine wpL_loadF rfl 9 (.tmp 20) rfl g5 37 rfl (.string b.name) HG5.out HAB.out.1 Try.underlying9 rfl ?_); simp only [PT])
      | ((with_reducible refine sl 27 ?_); go_must (refine wpL_load rfl 22 (.tmp 6) rfl g6 0 rfl (BV kb) _ (range_block HG6.out) Try.underlying22 rfl HIK.out ?_); simp only [PT]))
    go_ret
    exact ⟨rfl, HB.out⟩
  have d1 : decide ((200 : Int) < (a.name.size : Int)) = false := decide_eq_false (by omega)
  have d2 : decide (200 < a.name.size) = false := decide_eq_false (by omega)
  rcases Nat.lt_or_ge 200 b.name.size with h2 | h2
  · have d3 : decide ((200 : Int) < (b.name.size : Int)) = true := decide_eq_true (by omega)
    have d4 : decide (200 < b.name.size) = true := decide_eq_true (by omega)
    go_wp2_with (first
      | ((with_reducible refine sl 4 ?_); go_must (refine wpL_boxG rfl 28 (.tmp 0) rfl a.cells.toArray rfl ?_); intro wb4 g4 he__ le_4 lt_4 hg__ hb__; have hE__ := cU HB bup hb__; replace HB := ck HB hE__; (try replace HG4 := ck HG4 hE__); (try replace HG5 := ck HG5 hE__); (try replace HG6 := ck HG6 hE__); (try replace HA := ck HA hE__); clear hE__ hb__; have HG4 := Lib.hid hg__; clear hg__ he__; simp only [PT])
      | ((with_reducible refine sl 5 ?_); go_must (refine wpL_boxG rfl 28 (.tmp 1) rfl b.cells.toArray rfl ?_); intro wb5 g5 he__ le_5 lt_5 hg__ hb__; have hE__ := cU HB bup hb__; replace HB := ck HB hE__; (try replace HG4 := ck HG4 hE__); (try replace HG5 := ck HG5 hE__); (try replace HG6 := ck HG6 hE__); (try replace HA := ck HA hE__); clear hE__ hb__; have HG5 := Lib.hid hg__; clear hg__ he__; simp only [PT])
      | ((with_reducible refine sl 6 ?_); go_must (refine wpL_boxG rfl 22 (.tmp 2) rfl (BV kb).toArray rfl ?_); intro wb6 g6 he__ le_6 lt_6 hg__ hb__; have hE__ := cU HB bup hb__; replace HB := ck HB hE__; (try replace HG4 := ck HG4 hE__); (try replace HG5 := ck HG5 hE__); (try replace HG6 := ck HG6 hE__); (try replace HA := ck HA hE__); clear hE__ hb__; have HG6 := Lib.hid hg__; clear hg__ he__; simp only [PT])
      | (go_at_call 10; go_must (refine (awake_any _).mono ?_); rintro e wa ⟨rfl, hb__⟩; have hE__ := cU HB bup hb__; replace HB := ck HB hE__; (try replace HG4 := ck HG4 hE__); (try replace HG5 := ck HG5 hE__); (try replace HG6 := ck HG6 hE__); (try replace HA := ck HA hE__); clear hE__ hb__)
      | ((with_reducible refine sl 15 ?_); go_must (refine wpL_loadF rfl 9 (.tmp 14) rfl g4 37 rfl (.string a.name) HG4.out HAA.out.1 Try.underlying9 rfl ?_); simp only [PT])
      | ((with_reducible refine sl 21 ?_); go_must (refine wpL_loadF rfl 9 (.tmp 20) rfl g5 37 rfl (.string b.name) HG5.out HAB.out.1 Try.underlying9 rfl ?_); simp only [PT])
      | ((with_reducible refine sl 27 ?_); go_must (refine wpL_load rfl 22 (.tmp 6) rfl g6 0 rfl (BV kb) _ (range_block HG6.out) Try.underlying22 rfl HIK.out ?_); simp only [PT]))
    go_ret
    exact ⟨rfl, HB.out⟩
  have d3 : decide ((200 : Int) < (b.name.size : Int)) = false := decide_eq_false (by omega)
  have d4 : decide (200 < b.name.size) = false := decide_eq_false (by omega)
  have HO := Lib.hid (show a.ok ∧ b.ok ∧ a.name.size ≤ 140737488351232 ∧ b.name.size ≤ 140737488351232 from ⟨oa, ob, by omega, by omega⟩)
  clear oa ob hk
  go_wp2_with (first
    | ((with_reducible refine sl 4 ?_); go_must (refine wpL_boxG rfl 28 (.tmp 0) rfl a.cells.toArray rfl ?_); intro wb4 g4 he__ le_4 lt_4 hg__ hb__; have hE__ := cU HB bup hb__; replace HB := ck HB hE__; (try replace HG4 := ck HG4 hE__); (try replace HG5 := ck HG5 hE__); (try replace HG6 := ck HG6 hE__); (try replace HA := ck HA hE__); clear hE__ hb__; have HG4 := Lib.hid hg__; clear hg__ he__; simp only [PT])
    | ((with_reducible refine sl 5 ?_); go_must (refine wpL_boxG rfl 28 (.tmp 1) rfl b.cells.toArray rfl ?_); intro wb5 g5 he__ le_5 lt_5 hg__ hb__; have hE__ := cU HB bup hb__; replace HB := ck HB hE__; (try replace HG4 := ck HG4 hE__); (try replace HG5 := ck HG5 hE__); (try replace HG6 := ck HG6 hE__); (try replace HA := ck HA hE__); clear hE__ hb__; have HG5 := Lib.hid hg__; clear hg__ he__; simp only [PT])
    | ((with_reducible refine sl 6 ?_); go_must (refine wpL_boxG rfl 22 (.tmp 2) rfl (BV kb).toArray rfl ?_); intro wb6 g6 he__ le_6 lt_6 hg__ hb__; have hE__ := cU HB bup hb__; replace HB := ck HB hE__; (try replace HG4 := ck HG4 hE__); (try replace HG5 := ck HG5 hE__); (try replace HG6 := ck HG6 hE__); (try replace HA := ck HA hE__); clear hE__ hb__; have HG6 := Lib.hid hg__; clear hg__ he__; simp only [PT])
    | (go_at_call 10; go_must (refine (awake_any _).mono ?_); rintro e wa ⟨rfl, hb__⟩; have hE__ := cU HB bup hb__; replace HB := ck HB hE__; (try replace HG4 := ck HG4 hE__); (try replace HG5 := ck HG5 hE__); (try replace HG6 := ck HG6 hE__); (try replace HA := ck HA hE__); clear hE__ hb__)
    | ((with_reducible refine sl 15 ?_); go_must (refine wpL_loadF rfl 9 (.tmp 14) rfl g4 37 rfl (.string a.name) HG4.out HAA.out.1 Try.underlying9 rfl ?_); simp only [PT])
    | ((with_reducible refine sl 21 ?_); go_must (refine wpL_loadF rfl 9 (.tmp 20) rfl g5 37 rfl (.string b.name) HG5.out HAB.out.1 Try.underlying9 rfl ?_); simp only [PT])
    | ((with_reducible refine sl 27 ?_); go_must (refine wpL_load rfl 22 (.tmp 6) rfl g6 0 rfl (BV kb) _ (range_block HG6.out) Try.underlying22 rfl HIK.out ?_); simp only [PT]))
  clear d1 d2 d3 d4 h1 h2 HAA HAB
  go_at_call 11
  (with_reducible show Calls _ _ #[_, .int .i64 n] _ _)
  refine (new_any kb HK.out n _).mono ?_
  rintro e w4 ⟨hn, hb__⟩
  have HA := Lib.hid (show FrA g4 g5 a b _ from ⟨HG4.out, HG5.out⟩)
  clear HG4 HG5 HG6
  have hE__ := cU HB bup hb__; replace HB := ck HB hE__; (try replace HG4 := ck HG4 hE__); (try replace HG5 := ck HG5 hE__); (try replace HG6 := ck HG6 hE__); (try replace HA := ck HA hE__); clear hE__ hb__
  rcases hn with ⟨hr, rfl⟩ | ⟨n1, n2, p, q, m, rfl, ht, _, _⟩
  · rcases hr with hr | hr
    · have d1 : decide ((1 : Int) ≤ n) = false := decide_eq_false (by omega)
      go_wp2_with fail
      clear d1
      refine wp_region_held_drew (S := fun u__ => FrA g4 g5 a b u__) (by kernel_rfl) ?_ (fun hHeld => ?_)
      focus (exact HA.out)
      refine' tk 0 (oi := ⟨some 66, _, _, _, _, _⟩) (v := _) rfl (by kernel_rfl) (yieldsIf_load_mid (by rfl) _ _ rfl _ _ rfl (a.cells) _ (fun _ h => range_block h.1) (Try.underlying28) rfl (HIa.out)) hHeld ?_
      simp only [PT]
      refine' tk 2 (oi := ⟨some 68, _, _, _, _, _⟩) (v := _) rfl (by kernel_rfl) (yieldsIf_load_mid (by rfl) _ _ rfl _ _ rfl (a.cells) _ (fun _ h => range_block h.1) (Try.underlying28) rfl (HIa.out)) hHeld ?_
      simp only [PT]
      refine wpAnyH_ready (rs := [1]) (by kernel_rfl) (by simp) ?_
      refine (AllReadyH.cons (o := ⟨some 67, _, _, _, _, _⟩) rfl (fun K hK => ?_) AllReadyH.nil)
      focus (first | (refine skip_step ?_ ?_; focus (rfl)) | (go_simp; go_must (refine (right_any a HO.out.1 HO.out.2.2.1 _).mono ?_); rintro e w5 ⟨rfl, hb__⟩; have hE__ := cU HB bup hb__; replace HB := ck HB hE__; (try replace HG4 := ck HG4 hE__); (try replace HG5 := ck HG5 hE__); (try replace HG6 := ck HG6 hE__); (try replace HA := ck HA hE__); clear hE__ hb__; go_wp2_with fail))
      refine hK.out _ _ ?_ (fun hHeld => ?_)
      focus (exact HA.out)
      clear hK K
      try simp only [PT]
      refine wpAnyH_ready (rs := [3]) (by kernel_rfl) (by simp) ?_
      refine (AllReadyH.cons (o := ⟨some 69, _, _, _, _, _⟩) rfl (fun K hK => ?_) AllReadyH.nil)
      focus (first | (refine skip_step ?_ ?_; focus (rfl)) | (go_simp; go_must (refine (refRight_any a HO.out.1 HO.out.2.2.1 _).mono ?_); rintro e w5 ⟨rfl, hb__⟩; have hE__ := cU HB bup hb__; replace HB := ck HB hE__; (try replace HG4 := ck HG4 hE__); (try replace HG5 := ck HG5 hE__); (try replace HG6 := ck HG6 hE__); (try replace HA := ck HA hE__); clear hE__ hb__; go_wp2_with fail))
      refine hK.out _ _ ?_ (fun hHeld => ?_)
      focus (exact HA.out)
      clear hK K
      try simp only [PT]
      refine' tk 4 (oi := ⟨some 70, _, _, _, _, _⟩) (v := (.bool false)) rfl (by kernel_rfl) (.inl ⟨by rfl, ?_⟩) hHeld ?_; focus (intro w hSw; (try dsimp only at hSw); go_simp; first | done | rfl | (simp [*]; done) | (simp [*]; omega))
      simp only [PT]
      refine tk 5 (oi := ⟨some 71, _, _, _, _, _⟩) (v := ?_) rfl (by kernel_rfl) (.inl ⟨by rfl, ?_⟩) hHeld ?_; rotate_left; focus (intro w hSw; (try dsimp only at hSw); go_simp; try with_reducible rfl)
      simp only [PT]
      first | (refine tk 6 (oi := ⟨some 72, _, _, _, _, _⟩) (v := undef) rfl (by kernel_rfl) (.inr ⟨by rfl, rfl⟩) hHeld ?_) | (refine' tk 6 (oi := ⟨some 72, _, _, _, _, _⟩) (v := _) rfl (by kernel_rfl) (yieldsIf_load_mid (by rfl) _ _ rfl _ _ rfl (b.cells) _ (fun _ h => range_block h.2) (Try.underlying28) rfl (HIb.out)) hHeld ?_)
      simp only [PT]
      first | (refine tk 8 (oi := ⟨some 74, _, _, _, _, _⟩) (v := undef) rfl (by kernel_rfl) (.inr ⟨by rfl, rfl⟩) hHeld ?_) | (refine' tk 8 (oi := ⟨some 74, _, _, _, _, _⟩) (v := _) rfl (by kernel_rfl) (yieldsIf_load_mid (by rfl) _ _ rfl _ _ rfl (b.cells) _ (fun _ h => range_block h.2) (Try.underlying28) rfl (HIb.out)) hHeld ?_)
      simp only [PT]
      refine wpAnyH_ready (rs := [7]) (by kernel_rfl) (by simp) ?_
      refine (AllReadyH.cons (o := ⟨some 73, _, _, _, _, _⟩) rfl (fun K hK => ?_) AllReadyH.nil)
      focus (first | (refine skip_step ?_ ?_; focus (rfl)) | (go_simp; go_must (refine (right_any b HO.out.2.1 HO.out.2.2.2 _).mono ?_); rintro e w5 ⟨rfl, hb__⟩; have hE__ := cU HB bup hb__; replace HB := ck HB hE__; (try replace HG4 := ck HG4 hE__); (try replace HG5 := ck HG5 hE__); (try replace HG6 := ck HG6 hE__); (try replace HA := ck HA hE__); clear hE__ hb__; go_wp2_with fail))
      refine hK.out _ _ ?_ (fun hHeld => ?_)
      focus (exact HA.out)
      clear hK K
      try simp only [PT]
      refine wpAnyH_ready (rs := [9]) (by kernel_rfl) (by simp) ?_
      refine (AllReadyH.cons (o := ⟨some 75, _, _, _, _, _⟩) rfl (fun K hK => ?_) AllReadyH.nil)
      focus (first | (refine skip_step ?_ ?_; focus (rfl)) | (go_simp; go_must (refine (refRight_any b HO.out.2.1 HO.out.2.2.2 _).mono ?_); rintro e w5 ⟨rfl, hb__⟩; have hE__ := cU HB bup hb__; replace HB := ck HB hE__; (try replace HG4 := ck HG4 hE__); (try replace HG5 := ck HG5 hE__); (try replace HG6 := ck HG6 hE__); (try replace HA := ck HA hE__); clear hE__ hb__; go_wp2_with fail))
      refine hK.out _ _ ?_ (fun hHeld => ?_)
      focus (exact HA.out)
      clear hK K
      try simp only [PT]
      first | (refine tk 10 (oi := ⟨some 76, _, _, _, _, _⟩) (v := undef) rfl (by kernel_rfl) (.inr ⟨by rfl, rfl⟩) hHeld ?_) | (refine' tk 10 (oi := ⟨some 76, _, _, _, _, _⟩) (v := (.bool false)) rfl (by kernel_rfl) (.inl ⟨by rfl, ?_⟩) hHeld ?_; focus (intro w hSw; (try dsimp only at hSw); go_simp; first | done | rfl | (simp [*]; done) | (simp [*]; omega)))
      simp only [PT]
      refine tk 11 (oi := ⟨some 77, _, _, _, _, _⟩) (v := ?_) rfl (by kernel_rfl) (.inl ⟨by rfl, ?_⟩) hHeld ?_; rotate_left; focus (intro w hSw; (try dsimp only at hSw); go_simp; try with_reducible rfl)
      simp only [PT]
      refine wpAnyH_done (by kernel_rfl) ?_ _
      go_wp2_with fail
      rcases two (rightF a) with ha | ha
      · rcases two (rightF b) with hb | hb
        · have HRa := Lib.hid ha
          have HRb := Lib.hid hb
          refine wp_region_held_drew (S := fun u__ => FrA g4 g5 a b u__) (by kernel_rfl) ?_ (fun hHeld => ?_)
          focus (exact HA.out)
          refine' tk 0 (oi := ⟨some 78, _, _, _, _, _⟩) (v := _) rfl (by kernel_rfl) (yieldsIf_load_mid (by rfl) _ _ rfl _ _ rfl (a.cells) _ (fun _ h => range_block h.1) (Try.underlying28) rfl (HIa.out)) hHeld ?_
          simp only [PT]
          refine wpAnyH_ready (rs := [1]) (by kernel_rfl) (by simp) ?_
          refine (AllReadyH.cons (o := ⟨some 79, _, _, _, _, _⟩) rfl (fun K hK => ?_) AllReadyH.nil)
          focus (first | (refine skip_step ?_ ?_; focus (rfl)) | (go_simp; go_must (refine (refRight_any a HO.out.1 HO.out.2.2.1 _).mono ?_); rw [ha]; rintro e w5 ⟨rfl, hb__⟩; have hE__ := cU HB bup hb__; replace HB := ck HB hE__; (try replace HG4 := ck HG4 hE__); (try replace HG5 := ck HG5 hE__); (try replace HG6 := ck HG6 hE__); (try replace HA := ck HA hE__); clear hE__ hb__; go_wp2_with fail))
          refine hK.out _ _ ?_ (fun hHeld => ?_)
          focus (exact HA.out)
          clear hK K
          try simp only [PT]
          refine tk 2 (oi := ⟨some 80, _, _, _, _, _⟩) (v := ?_) rfl (by kernel_rfl) (.inl ⟨by rfl, ?_⟩) hHeld ?_; rotate_left; focus (intro w hSw; (try dsimp only at hSw); go_simp; try with_reducible rfl)
          simp only [PT]
          refine tk 3 (oi := ⟨some 81, _, _, _, _, _⟩) (v := ?_) rfl (by kernel_rfl) (.inl ⟨by rfl, ?_⟩) hHeld ?_; rotate_left; focus (intro w hSw; (try dsimp only at hSw); go_simp; try with_reducible rfl)
          simp only [PT]
          first | (refine tk 4 (oi := ⟨some 82, _, _, _, _, _⟩) (v := undef) rfl (by kernel_rfl) (.inr ⟨by rfl, rfl⟩) hHeld ?_) | (refine' tk 4 (oi := ⟨some 82, _, _, _, _, _⟩) (v := _) rfl (by kernel_rfl) (yieldsIf_load_mid (by rfl) _ _ rfl _ _ rfl (b.cells) _ (fun _ h => range_block h.2) (Try.underlying28) rfl (HIb.out)) hHeld ?_)
          simp only [PT]
          refine wpAnyH_ready (rs := [5]) (by kernel_rfl) (by simp) ?_
          refine (AllReadyH.cons (o := ⟨some 83, _, _, _, _, _⟩) rfl (fun K hK => ?_) AllReadyH.nil)
          focus (first | (refine skip_step ?_ ?_; focus (rfl)) | (go_simp; go_must (refine (refRight_any b HO.out.2.1 HO.out.2.2.2 _).mono ?_); rw [hb]; rintro e w5 ⟨rfl, hb__⟩; have hE__ := cU HB bup hb__; replace HB := ck HB hE__; (try replace HG4 := ck HG4 hE__); (try replace HG5 := ck HG5 hE__); (try replace HG6 := ck HG6 hE__); (try replace HA := ck HA hE__); clear hE__ hb__; go_wp2_with fail))
          refine hK.out _ _ ?_ (fun hHeld => ?_)
          focus (exact HA.out)
          clear hK K
          try simp only [PT]
          first | (refine tk 6 (oi := ⟨some 84, _, _, _, _, _⟩) (v := undef) rfl (by kernel_rfl) (.inr ⟨by rfl, rfl⟩) hHeld ?_) | (refine tk 6 (oi := ⟨some 84, _, _, _, _, _⟩) (v := ?_) rfl (by kernel_rfl) (.inl ⟨by rfl, ?_⟩) hHeld ?_; rotate_left; focus (intro w hSw; (try dsimp only at hSw); go_simp; try with_reducible rfl))
          simp only [PT]
          refine tk 7 (oi := ⟨some 85, _, _, _, _, _⟩) (v := ?_) rfl (by kernel_rfl) (.inl ⟨by rfl, ?_⟩) hHeld ?_; rotate_left; focus (intro w hSw; (try dsimp only at hSw); go_simp; try with_reducible rfl)
          simp only [PT]
          refine tk 8 (oi := ⟨some 86, _, _, _, _, _⟩) (v := ?_) rfl (by kernel_rfl) (.inl ⟨by rfl, ?_⟩) hHeld ?_; rotate_left; focus (intro w hSw; (try dsimp only at hSw); go_simp; try with_reducible rfl)
          simp only [PT]
          first | (refine tk 9 (oi := ⟨some 87, _, _, _, _, _⟩) (v := undef) rfl (by kernel_rfl) (.inr ⟨by rfl, rfl⟩) hHeld ?_) | (refine' tk 9 (oi := ⟨some 87, _, _, _, _, _⟩) (v := _) rfl (by kernel_rfl) (yieldsIf_load_mid (by rfl) _ _ rfl _ _ rfl (a.cells) _ (fun _ h => range_block h.1) (Try.underlying28) rfl (HIa.out)) hHeld ?_)
          simp only [PT]
          first | (refine tk 10 (oi := ⟨some 88, _, _, _, _, _⟩) (v := undef) rfl (by kernel_rfl) (.inr ⟨by rfl, rfl⟩) hHeld ?_) | (refine' tk 10 (oi := ⟨some 88, _, _, _, _, _⟩) (v := _) rfl (by kernel_rfl) (yieldsIf_load_mid (by rfl) _ _ rfl _ _ rfl (b.cells) _ (fun _ h => range_block h.2) (Try.underlying28) rfl (HIb.out)) hHeld ?_)
          simp only [PT]
          first | (refine tk 12 (oi := ⟨some 90, _, _, _, _, _⟩) (v := undef) rfl (by kernel_rfl) (.inr ⟨by rfl, rfl⟩) hHeld ?_) | (refine' tk 12 (oi := ⟨some 90, _, _, _, _, _⟩) (v := _) rfl (by kernel_rfl) (yieldsIf_load_mid (by rfl) _ _ rfl _ _ rfl (a.cells) _ (fun _ h => range_block h.1) (Try.underlying28) rfl (HIa.out)) hHeld ?_)
          simp only [PT]
          first | (refine tk 13 (oi := ⟨some 91, _, _, _, _, _⟩) (v := undef) rfl (by kernel_rfl) (.inr ⟨by rfl, rfl⟩) hHeld ?_) | (refine' tk 13 (oi := ⟨some 91, _, _, _, _, _⟩) (v := _) rfl (by kernel_rfl) (yieldsIf_load_mid (by rfl) _ _ rfl _ _ rfl (b.cells) _ (fun _ h => range_block h.2) (Try.underlying28) rfl (HIb.out)) hHeld ?_)
          simp only [PT]
          refine wpAnyH_ready (rs := [11]) (by kernel_rfl) (by simp) ?_
          refine (AllReadyH.cons (o := ⟨some 89, _, _, _, _, _⟩) rfl (fun K hK => ?_) AllReadyH.nil)
          focus (first | (refine skip_step ?_ ?_; focus (rfl)) | (go_simp; go_must (refine (older_any a b HOa.out HOb.out (right_no HRa.out) (right_no HRb.out) _).mono ?_); rintro e w5 ⟨rfl, hb__⟩; have hE__ := cU HB bup hb__; replace HB := ck HB hE__; (try replace HG4 := ck HG4 hE__); (try replace HG5 := ck HG5 hE__); (try replace HG6 := ck HG6 hE__); (try replace HA := ck HA hE__); clear hE__ hb__; go_wp2_with fail))
          refine hK.out _ _ ?_ (fun hHeld => ?_)
          focus (exact HA.out)
          clear hK K
          try simp only [PT]
          refine wpAnyH_ready (rs := [14]) (by kernel_rfl) (by simp) ?_
          refine (AllReadyH.cons (o := ⟨some 92, _, _, _, _, _⟩) rfl (fun K hK => ?_) AllReadyH.nil)
          focus (first | (refine skip_step ?_ ?_; focus (rfl)) | (go_simp; go_must (refine (refOlder_any a b HOa.out HOb.out (right_fit HRa.out) (right_fit HRb.out) _).mono ?_); rintro e w5 ⟨rfl, hb__⟩; have hE__ := cU HB bup hb__; replace HB := ck HB hE__; (try replace HG4 := ck HG4 hE__); (try replace HG5 := ck HG5 hE__); (try replace HG6 := ck HG6 hE__); (try replace HA := ck HA hE__); clear hE__ hb__; go_wp2_with fail))
          refine hK.out _ _ ?_ (fun hHeld => ?_)
          focus (exact HA.out)
          clear hK K
          try simp only [PT]
          first | (refine tk 15 (oi := ⟨some 93, _, _, _, _, _⟩) (v := undef) rfl (by kernel_rfl) (.inr ⟨by rfl, rfl⟩) hHeld ?_) | (refine' tk 15 (oi := ⟨some 93, _, _, _, _, _⟩) (v := (.bool true)) rfl (by kernel_rfl) (.inl ⟨by rfl, ?_⟩) hHeld ?_; focus (intro w hSw; (try dsimp only at hSw); go_simp; first | done | rfl | (simp [*]; done) | (simp [*]; omega)))
          simp only [PT]
          first | (refine tk 16 (oi := ⟨some 94, _, _, _, _, _⟩) (v := undef) rfl (by kernel_rfl) (.inr ⟨by rfl, rfl⟩) hHeld ?_) | (refine tk 16 (oi := ⟨some 94, _, _, _, _, _⟩) (v := ?_) rfl (by kernel_rfl) (.inl ⟨by rfl, ?_⟩) hHeld ?_; rotate_left; focus (intro w hSw; (try dsimp only at hSw); go_simp; try with_reducible rfl))
          simp only [PT]
          first | (refine tk 17 (oi := ⟨some 95, _, _, _, _, _⟩) (v := undef) rfl (by kernel_rfl) (.inr ⟨by rfl, rfl⟩) hHeld ?_) | (refine' tk 17 (oi := ⟨some 95, _, _, _, _, _⟩) (v := _) rfl (by kernel_rfl) (yieldsIf_load_mid (by rfl) _ _ rfl _ _ rfl (b.cells) _ (fun _ h => range_block h.2) (Try.underlying28) rfl (HIb.out)) hHeld ?_)
          simp only [PT]
          first | (refine tk 18 (oi := ⟨some 96, _, _, _, _, _⟩) (v := undef) rfl (by kernel_rfl) (.inr ⟨by rfl, rfl⟩) hHeld ?_) | (refine' tk 18 (oi := ⟨some 96, _, _, _, _, _⟩) (v := _) rfl (by kernel_rfl) (yieldsIf_load_mid (by rfl) _ _ rfl _ _ rfl (a.cells) _ (fun _ h => range_block h.1) (Try.underlying28) rfl (HIa.out)) hHeld ?_)
          simp only [PT]
          first | (refine tk 20 (oi := ⟨some 98, _, _, _, _, _⟩) (v := undef) rfl (by kernel_rfl) (.inr ⟨by rfl, rfl⟩) hHeld ?_) | (refine' tk 20 (oi := ⟨some 98, _, _, _, _, _⟩) (v := _) rfl (by kernel_rfl) (yieldsIf_load_mid (by rfl) _ _ rfl _ _ rfl (b.cells) _ (fun _ h => range_block h.2) (Try.underlying28) rfl (HIb.out)) hHeld ?_)
          simp only [PT]
          first | (refine tk 21 (oi := ⟨some 99, _, _, _, _, _⟩) (v := undef) rfl (by kernel_rfl) (.inr ⟨by rfl, rfl⟩) hHeld ?_) | (refine' tk 21 (oi := ⟨some 99, _, _, _, _, _⟩) (v := _) rfl (by kernel_rfl) (yieldsIf_load_mid (by rfl) _ _ rfl _ _ rfl (a.cells) _ (fun _ h => range_block h.1) (Try.underlying28) rfl (HIa.out)) hHeld ?_)
          simp only [PT]
          refine wpAnyH_ready (rs := [19]) (by kernel_rfl) (by simp) ?_
          refine (AllReadyH.cons (o := ⟨some 97, _, _, _, _, _⟩) rfl (fun K hK => ?_) AllReadyH.nil)
          focus (first | (refine skip_step ?_ ?_; focus (rfl)) | (go_simp; go_must (refine (older_any b a HOb.out HOa.out (right_no HRb.out) (right_no HRa.out) _).mono ?_); rintro e w5 ⟨rfl, hb__⟩; have hE__ := cU HB bup hb__; replace HB := ck HB hE__; (try replace HG4 := ck HG4 hE__); (try replace HG5 := ck HG5 hE__); (try replace HG6 := ck HG6 hE__); (try replace HA := ck HA hE__); clear hE__ hb__; go_wp2_with fail))
          refine hK.out _ _ ?_ (fun hHeld => ?_)
          focus (exact HA.out)
          clear hK K
          try simp only [PT]
          refine wpAnyH_ready (rs := [22]) (by kernel_rfl) (by simp) ?_
          refine (AllReadyH.cons (o := ⟨some 100, _, _, _, _, _⟩) rfl (fun K hK => ?_) AllReadyH.nil)
          focus (first | (refine skip_step ?_ ?_; focus (rfl)) | (go_simp; go_must (refine (refOlder_any b a HOb.out HOa.out (right_fit HRb.out) (right_fit HRa.out) _).mono ?_); rintro e w5 ⟨rfl, hb__⟩; have hE__ := cU HB bup hb__; replace HB := ck HB hE__; (try replace HG4 := ck HG4 hE__); (try replace HG5 := ck HG5 hE__); (try replace HG6 := ck HG6 hE__); (try replace HA := ck HA hE__); clear hE__ hb__; go_wp2_with fail))
          refine hK.out _ _ ?_ (fun hHeld => ?_)
          focus (exact HA.out)
          clear hK K
          try simp only [PT]
          first | (refine tk 23 (oi := ⟨some 101, _, _, _, _, _⟩) (v := undef) rfl (by kernel_rfl) (.inr ⟨by rfl, rfl⟩) hHeld ?_) | (refine' tk 23 (oi := ⟨some 101, _, _, _, _, _⟩) (v := (.bool true)) rfl (by kernel_rfl) (.inl ⟨by rfl, ?_⟩) hHeld ?_; focus (intro w hSw; (try dsimp only at hSw); go_simp; first | done | rfl | (simp [*]; done) | (simp [*]; omega)))
          simp only [PT]
          first | (refine tk 24 (oi := ⟨some 102, _, _, _, _, _⟩) (v := undef) rfl (by kernel_rfl) (.inr ⟨by rfl, rfl⟩) hHeld ?_) | (refine tk 24 (oi := ⟨some 102, _, _, _, _, _⟩) (v := ?_) rfl (by kernel_rfl) (.inl ⟨by rfl, ?_⟩) hHeld ?_; rotate_left; focus (intro w hSw; (try dsimp only at hSw); go_simp; try with_reducible rfl))
          simp only [PT]
          refine tk 25 (oi := ⟨some 103, _, _, _, _, _⟩) (v := ?_) rfl (by kernel_rfl) (.inl ⟨by rfl, ?_⟩) hHeld ?_; rotate_left; focus (intro w hSw; (try dsimp only at hSw); go_simp; try with_reducible rfl)
          simp only [PT]
          refine tk 26 (oi := ⟨some 8, _, _, _, _, _⟩) (v := ?_) rfl (by kernel_rfl) (.inl ⟨by rfl, ?_⟩) hHeld ?_; rotate_left; focus (intro w hSw; (try dsimp only at hSw); go_simp; try with_reducible rfl)
          simp only [PT]
          refine wpAnyH_done (by kernel_rfl) ?_ _
          go_wp2
          go_ret
          exact ⟨rfl, HB.out⟩
        ·
          refine wp_region_held_drew (S := fun u__ => FrA g4 g5 a b u__) (by kernel_rfl) ?_ (fun hHeld => ?_)
          focus (exact HA.out)
          refine' tk 0 (oi := ⟨some 78, _, _, _, _, _⟩) (v := _) rfl (by kernel_rfl) (yieldsIf_load_mid (by rfl) _ _ rfl _ _ rfl (a.cells) _ (fun _ h => range_block h.1) (Try.underlying28) rfl (HIa.out)) hHeld ?_
          simp only [PT]
          refine wpAnyH_ready (rs := [1]) (by kernel_rfl) (by simp) ?_
          refine (AllReadyH.cons (o := ⟨some 79, _, _, _, _, _⟩) rfl (fun K hK => ?_) AllReadyH.nil)
          focus (first | (refine skip_step ?_ ?_; focus (rfl)) | (go_simp; go_must (refine (refRight_any a HO.out.1 HO.out.2.2.1 _).mono ?_); rw [ha]; rintro e w5 ⟨rfl, hb__⟩; have hE__ := cU HB bup hb__; replace HB := ck HB hE__; (try replace HG4 := ck HG4 hE__); (try replace HG5 := ck HG5 hE__); (try replace HG6 := ck HG6 hE__); (try replace HA := ck HA hE__); clear hE__ hb__; go_wp2_with fail))
          refine hK.out _ _ ?_ (fun hHeld => ?_)
          focus (exact HA.out)
          clear hK K
          try simp only [PT]
          refine tk 2 (oi := ⟨some 80, _, _, _, _, _⟩) (v := ?_) rfl (by kernel_rfl) (.inl ⟨by rfl, ?_⟩) hHeld ?_; rotate_left; focus (intro w hSw; (try dsimp only at hSw); go_simp; try with_reducible rfl)
          simp only [PT]
          refine tk 3 (oi := ⟨some 81, _, _, _, _, _⟩) (v := ?_) rfl (by kernel_rfl) (.inl ⟨by rfl, ?_⟩) hHeld ?_; rotate_left; focus (intro w hSw; (try dsimp only at hSw); go_simp; try with_reducible rfl)
          simp only [PT]
          first | (refine tk 4 (oi := ⟨some 82, _, _, _, _, _⟩) (v := undef) rfl (by kernel_rfl) (.inr ⟨by rfl, rfl⟩) hHeld ?_) | (refine' tk 4 (oi := ⟨some 82, _, _, _, _, _⟩) (v := _) rfl (by kernel_rfl) (yieldsIf_load_mid (by rfl) _ _ rfl _ _ rfl (b.cells) _ (fun _ h => range_block h.2) (Try.underlying28) rfl (HIb.out)) hHeld ?_)
          simp only [PT]
          refine wpAnyH_ready (rs := [5]) (by kernel_rfl) (by simp) ?_
          refine (AllReadyH.cons (o := ⟨some 83, _, _, _, _, _⟩) rfl (fun K hK => ?_) AllReadyH.nil)
          focus (first | (refine skip_step ?_ ?_; focus (rfl)) | (go_simp; go_must (refine (refRight_any b HO.out.2.1 HO.out.2.2.2 _).mono ?_); rw [hb]; rintro e w5 ⟨rfl, hb__⟩; have hE__ := cU HB bup hb__; replace HB := ck HB hE__; (try replace HG4 := ck HG4 hE__); (try replace HG5 := ck HG5 hE__); (try replace HG6 := ck HG6 hE__); (try replace HA := ck HA hE__); clear hE__ hb__; go_wp2_with fail))
          refine hK.out _ _ ?_ (fun hHeld => ?_)
          focus (exact HA.out)
          clear hK K
          try simp only [PT]
          first | (refine tk 6 (oi := ⟨some 84, _, _, _, _, _⟩) (v := undef) rfl (by kernel_rfl) (.inr ⟨by rfl, rfl⟩) hHeld ?_) | (refine tk 6 (oi := ⟨some 84, _, _, _, _, _⟩) (v := ?_) rfl (by kernel_rfl) (.inl ⟨by rfl, ?_⟩) hHeld ?_; rotate_left; focus (intro w hSw; (try dsimp only at hSw); go_simp; try with_reducible rfl))
          simp only [PT]
          refine tk 7 (oi := ⟨some 85, _, _, _, _, _⟩) (v := ?_) rfl (by kernel_rfl) (.inl ⟨by rfl, ?_⟩) hHeld ?_; rotate_left; focus (intro w hSw; (try dsimp only at hSw); go_simp; try with_reducible rfl)
          simp only [PT]
          refine tk 8 (oi := ⟨some 86, _, _, _, _, _⟩) (v := ?_) rfl (by kernel_rfl) (.inl ⟨by rfl, ?_⟩) hHeld ?_; rotate_left; focus (intro w hSw; (try dsimp only at hSw); go_simp; try with_reducible rfl)
          simp only [PT]
          first | (refine tk 9 (oi := ⟨some 87, _, _, _, _, _⟩) (v := undef) rfl (by kernel_rfl) (.inr ⟨by rfl, rfl⟩) hHeld ?_) | (refine' tk 9 (oi := ⟨some 87, _, _, _, _, _⟩) (v := _) rfl (by kernel_rfl) (yieldsIf_load_mid (by rfl) _ _ rfl _ _ rfl (a.cells) _ (fun _ h => range_block h.1) (Try.underlying28) rfl (HIa.out)) hHeld ?_)
          simp only [PT]
          first | (refine tk 10 (oi := ⟨some 88, _, _, _, _, _⟩) (v := undef) rfl (by kernel_rfl) (.inr ⟨by rfl, rfl⟩) hHeld ?_) | (refine' tk 10 (oi := ⟨some 88, _, _, _, _, _⟩) (v := _) rfl (by kernel_rfl) (yieldsIf_load_mid (by rfl) _ _ rfl _ _ rfl (b.cells) _ (fun _ h => range_block h.2) (Try.underlying28) rfl (HIb.out)) hHeld ?_)
          simp only [PT]
          first | (refine tk 12 (oi := ⟨some 90, _, _, _, _, _⟩) (v := undef) rfl (by kernel_rfl) (.inr ⟨by rfl, rfl⟩) hHeld ?_) | (refine' tk 12 (oi := ⟨some 90, _, _, _, _, _⟩) (v := _) rfl (by kernel_rfl) (yieldsIf_load_mid (by rfl) _ _ rfl _ _ rfl (a.cells) _ (fun _ h => range_block h.1) (Try.underlying28) rfl (HIa.out)) hHeld ?_)
          simp only [PT]
          first | (refine tk 13 (oi := ⟨some 91, _, _, _, _, _⟩) (v := undef) rfl (by kernel_rfl) (.inr ⟨by rfl, rfl⟩) hHeld ?_) | (refine' tk 13 (oi := ⟨some 91, _, _, _, _, _⟩) (v := _) rfl (by kernel_rfl) (yieldsIf_load_mid (by rfl) _ _ rfl _ _ rfl (b.cells) _ (fun _ h => range_block h.2) (Try.underlying28) rfl (HIb.out)) hHeld ?_)
          simp only [PT]
          refine wpAnyH_ready (rs := [11]) (by kernel_rfl) (by simp) ?_
          refine (AllReadyH.cons (o := ⟨some 89, _, _, _, _, _⟩) rfl (fun K hK => ?_) AllReadyH.nil)
          focus (first | (refine skip_step ?_ ?_; focus (rfl)) | (go_simp; go_must (refine (older_any a b HOa.out HOb.out (right_no HRa.out) (right_no HRb.out) _).mono ?_); rintro e w5 ⟨rfl, hb__⟩; have hE__ := cU HB bup hb__; replace HB := ck HB hE__; (try replace HG4 := ck HG4 hE__); (try replace HG5 := ck HG5 hE__); (try replace HG6 := ck HG6 hE__); (try replace HA := ck HA hE__); clear hE__ hb__; go_wp2_with fail))
          refine hK.out _ _ ?_ (fun hHeld => ?_)
          focus (exact HA.out)
          clear hK K
          try simp only [PT]
          refine wpAnyH_ready (rs := [14]) (by kernel_rfl) (by simp) ?_
          refine (AllReadyH.cons (o := ⟨some 92, _, _, _, _, _⟩) rfl (fun K hK => ?_) AllReadyH.nil)
          focus (first | (refine skip_step ?_ ?_; focus (rfl)) | (go_simp; go_must (refine (refOlder_any a b HOa.out HOb.out (right_fit HRa.out) (right_fit HRb.out) _).mono ?_); rintro e w5 ⟨rfl, hb__⟩; have hE__ := cU HB bup hb__; replace HB := ck HB hE__; (try replace HG4 := ck HG4 hE__); (try replace HG5 := ck HG5 hE__); (try replace HG6 := ck HG6 hE__); (try replace HA := ck HA hE__); clear hE__ hb__; go_wp2_with fail))
          refine hK.out _ _ ?_ (fun hHeld => ?_)
          focus (exact HA.out)
          clear hK K
          try simp only [PT]
          first | (refine tk 15 (oi := ⟨some 93, _, _, _, _, _⟩) (v := undef) rfl (by kernel_rfl) (.inr ⟨by rfl, rfl⟩) hHeld ?_) | (refine' tk 15 (oi := ⟨some 93, _, _, _, _, _⟩) (v := (.bool true)) rfl (by kernel_rfl) (.inl ⟨by rfl, ?_⟩) hHeld ?_; focus (intro w hSw; (try dsimp only at hSw); go_simp; first | done | rfl | (simp [*]; done) | (simp [*]; omega)))
          simp only [PT]
          first | (refine tk 16 (oi := ⟨some 94, _, _, _, _, _⟩) (v := undef) rfl (by kernel_rfl) (.inr ⟨by rfl, rfl⟩) hHeld ?_) | (refine tk 16 (oi := ⟨some 94, _, _, _, _, _⟩) (v := ?_) rfl (by kernel_rfl) (.inl ⟨by rfl, ?_⟩) hHeld ?_; rotate_left; focus (intro w hSw; (try dsimp only at hSw); go_simp; try with_reducible rfl))
          simp only [PT]
          first | (refine tk 17 (oi := ⟨some 95, _, _, _, _, _⟩) (v := undef) rfl (by kernel_rfl) (.inr ⟨by rfl, rfl⟩) hHeld ?_) | (refine' tk 17 (oi := ⟨some 95, _, _, _, _, _⟩) (v := _) rfl (by kernel_rfl) (yieldsIf_load_mid (by rfl) _ _ rfl _ _ rfl (b.cells) _ (fun _ h => range_block h.2) (Try.underlying28) rfl (HIb.out)) hHeld ?_)
          simp only [PT]
          first | (refine tk 18 (oi := ⟨some 96, _, _, _, _, _⟩) (v := undef) rfl (by kernel_rfl) (.inr ⟨by rfl, rfl⟩) hHeld ?_) | (refine' tk 18 (oi := ⟨some 96, _, _, _, _, _⟩) (v := _) rfl (by kernel_rfl) (yieldsIf_load_mid (by rfl) _ _ rfl _ _ rfl (a.cells) _ (fun _ h => range_block h.1) (Try.underlying28) rfl (HIa.out)) hHeld ?_)
          simp only [PT]
          first | (refine tk 20 (oi := ⟨some 98, _, _, _, _, _⟩) (v := undef) rfl (by kernel_rfl) (.inr ⟨by rfl, rfl⟩) hHeld ?_) | (refine' tk 20 (oi := ⟨some 98, _, _, _, _, _⟩) (v := _) rfl (by kernel_rfl) (yieldsIf_load_mid (by rfl) _ _ rfl _ _ rfl (b.cells) _ (fun _ h => range_block h.2) (Try.underlying28) rfl (HIb.out)) hHeld ?_)
          simp only [PT]
          first | (refine tk 21 (oi := ⟨some 99, _, _, _, _, _⟩) (v := undef) rfl (by kernel_rfl) (.inr ⟨by rfl, rfl⟩) hHeld ?_) | (refine' tk 21 (oi := ⟨some 99, _, _, _, _, _⟩) (v := _) rfl (by kernel_rfl) (yieldsIf_load_mid (by rfl) _ _ rfl _ _ rfl (a.cells) _ (fun _ h => range_block h.1) (Try.underlying28) rfl (HIa.out)) hHeld ?_)
          simp only [PT]
          refine wpAnyH_ready (rs := [19]) (by kernel_rfl) (by simp) ?_
          refine (AllReadyH.cons (o := ⟨some 97, _, _, _, _, _⟩) rfl (fun K hK => ?_) AllReadyH.nil)
          focus (first | (refine skip_step ?_ ?_; focus (rfl)) | (go_simp; go_must (refine (older_any b a HOb.out HOa.out (right_no HRb.out) (right_no HRa.out) _).mono ?_); rintro e w5 ⟨rfl, hb__⟩; have hE__ := cU HB bup hb__; replace HB := ck HB hE__; (try replace HG4 := ck HG4 hE__); (try replace HG5 := ck HG5 hE__); (try replace HG6 := ck HG6 hE__); (try replace HA := ck HA hE__); clear hE__ hb__; go_wp2_with fail))
          refine hK.out _ _ ?_ (fun hHeld => ?_)
          focus (exact HA.out)
          clear hK K
          try simp only [PT]
          refine wpAnyH_ready (rs := [22]) (by kernel_rfl) (by simp) ?_
          refine (AllReadyH.cons (o := ⟨some 100, _, _, _, _, _⟩) rfl (fun K hK => ?_) AllReadyH.nil)
          focus (first | (refine skip_step ?_ ?_; focus (rfl)) | (go_simp; go_must (refine (refOlder_any b a HOb.out HOa.out (right_fit HRb.out) (right_fit HRa.out) _).mono ?_); rintro e w5 ⟨rfl, hb__⟩; have hE__ := cU HB bup hb__; replace HB := ck HB hE__; (try replace HG4 := ck HG4 hE__); (try replace HG5 := ck HG5 hE__); (try replace HG6 := ck HG6 hE__); (try replace HA := ck HA hE__); clear hE__ hb__; go_wp2_with fail))
          refine hK.out _ _ ?_ (fun hHeld => ?_)
          focus (exact HA.out)
          clear hK K
          try simp only [PT]
          first | (refine tk 23 (oi := ⟨some 101, _, _, _, _, _⟩) (v := undef) rfl (by kernel_rfl) (.inr ⟨by rfl, rfl⟩) hHeld ?_) | (refine' tk 23 (oi := ⟨some 101, _, _, _, _, _⟩) (v := (.bool true)) rfl (by kernel_rfl) (.inl ⟨by rfl, ?_⟩) hHeld ?_; focus (intro w hSw; (try dsimp only at hSw); go_simp; first | done | rfl | (simp [*]; done) | (simp [*]; omega)))
          simp only [PT]
          first | (refine tk 24 (oi := ⟨some 102, _, _, _, _, _⟩) (v := undef) rfl (by kernel_rfl) (.inr ⟨by rfl, rfl⟩) hHeld ?_) | (refine tk 24 (oi := ⟨some 102, _, _, _, _, _⟩) (v := ?_) rfl (by kernel_rfl) (.inl ⟨by rfl, ?_⟩) hHeld ?_; rotate_left; focus (intro w hSw; (try dsimp only at hSw); go_simp; try with_reducible rfl))
          simp only [PT]
          refine tk 25 (oi := ⟨some 103, _, _, _, _, _⟩) (v := ?_) rfl (by kernel_rfl) (.inl ⟨by rfl, ?_⟩) hHeld ?_; rotate_left; focus (intro w hSw; (try dsimp only at hSw); go_simp; try with_reducible rfl)
          simp only [PT]
          refine tk 26 (oi := ⟨some 8, _, _, _, _, _⟩) (v := ?_) rfl (by kernel_rfl) (.inl ⟨by rfl, ?_⟩) hHeld ?_; rotate_left; focus (intro w hSw; (try dsimp only at hSw); go_simp; try with_reducible rfl)
          simp only [PT]
          refine wpAnyH_done (by kernel_rfl) ?_ _
          go_wp2
          go_ret
          exact ⟨rfl, HB.out⟩
      ·
        refine wp_region_held_drew (S := fun u__ => FrA g4 g5 a b u__) (by kernel_rfl) ?_ (fun hHeld => ?_)
        focus (exact HA.out)
        refine' tk 0 (oi := ⟨some 78, _, _, _, _, _⟩) (v := _) rfl (by kernel_rfl) (yieldsIf_load_mid (by rfl) _ _ rfl _ _ rfl (a.cells) _ (fun _ h => range_block h.1) (Try.underlying28) rfl (HIa.out)) hHeld ?_
        simp only [PT]
        refine wpAnyH_ready (rs := [1]) (by kernel_rfl) (by simp) ?_
        refine (AllReadyH.cons (o := ⟨some 79, _, _, _, _, _⟩) rfl (fun K hK => ?_) AllReadyH.nil)
        focus (first | (refine skip_step ?_ ?_; focus (rfl)) | (go_simp; go_must (refine (refRight_any a HO.out.1 HO.out.2.2.1 _).mono ?_); rw [ha]; rintro e w5 ⟨rfl, hb__⟩; have hE__ := cU HB bup hb__; replace HB := ck HB hE__; (try replace HG4 := ck HG4 hE__); (try replace HG5 := ck HG5 hE__); (try replace HG6 := ck HG6 hE__); (try replace HA := ck HA hE__); clear hE__ hb__; go_wp2_with fail))
        refine hK.out _ _ ?_ (fun hHeld => ?_)
        focus (exact HA.out)
        clear hK K
        try simp only [PT]
        refine tk 2 (oi := ⟨some 80, _, _, _, _, _⟩) (v := ?_) rfl (by kernel_rfl) (.inl ⟨by rfl, ?_⟩) hHeld ?_; rotate_left; focus (intro w hSw; (try dsimp only at hSw); go_simp; try with_reducible rfl)
        simp only [PT]
        refine tk 3 (oi := ⟨some 81, _, _, _, _, _⟩) (v := ?_) rfl (by kernel_rfl) (.inl ⟨by rfl, ?_⟩) hHeld ?_; rotate_left; focus (intro w hSw; (try dsimp only at hSw); go_simp; try with_reducible rfl)
        simp only [PT]
        first | (refine tk 4 (oi := ⟨some 82, _, _, _, _, _⟩) (v := undef) rfl (by kernel_rfl) (.inr ⟨by rfl, rfl⟩) hHeld ?_) | (refine' tk 4 (oi := ⟨some 82, _, _, _, _, _⟩) (v := _) rfl (by kernel_rfl) (yieldsIf_load_mid (by rfl) _ _ rfl _ _ rfl (b.cells) _ (fun _ h => range_block h.2) (Try.underlying28) rfl (HIb.out)) hHeld ?_)
        simp only [PT]
        refine wpAnyH_ready (rs := [5]) (by kernel_rfl) (by simp) ?_
        refine (AllReadyH.cons (o := ⟨some 83, _, _, _, _, _⟩) rfl (fun K hK => ?_) AllReadyH.nil)
        focus (first | (refine skip_step ?_ ?_; focus (rfl)) | (go_simp; go_must (refine (refRight_any b HO.out.2.1 HO.out.2.2.2 _).mono ?_); rw [hb]; rintro e w5 ⟨rfl, hb__⟩; have hE__ := cU HB bup hb__; replace HB := ck HB hE__; (try replace HG4 := ck HG4 hE__); (try replace HG5 := ck HG5 hE__); (try replace HG6 := ck HG6 hE__); (try replace HA := ck HA hE__); clear hE__ hb__; go_wp2_with fail))
        refine hK.out _ _ ?_ (fun hHeld => ?_)
        focus (exact HA.out)
        clear hK K
        try simp only [PT]
        first | (refine tk 6 (oi := ⟨some 84, _, _, _, _, _⟩) (v := undef) rfl (by kernel_rfl) (.inr ⟨by rfl, rfl⟩) hHeld ?_) | (refine tk 6 (oi := ⟨some 84, _, _, _, _, _⟩) (v := ?_) rfl (by kernel_rfl) (.inl ⟨by rfl, ?_⟩) hHeld ?_; rotate_left; focus (intro w hSw; (try dsimp only at hSw); go_simp; try with_reducible rfl))
        simp only [PT]
        refine tk 7 (oi := ⟨some 85, _, _, _, _, _⟩) (v := ?_) rfl (by kernel_rfl) (.inl ⟨by rfl, ?_⟩) hHeld ?_; rotate_left; focus (intro w hSw; (try dsimp only at hSw); go_simp; try with_reducible rfl)
        simp only [PT]
        refine tk 8 (oi := ⟨some 86, _, _, _, _, _⟩) (v := ?_) rfl (by kernel_rfl) (.inl ⟨by rfl, ?_⟩) hHeld ?_; rotate_left; focus (intro w hSw; (try dsimp only at hSw); go_simp; try with_reducible rfl)
        simp only [PT]
        first | (refine tk 9 (oi := ⟨some 87, _, _, _, _, _⟩) (v := undef) rfl (by kernel_rfl) (.inr ⟨by rfl, rfl⟩) hHeld ?_) | (refine' tk 9 (oi := ⟨some 87, _, _, _, _, _⟩) (v := _) rfl (by kernel_rfl) (yieldsIf_load_mid (by rfl) _ _ rfl _ _ rfl (a.cells) _ (fun _ h => range_block h.1) (Try.underlying28) rfl (HIa.out)) hHeld ?_)
        simp only [PT]
        first | (refine tk 10 (oi := ⟨some 88, _, _, _, _, _⟩) (v := undef) rfl (by kernel_rfl) (.inr ⟨by rfl, rfl⟩) hHeld ?_) | (refine' tk 10 (oi := ⟨some 88, _, _, _, _, _⟩) (v := _) rfl (by kernel_rfl) (yieldsIf_load_mid (by rfl) _ _ rfl _ _ rfl (b.cells) _ (fun _ h => range_block h.2) (Try.underlying28) rfl (HIb.out)) hHeld ?_)
        simp only [PT]
        first | (refine tk 12 (oi := ⟨some 90, _, _, _, _, _⟩) (v := undef) rfl (by kernel_rfl) (.inr ⟨by rfl, rfl⟩) hHeld ?_) | (refine' tk 12 (oi := ⟨some 90, _, _, _, _, _⟩) (v := _) rfl (by kernel_rfl) (yieldsIf_load_mid (by rfl) _ _ rfl _ _ rfl (a.cells) _ (fun _ h => range_block h.1) (Try.underlying28) rfl (HIa.out)) hHeld ?_)
        simp only [PT]
        first | (refine tk 13 (oi := ⟨some 91, _, _, _, _, _⟩) (v := undef) rfl (by kernel_rfl) (.inr ⟨by rfl, rfl⟩) hHeld ?_) | (refine' tk 13 (oi := ⟨some 91, _, _, _, _, _⟩) (v := _) rfl (by kernel_rfl) (yieldsIf_load_mid (by rfl) _ _ rfl _ _ rfl (b.cells) _ (fun _ h => range_block h.2) (Try.underlying28) rfl (HIb.out)) hHeld ?_)
        simp only [PT]
        refine wpAnyH_ready (rs := [11]) (by kernel_rfl) (by simp) ?_
        refine (AllReadyH.cons (o := ⟨some 89, _, _, _, _, _⟩) rfl (fun K hK => ?_) AllReadyH.nil)
        focus (first | (refine skip_step ?_ ?_; focus (rfl)) | (go_simp; go_must (refine (older_any a b HOa.out HOb.out (right_no HRa.out) (right_no HRb.out) _).mono ?_); rintro e w5 ⟨rfl, hb__⟩; have hE__ := cU HB bup hb__; replace HB := ck HB hE__; (try replace HG4 := ck HG4 hE__); (try replace HG5 := ck HG5 hE__); (try replace HG6 := ck HG6 hE__); (try replace HA := ck HA hE__); clear hE__ hb__; go_wp2_with fail))
        refine hK.out _ _ ?_ (fun hHeld => ?_)
        focus (exact HA.out)
        clear hK K
        try simp only [PT]
        refine wpAnyH_ready (rs := [14]) (by kernel_rfl) (by simp) ?_
        refine (AllReadyH.cons (o := ⟨some 92, _, _, _, _, _⟩) rfl (fun K hK => ?_) AllReadyH.nil)
        focus (first | (refine skip_step ?_ ?_; focus (rfl)) | (go_simp; go_must (refine (refOlder_any a b HOa.out HOb.out (right_fit HRa.out) (right_fit HRb.out) _).mono ?_); rintro e w5 ⟨rfl, hb__⟩; have hE__ := cU HB bup hb__; replace HB := ck HB hE__; (try replace HG4 := ck HG4 hE__); (try replace HG5 := ck HG5 hE__); (try replace HG6 := ck HG6 hE__); (try replace HA := ck HA hE__); clear hE__ hb__; go_wp2_with fail))
        refine hK.out _ _ ?_ (fun hHeld => ?_)
        focus (exact HA.out)
        clear hK K
        try simp only [PT]
        first | (refine tk 15 (oi := ⟨some 93, _, _, _, _, _⟩) (v := undef) rfl (by kernel_rfl) (.inr ⟨by rfl, rfl⟩) hHeld ?_) | (refine' tk 15 (oi := ⟨some 93, _, _, _, _, _⟩) (v := (.bool true)) rfl (by kernel_rfl) (.inl ⟨by rfl, ?_⟩) hHeld ?_; focus (intro w hSw; (try dsimp only at hSw); go_simp; first | done | rfl | (simp [*]; done) | (simp [*]; omega)))
        simp only [PT]
        first | (refine tk 16 (oi := ⟨some 94, _, _, _, _, _⟩) (v := undef) rfl (by kernel_rfl) (.inr ⟨by rfl, rfl⟩) hHeld ?_) | (refine tk 16 (oi := ⟨some 94, _, _, _, _, _⟩) (v := ?_) rfl (by kernel_rfl) (.inl ⟨by rfl, ?_⟩) hHeld ?_; rotate_left; focus (intro w hSw; (try dsimp only at hSw); go_simp; try with_reducible rfl))
        simp only [PT]
        first | (refine tk 17 (oi := ⟨some 95, _, _, _, _, _⟩) (v := undef) rfl (by kernel_rfl) (.inr ⟨by rfl, rfl⟩) hHeld ?_) | (refine' tk 17 (oi := ⟨some 95, _, _, _, _, _⟩) (v := _) rfl (by kernel_rfl) (yieldsIf_load_mid (by rfl) _ _ rfl _ _ rfl (b.cells) _ (fun _ h => range_block h.2) (Try.underlying28) rfl (HIb.out)) hHeld ?_)
        simp only [PT]
        first | (refine tk 18 (oi := ⟨some 96, _, _, _, _, _⟩) (v := undef) rfl (by kernel_rfl) (.inr ⟨by rfl, rfl⟩) hHeld ?_) | (refine' tk 18 (oi := ⟨some 96, _, _, _, _, _⟩) (v := _) rfl (by kernel_rfl) (yieldsIf_load_mid (by rfl) _ _ rfl _ _ rfl (a.cells) _ (fun _ h => range_block h.1) (Try.underlying28) rfl (HIa.out)) hHeld ?_)
        simp only [PT]
        first | (refine tk 20 (oi := ⟨some 98, _, _, _, _, _⟩) (v := undef) rfl (by kernel_rfl) (.inr ⟨by rfl, rfl⟩) hHeld ?_) | (refine' tk 20 (oi := ⟨some 98, _, _, _, _, _⟩) (v := _) rfl (by kernel_rfl) (yieldsIf_load_mid (by rfl) _ _ rfl _ _ rfl (b.cells) _ (fun _ h => range_block h.2) (Try.underlying28) rfl (HIb.out)) hHeld ?_)
        simp only [PT]
        first | (refine tk 21 (oi := ⟨some 99, _, _, _, _, _⟩) (v := undef) rfl (by kernel_rfl) (.inr ⟨by rfl, rfl⟩) hHeld ?_) | (refine' tk 21 (oi := ⟨some 99, _, _, _, _, _⟩) (v := _) rfl (by kernel_rfl) (yieldsIf_load_mid (by rfl) _ _ rfl _ _ rfl (a.cells) _ (fun _ h => range_block h.1) (Try.underlying28) rfl (HIa.out)) hHeld ?_)
        simp only [PT]
        refine wpAnyH_ready (rs := [19]) (by kernel_rfl) (by simp) ?_
        refine (AllReadyH.cons (o := ⟨some 97, _, _, _, _, _⟩) rfl (fun K hK => ?_) AllReadyH.nil)
        focus (first | (refine skip_step ?_ ?_; focus (rfl)) | (go_simp; go_must (refine (older_any b a HOb.out HOa.out (right_no HRb.out) (right_no HRa.out) _).mono ?_); rintro e w5 ⟨rfl, hb__⟩; have hE__ := cU HB bup hb__; replace HB := ck HB hE__; (try replace HG4 := ck HG4 hE__); (try replace HG5 := ck HG5 hE__); (try replace HG6 := ck HG6 hE__); (try replace HA := ck HA hE__); clear hE__ hb__; go_wp2_with fail))
        refine hK.out _ _ ?_ (fun hHeld => ?_)
        focus (exact HA.out)
        clear hK K
        try simp only [PT]
        refine wpAnyH_ready (rs := [22]) (by kernel_rfl) (by simp) ?_
        refine (AllReadyH.cons (o := ⟨some 100, _, _, _, _, _⟩) rfl (fun K hK => ?_) AllReadyH.nil)
        focus (first | (refine skip_step ?_ ?_; focus (rfl)) | (go_simp; go_must (refine (refOlder_any b a HOb.out HOa.out (right_fit HRb.out) (right_fit HRa.out) _).mono ?_); rintro e w5 ⟨rfl, hb__⟩; have hE__ := cU HB bup hb__; replace HB := ck HB hE__; (try replace HG4 := ck HG4 hE__); (try replace HG5 := ck HG5 hE__); (try replace HG6 := ck HG6 hE__); (try replace HA := ck HA hE__); clear hE__ hb__; go_wp2_with fail))
        refine hK.out _ _ ?_ (fun hHeld => ?_)
        focus (exact HA.out)
        clear hK K
        try simp only [PT]
        first | (refine tk 23 (oi := ⟨some 101, _, _, _, _, _⟩) (v := undef) rfl (by kernel_rfl) (.inr ⟨by rfl, rfl⟩) hHeld ?_) | (refine' tk 23 (oi := ⟨some 101, _, _, _, _, _⟩) (v := (.bool true)) rfl (by kernel_rfl) (.inl ⟨by rfl, ?_⟩) hHeld ?_; focus (intro w hSw; (try dsimp only at hSw); go_simp; first | done | rfl | (simp [*]; done) | (simp [*]; omega)))
        simp only [PT]
        first | (refine tk 24 (oi := ⟨some 102, _, _, _, _, _⟩) (v := undef) rfl (by kernel_rfl) (.inr ⟨by rfl, rfl⟩) hHeld ?_) | (refine tk 24 (oi := ⟨some 102, _, _, _, _, _⟩) (v := ?_) rfl (by kernel_rfl) (.inl ⟨by rfl, ?_⟩) hHeld ?_; rotate_left; focus (intro w hSw; (try dsimp only at hSw); go_simp; try with_reducible rfl))
        simp only [PT]
        refine tk 25 (oi := ⟨some 103, _, _, _, _, _⟩) (v := ?_) rfl (by kernel_rfl) (.inl ⟨by rfl, ?_⟩) hHeld ?_; rotate_left; focus (intro w hSw; (try dsimp only at hSw); go_simp; try with_reducible rfl)
        simp only [PT]
        refine tk 26 (oi := ⟨some 8, _, _, _, _, _⟩) (v := ?_) rfl (by kernel_rfl) (.inl ⟨by rfl, ?_⟩) hHeld ?_; rotate_left; focus (intro w hSw; (try dsimp only at hSw); go_simp; try with_reducible rfl)
        simp only [PT]
        refine wpAnyH_done (by kernel_rfl) ?_ _
        go_wp2
        go_ret
        exact ⟨rfl, HB.out⟩

    · have d1 : decide ((1 : Int) ≤ n) = true := decide_eq_true (by omega)
      have d2 : decide (n ≤ (4096 : Int)) = false := decide_eq_false (by omega)
      go_wp2_with fail
      clear d1 d2
      refine wp_region_held_drew (S := fun u__ => FrA g4 g5 a b u__) (by kernel_rfl) ?_ (fun hHeld => ?_)
      focus (exact HA.out)
      refine' tk 0 (oi := ⟨some 66, _, _, _, _, _⟩) (v := _) rfl (by kernel_rfl) (yieldsIf_load_mid (by rfl) _ _ rfl _ _ rfl (a.cells) _ (fun _ h => range_block h.1) (Try.underlying28) rfl (HIa.out)) hHeld ?_
      simp only [PT]
      refine' tk 2 (oi := ⟨some 68, _, _, _, _, _⟩) (v := _) rfl (by kernel_rfl) (yieldsIf_load_mid (by rfl) _ _ rfl _ _ rfl (a.cells) _ (fun _ h => range_block h.1) (Try.underlying28) rfl (HIa.out)) hHeld ?_
      simp only [PT]
      refine wpAnyH_ready (rs := [1]) (by kernel_rfl) (by simp) ?_
      refine (AllReadyH.cons (o := ⟨some 67, _, _, _, _, _⟩) rfl (fun K hK => ?_) AllReadyH.nil)
      focus (first | (refine skip_step ?_ ?_; focus (rfl)) | (go_simp; go_must (refine (right_any a HO.out.1 HO.out.2.2.1 _).mono ?_); rintro e w5 ⟨rfl, hb__⟩; have hE__ := cU HB bup hb__; replace HB := ck HB hE__; (try replace HG4 := ck HG4 hE__); (try replace HG5 := ck HG5 hE__); (try replace HG6 := ck HG6 hE__); (try replace HA := ck HA hE__); clear hE__ hb__; go_wp2_with fail))
      refine hK.out _ _ ?_ (fun hHeld => ?_)
      focus (exact HA.out)
      clear hK K
      try simp only [PT]
      refine wpAnyH_ready (rs := [3]) (by kernel_rfl) (by simp) ?_
      refine (AllReadyH.cons (o := ⟨some 69, _, _, _, _, _⟩) rfl (fun K hK => ?_) AllReadyH.nil)
      focus (first | (refine skip_step ?_ ?_; focus (rfl)) | (go_simp; go_must (refine (refRight_any a HO.out.1 HO.out.2.2.1 _).mono ?_); rintro e w5 ⟨rfl, hb__⟩; have hE__ := cU HB bup hb__; replace HB := ck HB hE__; (try replace HG4 := ck HG4 hE__); (try replace HG5 := ck HG5 hE__); (try replace HG6 := ck HG6 hE__); (try replace HA := ck HA hE__); clear hE__ hb__; go_wp2_with fail))
      refine hK.out _ _ ?_ (fun hHeld => ?_)
      focus (exact HA.out)
      clear hK K
      try simp only [PT]
      refine' tk 4 (oi := ⟨some 70, _, _, _, _, _⟩) (v := (.bool false)) rfl (by kernel_rfl) (.inl ⟨by rfl, ?_⟩) hHeld ?_; focus (intro w hSw; (try dsimp only at hSw); go_simp; first | done | rfl | (simp [*]; done) | (simp [*]; omega))
      simp only [PT]
      refine tk 5 (oi := ⟨some 71, _, _, _, _, _⟩) (v := ?_) rfl (by kernel_rfl) (.inl ⟨by rfl, ?_⟩) hHeld ?_; rotate_left; focus (intro w hSw; (try dsimp only at hSw); go_simp; try with_reducible rfl)
      simp only [PT]
      first | (refine tk 6 (oi := ⟨some 72, _, _, _, _, _⟩) (v := undef) rfl (by kernel_rfl) (.inr ⟨by rfl, rfl⟩) hHeld ?_) | (refine' tk 6 (oi := ⟨some 72, _, _, _, _, _⟩) (v := _) rfl (by kernel_rfl) (yieldsIf_load_mid (by rfl) _ _ rfl _ _ rfl (b.cells) _ (fun _ h => range_block h.2) (Try.underlying28) rfl (HIb.out)) hHeld ?_)
      simp only [PT]
      first | (refine tk 8 (oi := ⟨some 74, _, _, _, _, _⟩) (v := undef) rfl (by kernel_rfl) (.inr ⟨by rfl, rfl⟩) hHeld ?_) | (refine' tk 8 (oi := ⟨some 74, _, _, _, _, _⟩) (v := _) rfl (by kernel_rfl) (yieldsIf_load_mid (by rfl) _ _ rfl _ _ rfl (b.cells) _ (fun _ h => range_block h.2) (Try.underlying28) rfl (HIb.out)) hHeld ?_)
      simp only [PT]
      refine wpAnyH_ready (rs := [7]) (by kernel_rfl) (by simp) ?_
      refine (AllReadyH.cons (o := ⟨some 73, _, _, _, _, _⟩) rfl (fun K hK => ?_) AllReadyH.nil)
      focus (first | (refine skip_step ?_ ?_; focus (rfl)) | (go_simp; go_must (refine (right_any b HO.out.2.1 HO.out.2.2.2 _).mono ?_); rintro e w5 ⟨rfl, hb__⟩; have hE__ := cU HB bup hb__; replace HB := ck HB hE__; (try replace HG4 := ck HG4 hE__); (try replace HG5 := ck HG5 hE__); (try replace HG6 := ck HG6 hE__); (try replace HA := ck HA hE__); clear hE__ hb__; go_wp2_with fail))
      refine hK.out _ _ ?_ (fun hHeld => ?_)
      focus (exact HA.out)
      clear hK K
      try simp only [PT]
      refine wpAnyH_ready (rs := [9]) (by kernel_rfl) (by simp) ?_
      refine (AllReadyH.cons (o := ⟨some 75, _, _, _, _, _⟩) rfl (fun K hK => ?_) AllReadyH.nil)
      focus (first | (refine skip_step ?_ ?_; focus (rfl)) | (go_simp; go_must (refine (refRight_any b HO.out.2.1 HO.out.2.2.2 _).mono ?_); rintro e w5 ⟨rfl, hb__⟩; have hE__ := cU HB bup hb__; replace HB := ck HB hE__; (try replace HG4 := ck HG4 hE__); (try replace HG5 := ck HG5 hE__); (try replace HG6 := ck HG6 hE__); (try replace HA := ck HA hE__); clear hE__ hb__; go_wp2_with fail))
      refine hK.out _ _ ?_ (fun hHeld => ?_)
      focus (exact HA.out)
      clear hK K
      try simp only [PT]
      first | (refine tk 10 (oi := ⟨some 76, _, _, _, _, _⟩) (v := undef) rfl (by kernel_rfl) (.inr ⟨by rfl, rfl⟩) hHeld ?_) | (refine' tk 10 (oi := ⟨some 76, _, _, _, _, _⟩) (v := (.bool false)) rfl (by kernel_rfl) (.inl ⟨by rfl, ?_⟩) hHeld ?_; focus (intro w hSw; (try dsimp only at hSw); go_simp; first | done | rfl | (simp [*]; done) | (simp [*]; omega)))
      simp only [PT]
      refine tk 11 (oi := ⟨some 77, _, _, _, _, _⟩) (v := ?_) rfl (by kernel_rfl) (.inl ⟨by rfl, ?_⟩) hHeld ?_; rotate_left; focus (intro w hSw; (try dsimp only at hSw); go_simp; try with_reducible rfl)
      simp only [PT]
      refine wpAnyH_done (by kernel_rfl) ?_ _
      go_wp2_with fail
      rcases two (rightF a) with ha | ha
      · rcases two (rightF b) with hb | hb
        · have HRa := Lib.hid ha
          have HRb := Lib.hid hb
          refine wp_region_held_drew (S := fun u__ => FrA g4 g5 a b u__) (by kernel_rfl) ?_ (fun hHeld => ?_)
          focus (exact HA.out)
          refine' tk 0 (oi := ⟨some 78, _, _, _, _, _⟩) (v := _) rfl (by kernel_rfl) (yieldsIf_load_mid (by rfl) _ _ rfl _ _ rfl (a.cells) _ (fun _ h => range_block h.1) (Try.underlying28) rfl (HIa.out)) hHeld ?_
          simp only [PT]
          refine wpAnyH_ready (rs := [1]) (by kernel_rfl) (by simp) ?_
          refine (AllReadyH.cons (o := ⟨some 79, _, _, _, _, _⟩) rfl (fun K hK => ?_) AllReadyH.nil)
          focus (first | (refine skip_step ?_ ?_; focus (rfl)) | (go_simp; go_must (refine (refRight_any a HO.out.1 HO.out.2.2.1 _).mono ?_); rw [ha]; rintro e w5 ⟨rfl, hb__⟩; have hE__ := cU HB bup hb__; replace HB := ck HB hE__; (try replace HG4 := ck HG4 hE__); (try replace HG5 := ck HG5 hE__); (try replace HG6 := ck HG6 hE__); (try replace HA := ck HA hE__); clear hE__ hb__; go_wp2_with fail))
          refine hK.out _ _ ?_ (fun hHeld => ?_)
          focus (exact HA.out)
          clear hK K
          try simp only [PT]
          refine tk 2 (oi := ⟨some 80, _, _, _, _, _⟩) (v := ?_) rfl (by kernel_rfl) (.inl ⟨by rfl, ?_⟩) hHeld ?_; rotate_left; focus (intro w hSw; (try dsimp only at hSw); go_simp; try with_reducible rfl)
          simp only [PT]
          refine tk 3 (oi := ⟨some 81, _, _, _, _, _⟩) (v := ?_) rfl (by kernel_rfl) (.inl ⟨by rfl, ?_⟩) hHeld ?_; rotate_left; focus (intro w hSw; (try dsimp only at hSw); go_simp; try with_reducible rfl)
          simp only [PT]
          first | (refine tk 4 (oi := ⟨some 82, _, _, _, _, _⟩) (v := undef) rfl (by kernel_rfl) (.inr ⟨by rfl, rfl⟩) hHeld ?_) | (refine' tk 4 (oi := ⟨some 82, _, _, _, _, _⟩) (v := _) rfl (by kernel_rfl) (yieldsIf_load_mid (by rfl) _ _ rfl _ _ rfl (b.cells) _ (fun _ h => range_block h.2) (Try.underlying28) rfl (HIb.out)) hHeld ?_)
          simp only [PT]
          refine wpAnyH_ready (rs := [5]) (by kernel_rfl) (by simp) ?_
          refine (AllReadyH.cons (o := ⟨some 83, _, _, _, _, _⟩) rfl (fun K hK => ?_) AllReadyH.nil)
          focus (first | (refine skip_step ?_ ?_; focus (rfl)) | (go_simp; go_must (refine (refRight_any b HO.out.2.1 HO.out.2.2.2 _).mono ?_); rw [hb]; rintro e w5 ⟨rfl, hb__⟩; have hE__ := cU HB bup hb__; replace HB := ck HB hE__; (try replace HG4 := ck HG4 hE__); (try replace HG5 := ck HG5 hE__); (try replace HG6 := ck HG6 hE__); (try replace HA := ck HA hE__); clear hE__ hb__; go_wp2_with fail))
          refine hK.out _ _ ?_ (fun hHeld => ?_)
          focus (exact HA.out)
          clear hK K
          try simp only [PT]
          first | (refine tk 6 (oi := ⟨some 84, _, _, _, _, _⟩) (v := undef) rfl (by kernel_rfl) (.inr ⟨by rfl, rfl⟩) hHeld ?_) | (refine tk 6 (oi := ⟨some 84, _, _, _, _, _⟩) (v := ?_) rfl (by kernel_rfl) (.inl ⟨by rfl, ?_⟩) hHeld ?_; rotate_left; focus (intro w hSw; (try dsimp only at hSw); go_simp; try with_reducible rfl))
          simp only [PT]
          refine tk 7 (oi := ⟨some 85, _, _, _, _, _⟩) (v := ?_) rfl (by kernel_rfl) (.inl ⟨by rfl, ?_⟩) hHeld ?_; rotate_left; focus (intro w hSw; (try dsimp only at hSw); go_simp; try with_reducible rfl)
          simp only [PT]
          refine tk 8 (oi := ⟨some 86, _, _, _, _, _⟩) (v := ?_) rfl (by kernel_rfl) (.inl ⟨by rfl, ?_⟩) hHeld ?_; rotate_left; focus (intro w hSw; (try dsimp only at hSw); go_simp; try with_reducible rfl)
          simp only [PT]
          first | (refine tk 9 (oi := ⟨some 87, _, _, _, _, _⟩) (v := undef) rfl (by kernel_rfl) (.inr ⟨by rfl, rfl⟩) hHeld ?_) | (refine' tk 9 (oi := ⟨some 87, _, _, _, _, _⟩) (v := _) rfl (by kernel_rfl) (yieldsIf_load_mid (by rfl) _ _ rfl _ _ rfl (a.cells) _ (fun _ h => range_block h.1) (Try.underlying28) rfl (HIa.out)) hHeld ?_)
          simp only [PT]
          first | (refine tk 10 (oi := ⟨some 88, _, _, _, _, _⟩) (v := undef) rfl (by kernel_rfl) (.inr ⟨by rfl, rfl⟩) hHeld ?_) | (refine' tk 10 (oi := ⟨some 88, _, _, _, _, _⟩) (v := _) rfl (by kernel_rfl) (yieldsIf_load_mid (by rfl) _ _ rfl _ _ rfl (b.cells) _ (fun _ h => range_block h.2) (Try.underlying28) rfl (HIb.out)) hHeld ?_)
          simp only [PT]
          first | (refine tk 12 (oi := ⟨some 90, _, _, _, _, _⟩) (v := undef) rfl (by kernel_rfl) (.inr ⟨by rfl, rfl⟩) hHeld ?_) | (refine' tk 12 (oi := ⟨some 90, _, _, _, _, _⟩) (v := _) rfl (by kernel_rfl) (yieldsIf_load_mid (by rfl) _ _ rfl _ _ rfl (a.cells) _ (fun _ h => range_block h.1) (Try.underlying28) rfl (HIa.out)) hHeld ?_)
          simp only [PT]
          first | (refine tk 13 (oi := ⟨some 91, _, _, _, _, _⟩) (v := undef) rfl (by kernel_rfl) (.inr ⟨by rfl, rfl⟩) hHeld ?_) | (refine' tk 13 (oi := ⟨some 91, _, _, _, _, _⟩) (v := _) rfl (by kernel_rfl) (yieldsIf_load_mid (by rfl) _ _ rfl _ _ rfl (b.cells) _ (fun _ h => range_block h.2) (Try.underlying28) rfl (HIb.out)) hHeld ?_)
          simp only [PT]
          refine wpAnyH_ready (rs := [11]) (by kernel_rfl) (by simp) ?_
          refine (AllReadyH.cons (o := ⟨some 89, _, _, _, _, _⟩) rfl (fun K hK => ?_) AllReadyH.nil)
          focus (first | (refine skip_step ?_ ?_; focus (rfl)) | (go_simp; go_must (refine (older_any a b HOa.out HOb.out (right_no HRa.out) (right_no HRb.out) _).mono ?_); rintro e w5 ⟨rfl, hb__⟩; have hE__ := cU HB bup hb__; replace HB := ck HB hE__; (try replace HG4 := ck HG4 hE__); (try replace HG5 := ck HG5 hE__); (try replace HG6 := ck HG6 hE__); (try replace HA := ck HA hE__); clear hE__ hb__; go_wp2_with fail))
          refine hK.out _ _ ?_ (fun hHeld => ?_)
          focus (exact HA.out)
          clear hK K
          try simp only [PT]
          refine wpAnyH_ready (rs := [14]) (by kernel_rfl) (by simp) ?_
          refine (AllReadyH.cons (o := ⟨some 92, _, _, _, _, _⟩) rfl (fun K hK => ?_) AllReadyH.nil)
          focus (first | (refine skip_step ?_ ?_; focus (rfl)) | (go_simp; go_must (refine (refOlder_any a b HOa.out HOb.out (right_fit HRa.out) (right_fit HRb.out) _).mono ?_); rintro e w5 ⟨rfl, hb__⟩; have hE__ := cU HB bup hb__; replace HB := ck HB hE__; (try replace HG4 := ck HG4 hE__); (try replace HG5 := ck HG5 hE__); (try replace HG6 := ck HG6 hE__); (try replace HA := ck HA hE__); clear hE__ hb__; go_wp2_with fail))
          refine hK.out _ _ ?_ (fun hHeld => ?_)
          focus (exact HA.out)
          clear hK K
          try simp only [PT]
          first | (refine tk 15 (oi := ⟨some 93, _, _, _, _, _⟩) (v := undef) rfl (by kernel_rfl) (.inr ⟨by rfl, rfl⟩) hHeld ?_) | (refine' tk 15 (oi := ⟨some 93, _, _, _, _, _⟩) (v := (.bool true)) rfl (by kernel_rfl) (.inl ⟨by rfl, ?_⟩) hHeld ?_; focus (intro w hSw; (try dsimp only at hSw); go_simp; first | done | rfl | (simp [*]; done) | (simp [*]; omega)))
          simp only [PT]
          first | (refine tk 16 (oi := ⟨some 94, _, _, _, _, _⟩) (v := undef) rfl (by kernel_rfl) (.inr ⟨by rfl, rfl⟩) hHeld ?_) | (refine tk 16 (oi := ⟨some 94, _, _, _, _, _⟩) (v := ?_) rfl (by kernel_rfl) (.inl ⟨by rfl, ?_⟩) hHeld ?_; rotate_left; focus (intro w hSw; (try dsimp only at hSw); go_simp; try with_reducible rfl))
          simp only [PT]
          first | (refine tk 17 (oi := ⟨some 95, _, _, _, _, _⟩) (v := undef) rfl (by kernel_rfl) (.inr ⟨by rfl, rfl⟩) hHeld ?_) | (refine' tk 17 (oi := ⟨some 95, _, _, _, _, _⟩) (v := _) rfl (by kernel_rfl) (yieldsIf_load_mid (by rfl) _ _ rfl _ _ rfl (b.cells) _ (fun _ h => range_block h.2) (Try.underlying28) rfl (HIb.out)) hHeld ?_)
          simp only [PT]
          first | (refine tk 18 (oi := ⟨some 96, _, _, _, _, _⟩) (v := undef) rfl (by kernel_rfl) (.inr ⟨by rfl, rfl⟩) hHeld ?_) | (refine' tk 18 (oi := ⟨some 96, _, _, _, _, _⟩) (v := _) rfl (by kernel_rfl) (yieldsIf_load_mid (by rfl) _ _ rfl _ _ rfl (a.cells) _ (fun _ h => range_block h.1) (Try.underlying28) rfl (HIa.out)) hHeld ?_)
          simp only [PT]
          first | (refine tk 20 (oi := ⟨some 98, _, _, _, _, _⟩) (v := undef) rfl (by kernel_rfl) (.inr ⟨by rfl, rfl⟩) hHeld ?_) | (refine' tk 20 (oi := ⟨some 98, _, _, _, _, _⟩) (v := _) rfl (by kernel_rfl) (yieldsIf_load_mid (by rfl) _ _ rfl _ _ rfl (b.cells) _ (fun _ h => range_block h.2) (Try.underlying28) rfl (HIb.out)) hHeld ?_)
          simp only [PT]
          first | (refine tk 21 (oi := ⟨some 99, _, _, _, _, _⟩) (v := undef) rfl (by kernel_rfl) (.inr ⟨by rfl, rfl⟩) hHeld ?_) | (refine' tk 21 (oi := ⟨some 99, _, _, _, _, _⟩) (v := _) rfl (by kernel_rfl) (yieldsIf_load_mid (by rfl) _ _ rfl _ _ rfl (a.cells) _ (fun _ h => range_block h.1) (Try.underlying28) rfl (HIa.out)) hHeld ?_)
          simp only [PT]
          refine wpAnyH_ready (rs := [19]) (by kernel_rfl) (by simp) ?_
          refine (AllReadyH.cons (o := ⟨some 97, _, _, _, _, _⟩) rfl (fun K hK => ?_) AllReadyH.nil)
          focus (first | (refine skip_step ?_ ?_; focus (rfl)) | (go_simp; go_must (refine (older_any b a HOb.out HOa.out (right_no HRb.out) (right_no HRa.out) _).mono ?_); rintro e w5 ⟨rfl, hb__⟩; have hE__ := cU HB bup hb__; replace HB := ck HB hE__; (try replace HG4 := ck HG4 hE__); (try replace HG5 := ck HG5 hE__); (try replace HG6 := ck HG6 hE__); (try replace HA := ck HA hE__); clear hE__ hb__; go_wp2_with fail))
          refine hK.out _ _ ?_ (fun hHeld => ?_)
          focus (exact HA.out)
          clear hK K
          try simp only [PT]
          refine wpAnyH_ready (rs := [22]) (by kernel_rfl) (by simp) ?_
          refine (AllReadyH.cons (o := ⟨some 100, _, _, _, _, _⟩) rfl (fun K hK => ?_) AllReadyH.nil)
          focus (first | (refine skip_step ?_ ?_; focus (rfl)) | (go_simp; go_must (refine (refOlder_any b a HOb.out HOa.out (right_fit HRb.out) (right_fit HRa.out) _).mono ?_); rintro e w5 ⟨rfl, hb__⟩; have hE__ := cU HB bup hb__; replace HB := ck HB hE__; (try replace HG4 := ck HG4 hE__); (try replace HG5 := ck HG5 hE__); (try replace HG6 := ck HG6 hE__); (try replace HA := ck HA hE__); clear hE__ hb__; go_wp2_with fail))
          refine hK.out _ _ ?_ (fun hHeld => ?_)
          focus (exact HA.out)
          clear hK K
          try simp only [PT]
          first | (refine tk 23 (oi := ⟨some 101, _, _, _, _, _⟩) (v := undef) rfl (by kernel_rfl) (.inr ⟨by rfl, rfl⟩) hHeld ?_) | (refine' tk 23 (oi := ⟨some 101, _, _, _, _, _⟩) (v := (.bool true)) rfl (by kernel_rfl) (.inl ⟨by rfl, ?_⟩) hHeld ?_; focus (intro w hSw; (try dsimp only at hSw); go_simp; first | done | rfl | (simp [*]; done) | (simp [*]; omega)))
          simp only [PT]
          first | (refine tk 24 (oi := ⟨some 102, _, _, _, _, _⟩) (v := undef) rfl (by kernel_rfl) (.inr ⟨by rfl, rfl⟩) hHeld ?_) | (refine tk 24 (oi := ⟨some 102, _, _, _, _, _⟩) (v := ?_) rfl (by kernel_rfl) (.inl ⟨by rfl, ?_⟩) hHeld ?_; rotate_left; focus (intro w hSw; (try dsimp only at hSw); go_simp; try with_reducible rfl))
          simp only [PT]
          refine tk 25 (oi := ⟨some 103, _, _, _, _, _⟩) (v := ?_) rfl (by kernel_rfl) (.inl ⟨by rfl, ?_⟩) hHeld ?_; rotate_left; focus (intro w hSw; (try dsimp only at hSw); go_simp; try with_reducible rfl)
          simp only [PT]
          refine tk 26 (oi := ⟨some 8, _, _, _, _, _⟩) (v := ?_) rfl (by kernel_rfl) (.inl ⟨by rfl, ?_⟩) hHeld ?_; rotate_left; focus (intro w hSw; (try dsimp only at hSw); go_simp; try with_reducible rfl)
          simp only [PT]
          refine wpAnyH_done (by kernel_rfl) ?_ _
          go_wp2
          go_ret
          exact ⟨rfl, HB.out⟩
        ·
          refine wp_region_held_drew (S := fun u__ => FrA g4 g5 a b u__) (by kernel_rfl) ?_ (fun hHeld => ?_)
          focus (exact HA.out)
          refine' tk 0 (oi := ⟨some 78, _, _, _, _, _⟩) (v := _) rfl (by kernel_rfl) (yieldsIf_load_mid (by rfl) _ _ rfl _ _ rfl (a.cells) _ (fun _ h => range_block h.1) (Try.underlying28) rfl (HIa.out)) hHeld ?_
          simp only [PT]
          refine wpAnyH_ready (rs := [1]) (by kernel_rfl) (by simp) ?_
          refine (AllReadyH.cons (o := ⟨some 79, _, _, _, _, _⟩) rfl (fun K hK => ?_) AllReadyH.nil)
          focus (first | (refine skip_step ?_ ?_; focus (rfl)) | (go_simp; go_must (refine (refRight_any a HO.out.1 HO.out.2.2.1 _).mono ?_); rw [ha]; rintro e w5 ⟨rfl, hb__⟩; have hE__ := cU HB bup hb__; replace HB := ck HB hE__; (try replace HG4 := ck HG4 hE__); (try replace HG5 := ck HG5 hE__); (try replace HG6 := ck HG6 hE__); (try replace HA := ck HA hE__); clear hE__ hb__; go_wp2_with fail))
          refine hK.out _ _ ?_ (fun hHeld => ?_)
          focus (exact HA.out)
          clear hK K
          try simp only [PT]
          refine tk 2 (oi := ⟨some 80, _, _, _, _, _⟩) (v := ?_) rfl (by kernel_rfl) (.inl ⟨by rfl, ?_⟩) hHeld ?_; rotate_left; focus (intro w hSw; (try dsimp only at hSw); go_simp; try with_reducible rfl)
          simp only [PT]
          refine tk 3 (oi := ⟨some 81, _, _, _, _, _⟩) (v := ?_) rfl (by kernel_rfl) (.inl ⟨by rfl, ?_⟩) hHeld ?_; rotate_left; focus (intro w hSw; (try dsimp only at hSw); go_simp; try with_reducible rfl)
          simp only [PT]
          first | (refine tk 4 (oi := ⟨some 82, _, _, _, _, _⟩) (v := undef) rfl (by kernel_rfl) (.inr ⟨by rfl, rfl⟩) hHeld ?_) | (refine' tk 4 (oi := ⟨some 82, _, _, _, _, _⟩) (v := _) rfl (by kernel_rfl) (yieldsIf_load_mid (by rfl) _ _ rfl _ _ rfl (b.cells) _ (fun _ h => range_block h.2) (Try.underlying28) rfl (HIb.out)) hHeld ?_)
          simp only [PT]
          refine wpAnyH_ready (rs := [5]) (by kernel_rfl) (by simp) ?_
          refine (AllReadyH.cons (o := ⟨some 83, _, _, _, _, _⟩) rfl (fun K hK => ?_) AllReadyH.nil)
          focus (first | (refine skip_step ?_ ?_; focus (rfl)) | (go_simp; go_must (refine (refRight_any b HO.out.2.1 HO.out.2.2.2 _).mono ?_); rw [hb]; rintro e w5 ⟨rfl, hb__⟩; have hE__ := cU HB bup hb__; replace HB := ck HB hE__; (try replace HG4 := ck HG4 hE__); (try replace HG5 := ck HG5 hE__); (try replace HG6 := ck HG6 hE__); (try replace HA := ck HA hE__); clear hE__ hb__; go_wp2_with fail))
          refine hK.out _ _ ?_ (fun hHeld => ?_)
          focus (exact HA.out)
          clear hK K
          try simp only [PT]
          first | (refine tk 6 (oi := ⟨some 84, _, _, _, _, _⟩) (v := undef) rfl (by kernel_rfl) (.inr ⟨by rfl, rfl⟩) hHeld ?_) | (refine tk 6 (oi := ⟨some 84, _, _, _, _, _⟩) (v := ?_) rfl (by kernel_rfl) (.inl ⟨by rfl, ?_⟩) hHeld ?_; rotate_left; focus (intro w hSw; (try dsimp only at hSw); go_simp; try with_reducible rfl))
          simp only [PT]
          refine tk 7 (oi := ⟨some 85, _, _, _, _, _⟩) (v := ?_) rfl (by kernel_rfl) (.inl ⟨by rfl, ?_⟩) hHeld ?_; rotate_left; focus (intro w hSw; (try dsimp only at hSw); go_simp; try with_reducible rfl)
          simp only [PT]
          refine tk 8 (oi := ⟨some 86, _, _, _, _, _⟩) (v := ?_) rfl (by kernel_rfl) (.inl ⟨by rfl, ?_⟩) hHeld ?_; rotate_left; focus (intro w hSw; (try dsimp only at hSw); go_simp; try with_reducible rfl)
          simp only [PT]
          first | (refine tk 9 (oi := ⟨some 87, _, _, _, _, _⟩) (v := undef) rfl (by kernel_rfl) (.inr ⟨by rfl, rfl⟩) hHeld ?_) | (refine' tk 9 (oi := ⟨some 87, _, _, _, _, _⟩) (v := _) rfl (by kernel_rfl) (yieldsIf_load_mid (by rfl) _ _ rfl _ _ rfl (a.cells) _ (fun _ h => range_block h.1) (Try.underlying28) rfl (HIa.out)) hHeld ?_)
          simp only [PT]
          first | (refine tk 10 (oi := ⟨some 88, _, _, _, _, _⟩) (v := undef) rfl (by kernel_rfl) (.inr ⟨by rfl, rfl⟩) hHeld ?_) | (refine' tk 10 (oi := ⟨some 88, _, _, _, _, _⟩) (v := _) rfl (by kernel_rfl) (yieldsIf_load_mid (by rfl) _ _ rfl _ _ rfl (b.cells) _ (fun _ h => range_block h.2) (Try.underlying28) rfl (HIb.out)) hHeld ?_)
          simp only [PT]
          first | (refine tk 12 (oi := ⟨some 90, _, _, _, _, _⟩) (v := undef) rfl (by kernel_rfl) (.inr ⟨by rfl, rfl⟩) hHeld ?_) | (refine' tk 12 (oi := ⟨some 90, _, _, _, _, _⟩) (v := _) rfl (by kernel_rfl) (yieldsIf_load_mid (by rfl) _ _ rfl _ _ rfl (a.cells) _ (fun _ h => range_block h.1) (Try.underlying28) rfl (HIa.out)) hHeld ?_)
          simp only [PT]
          first | (refine tk 13 (oi := ⟨some 91, _, _, _, _, _⟩) (v := undef) rfl (by kernel_rfl) (.inr ⟨by rfl, rfl⟩) hHeld ?_) | (refine' tk 13 (oi := ⟨some 91, _, _, _, _, _⟩) (v := _) rfl (by kernel_rfl) (yieldsIf_load_mid (by rfl) _ _ rfl _ _ rfl (b.cells) _ (fun _ h => range_block h.2) (Try.underlying28) rfl (HIb.out)) hHeld ?_)
          simp only [PT]
          refine wpAnyH_ready (rs := [11]) (by kernel_rfl) (by simp) ?_
          refine (AllReadyH.cons (o := ⟨some 89, _, _, _, _, _⟩) rfl (fun K hK => ?_) AllReadyH.nil)
          focus (first | (refine skip_step ?_ ?_; focus (rfl)) | (go_simp; go_must (refine (older_any a b HOa.out HOb.out (right_no HRa.out) (right_no HRb.out) _).mono ?_); rintro e w5 ⟨rfl, hb__⟩; have hE__ := cU HB bup hb__; replace HB := ck HB hE__; (try replace HG4 := ck HG4 hE__); (try replace HG5 := ck HG5 hE__); (try replace HG6 := ck HG6 hE__); (try replace HA := ck HA hE__); clear hE__ hb__; go_wp2_with fail))
          refine hK.out _ _ ?_ (fun hHeld => ?_)
          focus (exact HA.out)
          clear hK K
          try simp only [PT]
          refine wpAnyH_ready (rs := [14]) (by kernel_rfl) (by simp) ?_
          refine (AllReadyH.cons (o := ⟨some 92, _, _, _, _, _⟩) rfl (fun K hK => ?_) AllReadyH.nil)
          focus (first | (refine skip_step ?_ ?_; focus (rfl)) | (go_simp; go_must (refine (refOlder_any a b HOa.out HOb.out (right_fit HRa.out) (right_fit HRb.out) _).mono ?_); rintro e w5 ⟨rfl, hb__⟩; have hE__ := cU HB bup hb__; replace HB := ck HB hE__; (try replace HG4 := ck HG4 hE__); (try replace HG5 := ck HG5 hE__); (try replace HG6 := ck HG6 hE__); (try replace HA := ck HA hE__); clear hE__ hb__; go_wp2_with fail))
          refine hK.out _ _ ?_ (fun hHeld => ?_)
          focus (exact HA.out)
          clear hK K
          try simp only [PT]
          first | (refine tk 15 (oi := ⟨some 93, _, _, _, _, _⟩) (v := undef) rfl (by kernel_rfl) (.inr ⟨by rfl, rfl⟩) hHeld ?_) | (refine' tk 15 (oi := ⟨some 93, _, _, _, _, _⟩) (v := (.bool true)) rfl (by kernel_rfl) (.inl ⟨by rfl, ?_⟩) hHeld ?_; focus (intro w hSw; (try dsimp only at hSw); go_simp; first | done | rfl | (simp [*]; done) | (simp [*]; omega)))
          simp only [PT]
          first | (refine tk 16 (oi := ⟨some 94, _, _, _, _, _⟩) (v := undef) rfl (by kernel_rfl) (.inr ⟨by rfl, rfl⟩) hHeld ?_) | (refine tk 16 (oi := ⟨some 94, _, _, _, _, _⟩) (v := ?_) rfl (by kernel_rfl) (.inl ⟨by rfl, ?_⟩) hHeld ?_; rotate_left; focus (intro w hSw; (try dsimp only at hSw); go_simp; try with_reducible rfl))
          simp only [PT]
          first | (refine tk 17 (oi := ⟨some 95, _, _, _, _, _⟩) (v := undef) rfl (by kernel_rfl) (.inr ⟨by rfl, rfl⟩) hHeld ?_) | (refine' tk 17 (oi := ⟨some 95, _, _, _, _, _⟩) (v := _) rfl (by kernel_rfl) (yieldsIf_load_mid (by rfl) _ _ rfl _ _ rfl (b.cells) _ (fun _ h => range_block h.2) (Try.underlying28) rfl (HIb.out)) hHeld ?_)
          simp only [PT]
          first | (refine tk 18 (oi := ⟨some 96, _, _, _, _, _⟩) (v := undef) rfl (by kernel_rfl) (.inr ⟨by rfl, rfl⟩) hHeld ?_) | (refine' tk 18 (oi := ⟨some 96, _, _, _, _, _⟩) (v := _) rfl (by kernel_rfl) (yieldsIf_load_mid (by rfl) _ _ rfl _ _ rfl (a.cells) _ (fun _ h => range_block h.1) (Try.underlying28) rfl (HIa.out)) hHeld ?_)
          simp only [PT]
          first | (refine tk 20 (oi := ⟨some 98, _, _, _, _, _⟩) (v := undef) rfl (by kernel_rfl) (.inr ⟨by rfl, rfl⟩) hHeld ?_) | (refine' tk 20 (oi := ⟨some 98, _, _, _, _, _⟩) (v := _) rfl (by kernel_rfl) (yieldsIf_load_mid (by rfl) _ _ rfl _ _ rfl (b.cells) _ (fun _ h => range_block h.2) (Try.underlying28) rfl (HIb.out)) hHeld ?_)
          simp only [PT]
          first | (refine tk 21 (oi := ⟨some 99, _, _, _, _, _⟩) (v := undef) rfl (by kernel_rfl) (.inr ⟨by rfl, rfl⟩) hHeld ?_) | (refine' tk 21 (oi := ⟨some 99, _, _, _, _, _⟩) (v := _) rfl (by kernel_rfl) (yieldsIf_load_mid (by rfl) _ _ rfl _ _ rfl (a.cells) _ (fun _ h => range_block h.1) (Try.underlying28) rfl (HIa.out)) hHeld ?_)
          simp only [PT]
          refine wpAnyH_ready (rs := [19]) (by kernel_rfl) (by simp) ?_
          refine (AllReadyH.cons (o := ⟨some 97, _, _, _, _, _⟩) rfl (fun K hK => ?_) AllReadyH.nil)
          focus (first | (refine skip_step ?_ ?_; focus (rfl)) | (go_simp; go_must (refine (older_any b a HOb.out HOa.out (right_no HRb.out) (right_no HRa.out) _).mono ?_); rintro e w5 ⟨rfl, hb__⟩; have hE__ := cU HB bup hb__; replace HB := ck HB hE__; (try replace HG4 := ck HG4 hE__); (try replace HG5 := ck HG5 hE__); (try replace HG6 := ck HG6 hE__); (try replace HA := ck HA hE__); clear hE__ hb__; go_wp2_with fail))
          refine hK.out _ _ ?_ (fun hHeld => ?_)
          focus (exact HA.out)
          clear hK K
          try simp only [PT]
          refine wpAnyH_ready (rs := [22]) (by kernel_rfl) (by simp) ?_
          refine (AllReadyH.cons (o := ⟨some 100, _, _, _, _, _⟩) rfl (fun K hK => ?_) AllReadyH.nil)
          focus (first | (refine skip_step ?_ ?_; focus (rfl)) | (go_simp; go_must (refine (refOlder_any b a HOb.out HOa.out (right_fit HRb.out) (right_fit HRa.out) _).mono ?_); rintro e w5 ⟨rfl, hb__⟩; have hE__ := cU HB bup hb__; replace HB := ck HB hE__; (try replace HG4 := ck HG4 hE__); (try replace HG5 := ck HG5 hE__); (try replace HG6 := ck HG6 hE__); (try replace HA := ck HA hE__); clear hE__ hb__; go_wp2_with fail))
          refine hK.out _ _ ?_ (fun hHeld => ?_)
          focus (exact HA.out)
          clear hK K
          try simp only [PT]
          first | (refine tk 23 (oi := ⟨some 101, _, _, _, _, _⟩) (v := undef) rfl (by kernel_rfl) (.inr ⟨by rfl, rfl⟩) hHeld ?_) | (refine' tk 23 (oi := ⟨some 101, _, _, _, _, _⟩) (v := (.bool true)) rfl (by kernel_rfl) (.inl ⟨by rfl, ?_⟩) hHeld ?_; focus (intro w hSw; (try dsimp only at hSw); go_simp; first | done | rfl | (simp [*]; done) | (simp [*]; omega)))
          simp only [PT]
          first | (refine tk 24 (oi := ⟨some 102, _, _, _, _, _⟩) (v := undef) rfl (by kernel_rfl) (.inr ⟨by rfl, rfl⟩) hHeld ?_) | (refine tk 24 (oi := ⟨some 102, _, _, _, _, _⟩) (v := ?_) rfl (by kernel_rfl) (.inl ⟨by rfl, ?_⟩) hHeld ?_; rotate_left; focus (intro w hSw; (try dsimp only at hSw); go_simp; try with_reducible rfl))
          simp only [PT]
          refine tk 25 (oi := ⟨some 103, _, _, _, _, _⟩) (v := ?_) rfl (by kernel_rfl) (.inl ⟨by rfl, ?_⟩) hHeld ?_; rotate_left; focus (intro w hSw; (try dsimp only at hSw); go_simp; try with_reducible rfl)
          simp only [PT]
          refine tk 26 (oi := ⟨some 8, _, _, _, _, _⟩) (v := ?_) rfl (by kernel_rfl) (.inl ⟨by rfl, ?_⟩) hHeld ?_; rotate_left; focus (intro w hSw; (try dsimp only at hSw); go_simp; try with_reducible rfl)
          simp only [PT]
          refine wpAnyH_done (by kernel_rfl) ?_ _
          go_wp2
          go_ret
          exact ⟨rfl, HB.out⟩
      ·
        refine wp_region_held_drew (S := fun u__ => FrA g4 g5 a b u__) (by kernel_rfl) ?_ (fun hHeld => ?_)
        focus (exact HA.out)
        refine' tk 0 (oi := ⟨some 78, _, _, _, _, _⟩) (v := _) rfl (by kernel_rfl) (yieldsIf_load_mid (by rfl) _ _ rfl _ _ rfl (a.cells) _ (fun _ h => range_block h.1) (Try.underlying28) rfl (HIa.out)) hHeld ?_
        simp only [PT]
        refine wpAnyH_ready (rs := [1]) (by kernel_rfl) (by simp) ?_
        refine (AllReadyH.cons (o := ⟨some 79, _, _, _, _, _⟩) rfl (fun K hK => ?_) AllReadyH.nil)
        focus (first | (refine skip_step ?_ ?_; focus (rfl)) | (go_simp; go_must (refine (refRight_any a HO.out.1 HO.out.2.2.1 _).mono ?_); rw [ha]; rintro e w5 ⟨rfl, hb__⟩; have hE__ := cU HB bup hb__; replace HB := ck HB hE__; (try replace HG4 := ck HG4 hE__); (try replace HG5 := ck HG5 hE__); (try replace HG6 := ck HG6 hE__); (try replace HA := ck HA hE__); clear hE__ hb__; go_wp2_with fail))
        refine hK.out _ _ ?_ (fun hHeld => ?_)
        focus (exact HA.out)
        clear hK K
        try simp only [PT]
        refine tk 2 (oi := ⟨some 80, _, _, _, _, _⟩) (v := ?_) rfl (by kernel_rfl) (.inl ⟨by rfl, ?_⟩) hHeld ?_; rotate_left; focus (intro w hSw; (try dsimp only at hSw); go_simp; try with_reducible rfl)
        simp only [PT]
        refine tk 3 (oi := ⟨some 81, _, _, _, _, _⟩) (v := ?_) rfl (by kernel_rfl) (.inl ⟨by rfl, ?_⟩) hHeld ?_; rotate_left; focus (intro w hSw; (try dsimp only at hSw); go_simp; try with_reducible rfl)
        simp only [PT]
        first | (refine tk 4 (oi := ⟨some 82, _, _, _, _, _⟩) (v := undef) rfl (by kernel_rfl) (.inr ⟨by rfl, rfl⟩) hHeld ?_) | (refine' tk 4 (oi := ⟨some 82, _, _, _, _, _⟩) (v := _) rfl (by kernel_rfl) (yieldsIf_load_mid (by rfl) _ _ rfl _ _ rfl (b.cells) _ (fun _ h => range_block h.2) (Try.underlying28) rfl (HIb.out)) hHeld ?_)
        simp only [PT]
        refine wpAnyH_ready (rs := [5]) (by kernel_rfl) (by simp) ?_
        refine (AllReadyH.cons (o := ⟨some 83, _, _, _, _, _⟩) rfl (fun K hK => ?_) AllReadyH.nil)
        focus (first | (refine skip_step ?_ ?_; focus (rfl)) | (go_simp; go_must (refine (refRight_any b HO.out.2.1 HO.out.2.2.2 _).mono ?_); rw [hb]; rintro e w5 ⟨rfl, hb__⟩; have hE__ := cU HB bup hb__; replace HB := ck HB hE__; (try replace HG4 := ck HG4 hE__); (try replace HG5 := ck HG5 hE__); (try replace HG6 := ck HG6 hE__); (try replace HA := ck HA hE__); clear hE__ hb__; go_wp2_with fail))
        refine hK.out _ _ ?_ (fun hHeld => ?_)
        focus (exact HA.out)
        clear hK K
        try simp only [PT]
        first | (refine tk 6 (oi := ⟨some 84, _, _, _, _, _⟩) (v := undef) rfl (by kernel_rfl) (.inr ⟨by rfl, rfl⟩) hHeld ?_) | (refine tk 6 (oi := ⟨some 84, _, _, _, _, _⟩) (v := ?_) rfl (by kernel_rfl) (.inl ⟨by rfl, ?_⟩) hHeld ?_; rotate_left; focus (intro w hSw; (try dsimp only at hSw); go_simp; try with_reducible rfl))
        simp only [PT]
        refine tk 7 (oi := ⟨some 85, _, _, _, _, _⟩) (v := ?_) rfl (by kernel_rfl) (.inl ⟨by rfl, ?_⟩) hHeld ?_; rotate_left; focus (intro w hSw; (try dsimp only at hSw); go_simp; try with_reducible rfl)
        simp only [PT]
        refine tk 8 (oi := ⟨some 86, _, _, _, _, _⟩) (v := ?_) rfl (by kernel_rfl) (.inl ⟨by rfl, ?_⟩) hHeld ?_; rotate_left; focus (intro w hSw; (try dsimp only at hSw); go_simp; try with_reducible rfl)
        simp only [PT]
        first | (refine tk 9 (oi := ⟨some 87, _, _, _, _, _⟩) (v := undef) rfl (by kernel_rfl) (.inr ⟨by rfl, rfl⟩) hHeld ?_) | (refine' tk 9 (oi := ⟨some 87, _, _, _, _, _⟩) (v := _) rfl (by kernel_rfl) (yieldsIf_load_mid (by rfl) _ _ rfl _ _ rfl (a.cells) _ (fun _ h => range_block h.1) (Try.underlying28) rfl (HIa.out)) hHeld ?_)
        simp only [PT]
        first | (refine tk 10 (oi := ⟨some 88, _, _, _, _, _⟩) (v := undef) rfl (by kernel_rfl) (.inr ⟨by rfl, rfl⟩) hHeld ?_) | (refine' tk 10 (oi := ⟨some 88, _, _, _, _, _⟩) (v := _) rfl (by kernel_rfl) (yieldsIf_load_mid (by rfl) _ _ rfl _ _ rfl (b.cells) _ (fun _ h => range_block h.2) (Try.underlying28) rfl (HIb.out)) hHeld ?_)
        simp only [PT]
        first | (refine tk 12 (oi := ⟨some 90, _, _, _, _, _⟩) (v := undef) rfl (by kernel_rfl) (.inr ⟨by rfl, rfl⟩) hHeld ?_) | (refine' tk 12 (oi := ⟨some 90, _, _, _, _, _⟩) (v := _) rfl (by kernel_rfl) (yieldsIf_load_mid (by rfl) _ _ rfl _ _ rfl (a.cells) _ (fun _ h => range_block h.1) (Try.underlying28) rfl (HIa.out)) hHeld ?_)
        simp only [PT]
        first | (refine tk 13 (oi := ⟨some 91, _, _, _, _, _⟩) (v := undef) rfl (by kernel_rfl) (.inr ⟨by rfl, rfl⟩) hHeld ?_) | (refine' tk 13 (oi := ⟨some 91, _, _, _, _, _⟩) (v := _) rfl (by kernel_rfl) (yieldsIf_load_mid (by rfl) _ _ rfl _ _ rfl (b.cells) _ (fun _ h => range_block h.2) (Try.underlying28) rfl (HIb.out)) hHeld ?_)
        simp only [PT]
        refine wpAnyH_ready (rs := [11]) (by kernel_rfl) (by simp) ?_
        refine (AllReadyH.cons (o := ⟨some 89, _, _, _, _, _⟩) rfl (fun K hK => ?_) AllReadyH.nil)
        focus (first | (refine skip_step ?_ ?_; focus (rfl)) | (go_simp; go_must (refine (older_any a b HOa.out HOb.out (right_no HRa.out) (right_no HRb.out) _).mono ?_); rintro e w5 ⟨rfl, hb__⟩; have hE__ := cU HB bup hb__; replace HB := ck HB hE__; (try replace HG4 := ck HG4 hE__); (try replace HG5 := ck HG5 hE__); (try replace HG6 := ck HG6 hE__); (try replace HA := ck HA hE__); clear hE__ hb__; go_wp2_with fail))
        refine hK.out _ _ ?_ (fun hHeld => ?_)
        focus (exact HA.out)
        clear hK K
        try simp only [PT]
        refine wpAnyH_ready (rs := [14]) (by kernel_rfl) (by simp) ?_
        refine (AllReadyH.cons (o := ⟨some 92, _, _, _, _, _⟩) rfl (fun K hK => ?_) AllReadyH.nil)
        focus (first | (refine skip_step ?_ ?_; focus (rfl)) | (go_simp; go_must (refine (refOlder_any a b HOa.out HOb.out (right_fit HRa.out) (right_fit HRb.out) _).mono ?_); rintro e w5 ⟨rfl, hb__⟩; have hE__ := cU HB bup hb__; replace HB := ck HB hE__; (try replace HG4 := ck HG4 hE__); (try replace HG5 := ck HG5 hE__); (try replace HG6 := ck HG6 hE__); (try replace HA := ck HA hE__); clear hE__ hb__; go_wp2_with fail))
        refine hK.out _ _ ?_ (fun hHeld => ?_)
        focus (exact HA.out)
        clear hK K
        try simp only [PT]
        first | (refine tk 15 (oi := ⟨some 93, _, _, _, _, _⟩) (v := undef) rfl (by kernel_rfl) (.inr ⟨by rfl, rfl⟩) hHeld ?_) | (refine' tk 15 (oi := ⟨some 93, _, _, _, _, _⟩) (v := (.bool true)) rfl (by kernel_rfl) (.inl ⟨by rfl, ?_⟩) hHeld ?_; focus (intro w hSw; (try dsimp only at hSw); go_simp; first | done | rfl | (simp [*]; done) | (simp [*]; omega)))
        simp only [PT]
        first | (refine tk 16 (oi := ⟨some 94, _, _, _, _, _⟩) (v := undef) rfl (by kernel_rfl) (.inr ⟨by rfl, rfl⟩) hHeld ?_) | (refine tk 16 (oi := ⟨some 94, _, _, _, _, _⟩) (v := ?_) rfl (by kernel_rfl) (.inl ⟨by rfl, ?_⟩) hHeld ?_; rotate_left; focus (intro w hSw; (try dsimp only at hSw); go_simp; try with_reducible rfl))
        simp only [PT]
        first | (refine tk 17 (oi := ⟨some 95, _, _, _, _, _⟩) (v := undef) rfl (by kernel_rfl) (.inr ⟨by rfl, rfl⟩) hHeld ?_) | (refine' tk 17 (oi := ⟨some 95, _, _, _, _, _⟩) (v := _) rfl (by kernel_rfl) (yieldsIf_load_mid (by rfl) _ _ rfl _ _ rfl (b.cells) _ (fun _ h => range_block h.2) (Try.underlying28) rfl (HIb.out)) hHeld ?_)
        simp only [PT]
        first | (refine tk 18 (oi := ⟨some 96, _, _, _, _, _⟩) (v := undef) rfl (by kernel_rfl) (.inr ⟨by rfl, rfl⟩) hHeld ?_) | (refine' tk 18 (oi := ⟨some 96, _, _, _, _, _⟩) (v := _) rfl (by kernel_rfl) (yieldsIf_load_mid (by rfl) _ _ rfl _ _ rfl (a.cells) _ (fun _ h => range_block h.1) (Try.underlying28) rfl (HIa.out)) hHeld ?_)
        simp only [PT]
        first | (refine tk 20 (oi := ⟨some 98, _, _, _, _, _⟩) (v := undef) rfl (by kernel_rfl) (.inr ⟨by rfl, rfl⟩) hHeld ?_) | (refine' tk 20 (oi := ⟨some 98, _, _, _, _, _⟩) (v := _) rfl (by kernel_rfl) (yieldsIf_load_mid (by rfl) _ _ rfl _ _ rfl (b.cells) _ (fun _ h => range_block h.2) (Try.underlying28) rfl (HIb.out)) hHeld ?_)
        simp only [PT]
        first | (refine tk 21 (oi := ⟨some 99, _, _, _, _, _⟩) (v := undef) rfl (by kernel_rfl) (.inr ⟨by rfl, rfl⟩) hHeld ?_) | (refine' tk 21 (oi := ⟨some 99, _, _, _, _, _⟩) (v := _) rfl (by kernel_rfl) (yieldsIf_load_mid (by rfl) _ _ rfl _ _ rfl (a.cells) _ (fun _ h => range_block h.1) (Try.underlying28) rfl (HIa.out)) hHeld ?_)
        simp only [PT]
        refine wpAnyH_ready (rs := [19]) (by kernel_rfl) (by simp) ?_
        refine (AllReadyH.cons (o := ⟨some 97, _, _, _, _, _⟩) rfl (fun K hK => ?_) AllReadyH.nil)
        focus (first | (refine skip_step ?_ ?_; focus (rfl)) | (go_simp; go_must (refine (older_any b a HOb.out HOa.out (right_no HRb.out) (right_no HRa.out) _).mono ?_); rintro e w5 ⟨rfl, hb__⟩; have hE__ := cU HB bup hb__; replace HB := ck HB hE__; (try replace HG4 := ck HG4 hE__); (try replace HG5 := ck HG5 hE__); (try replace HG6 := ck HG6 hE__); (try replace HA := ck HA hE__); clear hE__ hb__; go_wp2_with fail))
        refine hK.out _ _ ?_ (fun hHeld => ?_)
        focus (exact HA.out)
        clear hK K
        try simp only [PT]
        refine wpAnyH_ready (rs := [22]) (by kernel_rfl) (by simp) ?_
        refine (AllReadyH.cons (o := ⟨some 100, _, _, _, _, _⟩) rfl (fun K hK => ?_) AllReadyH.nil)
        focus (first | (refine skip_step ?_ ?_; focus (rfl)) | (go_simp; go_must (refine (refOlder_any b a HOb.out HOa.out (right_fit HRb.out) (right_fit HRa.out) _).mono ?_); rintro e w5 ⟨rfl, hb__⟩; have hE__ := cU HB bup hb__; replace HB := ck HB hE__; (try replace HG4 := ck HG4 hE__); (try replace HG5 := ck HG5 hE__); (try replace HG6 := ck HG6 hE__); (try replace HA := ck HA hE__); clear hE__ hb__; go_wp2_with fail))
        refine hK.out _ _ ?_ (fun hHeld => ?_)
        focus (exact HA.out)
        clear hK K
        try simp only [PT]
        first | (refine tk 23 (oi := ⟨some 101, _, _, _, _, _⟩) (v := undef) rfl (by kernel_rfl) (.inr ⟨by rfl, rfl⟩) hHeld ?_) | (refine' tk 23 (oi := ⟨some 101, _, _, _, _, _⟩) (v := (.bool true)) rfl (by kernel_rfl) (.inl ⟨by rfl, ?_⟩) hHeld ?_; focus (intro w hSw; (try dsimp only at hSw); go_simp; first | done | rfl | (simp [*]; done) | (simp [*]; omega)))
        simp only [PT]
        first | (refine tk 24 (oi := ⟨some 102, _, _, _, _, _⟩) (v := undef) rfl (by kernel_rfl) (.inr ⟨by rfl, rfl⟩) hHeld ?_) | (refine tk 24 (oi := ⟨some 102, _, _, _, _, _⟩) (v := ?_) rfl (by kernel_rfl) (.inl ⟨by rfl, ?_⟩) hHeld ?_; rotate_left; focus (intro w hSw; (try dsimp only at hSw); go_simp; try with_reducible rfl))
        simp only [PT]
        refine tk 25 (oi := ⟨some 103, _, _, _, _, _⟩) (v := ?_) rfl (by kernel_rfl) (.inl ⟨by rfl, ?_⟩) hHeld ?_; rotate_left; focus (intro w hSw; (try dsimp only at hSw); go_simp; try with_reducible rfl)
        simp only [PT]
        refine tk 26 (oi := ⟨some 8, _, _, _, _, _⟩) (v := ?_) rfl (by kernel_rfl) (.inl ⟨by rfl, ?_⟩) hHeld ?_; rotate_left; focus (intro w hSw; (try dsimp only at hSw); go_simp; try with_reducible rfl)
        simp only [PT]
        refine wpAnyH_done (by kernel_rfl) ?_ _
        go_wp2
        go_ret
        exact ⟨rfl, HB.out⟩

  · have d1 : decide ((1 : Int) ≤ n) = true := decide_eq_true (by omega)
    have d2 : decide (n ≤ (4096 : Int)) = true := decide_eq_true (by omega)
    have HT := Lib.hid ht
    clear ht
    go_wp2_with (go_at_call 12; go_must (refine (len_any p q kb _ 0 _ _ HT.out).mono ?_); rintro e w5 ⟨rfl, hb__⟩; clear HT; have hE__ := cU HB bup hb__; replace HB := ck HB hE__; (try replace HG4 := ck HG4 hE__); (try replace HG5 := ck HG5 hE__); (try replace HG6 := ck HG6 hE__); (try replace HA := ck HA hE__); clear hE__ hb__)
    clear d1 d2
    refine wp_region_held_drew (S := fun u__ => FrA g4 g5 a b u__) (by kernel_rfl) ?_ (fun hHeld => ?_)
    focus (exact HA.out)
    refine' tk 0 (oi := ⟨some 66, _, _, _, _, _⟩) (v := _) rfl (by kernel_rfl) (yieldsIf_load_mid (by rfl) _ _ rfl _ _ rfl (a.cells) _ (fun _ h => range_block h.1) (Try.underlying28) rfl (HIa.out)) hHeld ?_
    simp only [PT]
    refine' tk 2 (oi := ⟨some 68, _, _, _, _, _⟩) (v := _) rfl (by kernel_rfl) (yieldsIf_load_mid (by rfl) _ _ rfl _ _ rfl (a.cells) _ (fun _ h => range_block h.1) (Try.underlying28) rfl (HIa.out)) hHeld ?_
    simp only [PT]
    refine wpAnyH_ready (rs := [1]) (by kernel_rfl) (by simp) ?_
    refine (AllReadyH.cons (o := ⟨some 67, _, _, _, _, _⟩) rfl (fun K hK => ?_) AllReadyH.nil)
    focus (first | (refine skip_step ?_ ?_; focus (rfl)) | (go_simp; go_must (refine (right_any a HO.out.1 HO.out.2.2.1 _).mono ?_); rintro e w5 ⟨rfl, hb__⟩; have hE__ := cU HB bup hb__; replace HB := ck HB hE__; (try replace HG4 := ck HG4 hE__); (try replace HG5 := ck HG5 hE__); (try replace HG6 := ck HG6 hE__); (try replace HA := ck HA hE__); clear hE__ hb__; go_wp2_with fail))
    refine hK.out _ _ ?_ (fun hHeld => ?_)
    focus (exact HA.out)
    clear hK K
    try simp only [PT]
    refine wpAnyH_ready (rs := [3]) (by kernel_rfl) (by simp) ?_
    refine (AllReadyH.cons (o := ⟨some 69, _, _, _, _, _⟩) rfl (fun K hK => ?_) AllReadyH.nil)
    focus (first | (refine skip_step ?_ ?_; focus (rfl)) | (go_simp; go_must (refine (refRight_any a HO.out.1 HO.out.2.2.1 _).mono ?_); rintro e w5 ⟨rfl, hb__⟩; have hE__ := cU HB bup hb__; replace HB := ck HB hE__; (try replace HG4 := ck HG4 hE__); (try replace HG5 := ck HG5 hE__); (try replace HG6 := ck HG6 hE__); (try replace HA := ck HA hE__); clear hE__ hb__; go_wp2_with fail))
    refine hK.out _ _ ?_ (fun hHeld => ?_)
    focus (exact HA.out)
    clear hK K
    try simp only [PT]
    refine' tk 4 (oi := ⟨some 70, _, _, _, _, _⟩) (v := (.bool false)) rfl (by kernel_rfl) (.inl ⟨by rfl, ?_⟩) hHeld ?_; focus (intro w hSw; (try dsimp only at hSw); go_simp; first | done | rfl | (simp [*]; done) | (simp [*]; omega))
    simp only [PT]
    refine tk 5 (oi := ⟨some 71, _, _, _, _, _⟩) (v := ?_) rfl (by kernel_rfl) (.inl ⟨by rfl, ?_⟩) hHeld ?_; rotate_left; focus (intro w hSw; (try dsimp only at hSw); go_simp; try with_reducible rfl)
    simp only [PT]
    first | (refine tk 6 (oi := ⟨some 72, _, _, _, _, _⟩) (v := undef) rfl (by kernel_rfl) (.inr ⟨by rfl, rfl⟩) hHeld ?_) | (refine' tk 6 (oi := ⟨some 72, _, _, _, _, _⟩) (v := _) rfl (by kernel_rfl) (yieldsIf_load_mid (by rfl) _ _ rfl _ _ rfl (b.cells) _ (fun _ h => range_block h.2) (Try.underlying28) rfl (HIb.out)) hHeld ?_)
    simp only [PT]
    first | (refine tk 8 (oi := ⟨some 74, _, _, _, _, _⟩) (v := undef) rfl (by kernel_rfl) (.inr ⟨by rfl, rfl⟩) hHeld ?_) | (refine' tk 8 (oi := ⟨some 74, _, _, _, _, _⟩) (v := _) rfl (by kernel_rfl) (yieldsIf_load_mid (by rfl) _ _ rfl _ _ rfl (b.cells) _ (fun _ h => range_block h.2) (Try.underlying28) rfl (HIb.out)) hHeld ?_)
    simp only [PT]
    refine wpAnyH_ready (rs := [7]) (by kernel_rfl) (by simp) ?_
    refine (AllReadyH.cons (o := ⟨some 73, _, _, _, _, _⟩) rfl (fun K hK => ?_) AllReadyH.nil)
    focus (first | (refine skip_step ?_ ?_; focus (rfl)) | (go_simp; go_must (refine (right_any b HO.out.2.1 HO.out.2.2.2 _).mono ?_); rintro e w5 ⟨rfl, hb__⟩; have hE__ := cU HB bup hb__; replace HB := ck HB hE__; (try replace HG4 := ck HG4 hE__); (try replace HG5 := ck HG5 hE__); (try replace HG6 := ck HG6 hE__); (try replace HA := ck HA hE__); clear hE__ hb__; go_wp2_with fail))
    refine hK.out _ _ ?_ (fun hHeld => ?_)
    focus (exact HA.out)
    clear hK K
    try simp only [PT]
    refine wpAnyH_ready (rs := [9]) (by kernel_rfl) (by simp) ?_
    refine (AllReadyH.cons (o := ⟨some 75, _, _, _, _, _⟩) rfl (fun K hK => ?_) AllReadyH.nil)
    focus (first | (refine skip_step ?_ ?_; focus (rfl)) | (go_simp; go_must (refine (refRight_any b HO.out.2.1 HO.out.2.2.2 _).mono ?_); rintro e w5 ⟨rfl, hb__⟩; have hE__ := cU HB bup hb__; replace HB := ck HB hE__; (try replace HG4 := ck HG4 hE__); (try replace HG5 := ck HG5 hE__); (try replace HG6 := ck HG6 hE__); (try replace HA := ck HA hE__); clear hE__ hb__; go_wp2_with fail))
    refine hK.out _ _ ?_ (fun hHeld => ?_)
    focus (exact HA.out)
    clear hK K
    try simp only [PT]
    first | (refine tk 10 (oi := ⟨some 76, _, _, _, _, _⟩) (v := undef) rfl (by kernel_rfl) (.inr ⟨by rfl, rfl⟩) hHeld ?_) | (refine' tk 10 (oi := ⟨some 76, _, _, _, _, _⟩) (v := (.bool false)) rfl (by kernel_rfl) (.inl ⟨by rfl, ?_⟩) hHeld ?_; focus (intro w hSw; (try dsimp only at hSw); go_simp; first | done | rfl | (simp [*]; done) | (simp [*]; omega)))
    simp only [PT]
    refine tk 11 (oi := ⟨some 77, _, _, _, _, _⟩) (v := ?_) rfl (by kernel_rfl) (.inl ⟨by rfl, ?_⟩) hHeld ?_; rotate_left; focus (intro w hSw; (try dsimp only at hSw); go_simp; try with_reducible rfl)
    simp only [PT]
    refine wpAnyH_done (by kernel_rfl) ?_ _
    go_wp2_with fail
    rcases two (rightF a) with ha | ha
    · rcases two (rightF b) with hb | hb
      · have HRa := Lib.hid ha
        have HRb := Lib.hid hb
        refine wp_region_held_drew (S := fun u__ => FrA g4 g5 a b u__) (by kernel_rfl) ?_ (fun hHeld => ?_)
        focus (exact HA.out)
        refine' tk 0 (oi := ⟨some 78, _, _, _, _, _⟩) (v := _) rfl (by kernel_rfl) (yieldsIf_load_mid (by rfl) _ _ rfl _ _ rfl (a.cells) _ (fun _ h => range_block h.1) (Try.underlying28) rfl (HIa.out)) hHeld ?_
        simp only [PT]
        refine wpAnyH_ready (rs := [1]) (by kernel_rfl) (by simp) ?_
        refine (AllReadyH.cons (o := ⟨some 79, _, _, _, _, _⟩) rfl (fun K hK => ?_) AllReadyH.nil)
        focus (first | (refine skip_step ?_ ?_; focus (rfl)) | (go_simp; go_must (refine (refRight_any a HO.out.1 HO.out.2.2.1 _).mono ?_); rw [ha]; rintro e w5 ⟨rfl, hb__⟩; have hE__ := cU HB bup hb__; replace HB := ck HB hE__; (try replace HG4 := ck HG4 hE__); (try replace HG5 := ck HG5 hE__); (try replace HG6 := ck HG6 hE__); (try replace HA := ck HA hE__); clear hE__ hb__; go_wp2_with fail))
        refine hK.out _ _ ?_ (fun hHeld => ?_)
        focus (exact HA.out)
        clear hK K
        try simp only [PT]
        refine tk 2 (oi := ⟨some 80, _, _, _, _, _⟩) (v := ?_) rfl (by kernel_rfl) (.inl ⟨by rfl, ?_⟩) hHeld ?_; rotate_left; focus (intro w hSw; (try dsimp only at hSw); go_simp; try with_reducible rfl)
        simp only [PT]
        refine tk 3 (oi := ⟨some 81, _, _, _, _, _⟩) (v := ?_) rfl (by kernel_rfl) (.inl ⟨by rfl, ?_⟩) hHeld ?_; rotate_left; focus (intro w hSw; (try dsimp only at hSw); go_simp; try with_reducible rfl)
        simp only [PT]
        first | (refine tk 4 (oi := ⟨some 82, _, _, _, _, _⟩) (v := undef) rfl (by kernel_rfl) (.inr ⟨by rfl, rfl⟩) hHeld ?_) | (refine' tk 4 (oi := ⟨some 82, _, _, _, _, _⟩) (v := _) rfl (by kernel_rfl) (yieldsIf_load_mid (by rfl) _ _ rfl _ _ rfl (b.cells) _ (fun _ h => range_block h.2) (Try.underlying28) rfl (HIb.out)) hHeld ?_)
        simp only [PT]
        refine wpAnyH_ready (rs := [5]) (by kernel_rfl) (by simp) ?_
        refine (AllReadyH.cons (o := ⟨some 83, _, _, _, _, _⟩) rfl (fun K hK => ?_) AllReadyH.nil)
        focus (first | (refine skip_step ?_ ?_; focus (rfl)) | (go_simp; go_must (refine (refRight_any b HO.out.2.1 HO.out.2.2.2 _).mono ?_); rw [hb]; rintro e w5 ⟨rfl, hb__⟩; have hE__ := cU HB bup hb__; replace HB := ck HB hE__; (try replace HG4 := ck HG4 hE__); (try replace HG5 := ck HG5 hE__); (try replace HG6 := ck HG6 hE__); (try replace HA := ck HA hE__); clear hE__ hb__; go_wp2_with fail))
        refine hK.out _ _ ?_ (fun hHeld => ?_)
        focus (exact HA.out)
        clear hK K
        try simp only [PT]
        first | (refine tk 6 (oi := ⟨some 84, _, _, _, _, _⟩) (v := undef) rfl (by kernel_rfl) (.inr ⟨by rfl, rfl⟩) hHeld ?_) | (refine tk 6 (oi := ⟨some 84, _, _, _, _, _⟩) (v := ?_) rfl (by kernel_rfl) (.inl ⟨by rfl, ?_⟩) hHeld ?_; rotate_left; focus (intro w hSw; (try dsimp only at hSw); go_simp; try with_reducible rfl))
        simp only [PT]
        refine tk 7 (oi := ⟨some 85, _, _, _, _, _⟩) (v := ?_) rfl (by kernel_rfl) (.inl ⟨by rfl, ?_⟩) hHeld ?_; rotate_left; focus (intro w hSw; (try dsimp only at hSw); go_simp; try with_reducible rfl)
        simp only [PT]
        refine tk 8 (oi := ⟨some 86, _, _, _, _, _⟩) (v := ?_) rfl (by kernel_rfl) (.inl ⟨by rfl, ?_⟩) hHeld ?_; rotate_left; focus (intro w hSw; (try dsimp only at hSw); go_simp; try with_reducible rfl)
        simp only [PT]
        first | (refine tk 9 (oi := ⟨some 87, _, _, _, _, _⟩) (v := undef) rfl (by kernel_rfl) (.inr ⟨by rfl, rfl⟩) hHeld ?_) | (refine' tk 9 (oi := ⟨some 87, _, _, _, _, _⟩) (v := _) rfl (by kernel_rfl) (yieldsIf_load_mid (by rfl) _ _ rfl _ _ rfl (a.cells) _ (fun _ h => range_block h.1) (Try.underlying28) rfl (HIa.out)) hHeld ?_)
        simp only [PT]
        first | (refine tk 10 (oi := ⟨some 88, _, _, _, _, _⟩) (v := undef) rfl (by kernel_rfl) (.inr ⟨by rfl, rfl⟩) hHeld ?_) | (refine' tk 10 (oi := ⟨some 88, _, _, _, _, _⟩) (v := _) rfl (by kernel_rfl) (yieldsIf_load_mid (by rfl) _ _ rfl _ _ rfl (b.cells) _ (fun _ h => range_block h.2) (Try.underlying28) rfl (HIb.out)) hHeld ?_)
        simp only [PT]
        first | (refine tk 12 (oi := ⟨some 90, _, _, _, _, _⟩) (v := undef) rfl (by kernel_rfl) (.inr ⟨by rfl, rfl⟩) hHeld ?_) | (refine' tk 12 (oi := ⟨some 90, _, _, _, _, _⟩) (v := _) rfl (by kernel_rfl) (yieldsIf_load_mid (by rfl) _ _ rfl _ _ rfl (a.cells) _ (fun _ h => range_block h.1) (Try.underlying28) rfl (HIa.out)) hHeld ?_)
        simp only [PT]
        first | (refine tk 13 (oi := ⟨some 91, _, _, _, _, _⟩) (v := undef) rfl (by kernel_rfl) (.inr ⟨by rfl, rfl⟩) hHeld ?_) | (refine' tk 13 (oi := ⟨some 91, _, _, _, _, _⟩) (v := _) rfl (by kernel_rfl) (yieldsIf_load_mid (by rfl) _ _ rfl _ _ rfl (b.cells) _ (fun _ h => range_block h.2) (Try.underlying28) rfl (HIb.out)) hHeld ?_)
        simp only [PT]
        refine wpAnyH_ready (rs := [11]) (by kernel_rfl) (by simp) ?_
        refine (AllReadyH.cons (o := ⟨some 89, _, _, _, _, _⟩) rfl (fun K hK => ?_) AllReadyH.nil)
        focus (first | (refine skip_step ?_ ?_; focus (rfl)) | (go_simp; go_must (refine (older_any a b HOa.out HOb.out (right_no HRa.out) (right_no HRb.out) _).mono ?_); rintro e w5 ⟨rfl, hb__⟩; have hE__ := cU HB bup hb__; replace HB := ck HB hE__; (try replace HG4 := ck HG4 hE__); (try replace HG5 := ck HG5 hE__); (try replace HG6 := ck HG6 hE__); (try replace HA := ck HA hE__); clear hE__ hb__; go_wp2_with fail))
        refine hK.out _ _ ?_ (fun hHeld => ?_)
        focus (exact HA.out)
        clear hK K
        try simp only [PT]
        refine wpAnyH_ready (rs := [14]) (by kernel_rfl) (by simp) ?_
        refine (AllReadyH.cons (o := ⟨some 92, _, _, _, _, _⟩) rfl (fun K hK => ?_) AllReadyH.nil)
        focus (first | (refine skip_step ?_ ?_; focus (rfl)) | (go_simp; go_must (refine (refOlder_any a b HOa.out HOb.out (right_fit HRa.out) (right_fit HRb.out) _).mono ?_); rintro e w5 ⟨rfl, hb__⟩; have hE__ := cU HB bup hb__; replace HB := ck HB hE__; (try replace HG4 := ck HG4 hE__); (try replace HG5 := ck HG5 hE__); (try replace HG6 := ck HG6 hE__); (try replace HA := ck HA hE__); clear hE__ hb__; go_wp2_with fail))
        refine hK.out _ _ ?_ (fun hHeld => ?_)
        focus (exact HA.out)
        clear hK K
        try simp only [PT]
        first | (refine tk 15 (oi := ⟨some 93, _, _, _, _, _⟩) (v := undef) rfl (by kernel_rfl) (.inr ⟨by rfl, rfl⟩) hHeld ?_) | (refine' tk 15 (oi := ⟨some 93, _, _, _, _, _⟩) (v := (.bool true)) rfl (by kernel_rfl) (.inl ⟨by rfl, ?_⟩) hHeld ?_; focus (intro w hSw; (try dsimp only at hSw); go_simp; first | done | rfl | (simp [*]; done) | (simp [*]; omega)))
        simp only [PT]
        first | (refine tk 16 (oi := ⟨some 94, _, _, _, _, _⟩) (v := undef) rfl (by kernel_rfl) (.inr ⟨by rfl, rfl⟩) hHeld ?_) | (refine tk 16 (oi := ⟨some 94, _, _, _, _, _⟩) (v := ?_) rfl (by kernel_rfl) (.inl ⟨by rfl, ?_⟩) hHeld ?_; rotate_left; focus (intro w hSw; (try dsimp only at hSw); go_simp; try with_reducible rfl))
        simp only [PT]
        first | (refine tk 17 (oi := ⟨some 95, _, _, _, _, _⟩) (v := undef) rfl (by kernel_rfl) (.inr ⟨by rfl, rfl⟩) hHeld ?_) | (refine' tk 17 (oi := ⟨some 95, _, _, _, _, _⟩) (v := _) rfl (by kernel_rfl) (yieldsIf_load_mid (by rfl) _ _ rfl _ _ rfl (b.cells) _ (fun _ h => range_block h.2) (Try.underlying28) rfl (HIb.out)) hHeld ?_)
        simp only [PT]
        first | (refine tk 18 (oi := ⟨some 96, _, _, _, _, _⟩) (v := undef) rfl (by kernel_rfl) (.inr ⟨by rfl, rfl⟩) hHeld ?_) | (refine' tk 18 (oi := ⟨some 96, _, _, _, _, _⟩) (v := _) rfl (by kernel_rfl) (yieldsIf_load_mid (by rfl) _ _ rfl _ _ rfl (a.cells) _ (fun _ h => range_block h.1) (Try.underlying28) rfl (HIa.out)) hHeld ?_)
        simp only [PT]
        first | (refine tk 20 (oi := ⟨some 98, _, _, _, _, _⟩) (v := undef) rfl (by kernel_rfl) (.inr ⟨by rfl, rfl⟩) hHeld ?_) | (refine' tk 20 (oi := ⟨some 98, _, _, _, _, _⟩) (v := _) rfl (by kernel_rfl) (yieldsIf_load_mid (by rfl) _ _ rfl _ _ rfl (b.cells) _ (fun _ h => range_block h.2) (Try.underlying28) rfl (HIb.out)) hHeld ?_)
        simp only [PT]
        first | (refine tk 21 (oi := ⟨some 99, _, _, _, _, _⟩) (v := undef) rfl (by kernel_rfl) (.inr ⟨by rfl, rfl⟩) hHeld ?_) | (refine' tk 21 (oi := ⟨some 99, _, _, _, _, _⟩) (v := _) rfl (by kernel_rfl) (yieldsIf_load_mid (by rfl) _ _ rfl _ _ rfl (a.cells) _ (fun _ h => range_block h.1) (Try.underlying28) rfl (HIa.out)) hHeld ?_)
        simp only [PT]
        refine wpAnyH_ready (rs := [19]) (by kernel_rfl) (by simp) ?_
        refine (AllReadyH.cons (o := ⟨some 97, _, _, _, _, _⟩) rfl (fun K hK => ?_) AllReadyH.nil)
        focus (first | (refine skip_step ?_ ?_; focus (rfl)) | (go_simp; go_must (refine (older_any b a HOb.out HOa.out (right_no HRb.out) (right_no HRa.out) _).mono ?_); rintro e w5 ⟨rfl, hb__⟩; have hE__ := cU HB bup hb__; replace HB := ck HB hE__; (try replace HG4 := ck HG4 hE__); (try replace HG5 := ck HG5 hE__); (try replace HG6 := ck HG6 hE__); (try replace HA := ck HA hE__); clear hE__ hb__; go_wp2_with fail))
        refine hK.out _ _ ?_ (fun hHeld => ?_)
        focus (exact HA.out)
        clear hK K
        try simp only [PT]
        refine wpAnyH_ready (rs := [22]) (by kernel_rfl) (by simp) ?_
        refine (AllReadyH.cons (o := ⟨some 100, _, _, _, _, _⟩) rfl (fun K hK => ?_) AllReadyH.nil)
        focus (first | (refine skip_step ?_ ?_; focus (rfl)) | (go_simp; go_must (refine (refOlder_any b a HOb.out HOa.out (right_fit HRb.out) (right_fit HRa.out) _).mono ?_); rintro e w5 ⟨rfl, hb__⟩; have hE__ := cU HB bup hb__; replace HB := ck HB hE__; (try replace HG4 := ck HG4 hE__); (try replace HG5 := ck HG5 hE__); (try replace HG6 := ck HG6 hE__); (try replace HA := ck HA hE__); clear hE__ hb__; go_wp2_with fail))
        refine hK.out _ _ ?_ (fun hHeld => ?_)
        focus (exact HA.out)
        clear hK K
        try simp only [PT]
        first | (refine tk 23 (oi := ⟨some 101, _, _, _, _, _⟩) (v := undef) rfl (by kernel_rfl) (.inr ⟨by rfl, rfl⟩) hHeld ?_) | (refine' tk 23 (oi := ⟨some 101, _, _, _, _, _⟩) (v := (.bool true)) rfl (by kernel_rfl) (.inl ⟨by rfl, ?_⟩) hHeld ?_; focus (intro w hSw; (try dsimp only at hSw); go_simp; first | done | rfl | (simp [*]; done) | (simp [*]; omega)))
        simp only [PT]
        first | (refine tk 24 (oi := ⟨some 102, _, _, _, _, _⟩) (v := undef) rfl (by kernel_rfl) (.inr ⟨by rfl, rfl⟩) hHeld ?_) | (refine tk 24 (oi := ⟨some 102, _, _, _, _, _⟩) (v := ?_) rfl (by kernel_rfl) (.inl ⟨by rfl, ?_⟩) hHeld ?_; rotate_left; focus (intro w hSw; (try dsimp only at hSw); go_simp; try with_reducible rfl))
        simp only [PT]
        refine tk 25 (oi := ⟨some 103, _, _, _, _, _⟩) (v := ?_) rfl (by kernel_rfl) (.inl ⟨by rfl, ?_⟩) hHeld ?_; rotate_left; focus (intro w hSw; (try dsimp only at hSw); go_simp; try with_reducible rfl)
        simp only [PT]
        refine tk 26 (oi := ⟨some 8, _, _, _, _, _⟩) (v := ?_) rfl (by kernel_rfl) (.inl ⟨by rfl, ?_⟩) hHeld ?_; rotate_left; focus (intro w hSw; (try dsimp only at hSw); go_simp; try with_reducible rfl)
        simp only [PT]
        refine wpAnyH_done (by kernel_rfl) ?_ _
        go_wp2
        go_ret
        exact ⟨rfl, HB.out⟩
      ·
        refine wp_region_held_drew (S := fun u__ => FrA g4 g5 a b u__) (by kernel_rfl) ?_ (fun hHeld => ?_)
        focus (exact HA.out)
        refine' tk 0 (oi := ⟨some 78, _, _, _, _, _⟩) (v := _) rfl (by kernel_rfl) (yieldsIf_load_mid (by rfl) _ _ rfl _ _ rfl (a.cells) _ (fun _ h => range_block h.1) (Try.underlying28) rfl (HIa.out)) hHeld ?_
        simp only [PT]
        refine wpAnyH_ready (rs := [1]) (by kernel_rfl) (by simp) ?_
        refine (AllReadyH.cons (o := ⟨some 79, _, _, _, _, _⟩) rfl (fun K hK => ?_) AllReadyH.nil)
        focus (first | (refine skip_step ?_ ?_; focus (rfl)) | (go_simp; go_must (refine (refRight_any a HO.out.1 HO.out.2.2.1 _).mono ?_); rw [ha]; rintro e w5 ⟨rfl, hb__⟩; have hE__ := cU HB bup hb__; replace HB := ck HB hE__; (try replace HG4 := ck HG4 hE__); (try replace HG5 := ck HG5 hE__); (try replace HG6 := ck HG6 hE__); (try replace HA := ck HA hE__); clear hE__ hb__; go_wp2_with fail))
        refine hK.out _ _ ?_ (fun hHeld => ?_)
        focus (exact HA.out)
        clear hK K
        try simp only [PT]
        refine tk 2 (oi := ⟨some 80, _, _, _, _, _⟩) (v := ?_) rfl (by kernel_rfl) (.inl ⟨by rfl, ?_⟩) hHeld ?_; rotate_left; focus (intro w hSw; (try dsimp only at hSw); go_simp; try with_reducible rfl)
        simp only [PT]
        refine tk 3 (oi := ⟨some 81, _, _, _, _, _⟩) (v := ?_) rfl (by kernel_rfl) (.inl ⟨by rfl, ?_⟩) hHeld ?_; rotate_left; focus (intro w hSw; (try dsimp only at hSw); go_simp; try with_reducible rfl)
        simp only [PT]
        first | (refine tk 4 (oi := ⟨some 82, _, _, _, _, _⟩) (v := undef) rfl (by kernel_rfl) (.inr ⟨by rfl, rfl⟩) hHeld ?_) | (refine' tk 4 (oi := ⟨some 82, _, _, _, _, _⟩) (v := _) rfl (by kernel_rfl) (yieldsIf_load_mid (by rfl) _ _ rfl _ _ rfl (b.cells) _ (fun _ h => range_block h.2) (Try.underlying28) rfl (HIb.out)) hHeld ?_)
        simp only [PT]
        refine wpAnyH_ready (rs := [5]) (by kernel_rfl) (by simp) ?_
        refine (AllReadyH.cons (o := ⟨some 83, _, _, _, _, _⟩) rfl (fun K hK => ?_) AllReadyH.nil)
        focus (first | (refine skip_step ?_ ?_; focus (rfl)) | (go_simp; go_must (refine (refRight_any b HO.out.2.1 HO.out.2.2.2 _).mono ?_); rw [hb]; rintro e w5 ⟨rfl, hb__⟩; have hE__ := cU HB bup hb__; replace HB := ck HB hE__; (try replace HG4 := ck HG4 hE__); (try replace HG5 := ck HG5 hE__); (try replace HG6 := ck HG6 hE__); (try replace HA := ck HA hE__); clear hE__ hb__; go_wp2_with fail))
        refine hK.out _ _ ?_ (fun hHeld => ?_)
        focus (exact HA.out)
        clear hK K
        try simp only [PT]
        first | (refine tk 6 (oi := ⟨some 84, _, _, _, _, _⟩) (v := undef) rfl (by kernel_rfl) (.inr ⟨by rfl, rfl⟩) hHeld ?_) | (refine tk 6 (oi := ⟨some 84, _, _, _, _, _⟩) (v := ?_) rfl (by kernel_rfl) (.inl ⟨by rfl, ?_⟩) hHeld ?_; rotate_left; focus (intro w hSw; (try dsimp only at hSw); go_simp; try with_reducible rfl))
        simp only [PT]
        refine tk 7 (oi := ⟨some 85, _, _, _, _, _⟩) (v := ?_) rfl (by kernel_rfl) (.inl ⟨by rfl, ?_⟩) hHeld ?_; rotate_left; focus (intro w hSw; (try dsimp only at hSw); go_simp; try with_reducible rfl)
        simp only [PT]
        refine tk 8 (oi := ⟨some 86, _, _, _, _, _⟩) (v := ?_) rfl (by kernel_rfl) (.inl ⟨by rfl, ?_⟩) hHeld ?_; rotate_left; focus (intro w hSw; (try dsimp only at hSw); go_simp; try with_reducible rfl)
        simp only [PT]
        first | (refine tk 9 (oi := ⟨some 87, _, _, _, _, _⟩) (v := undef) rfl (by kernel_rfl) (.inr ⟨by rfl, rfl⟩) hHeld ?_) | (refine' tk 9 (oi := ⟨some 87, _, _, _, _, _⟩) (v := _) rfl (by kernel_rfl) (yieldsIf_load_mid (by rfl) _ _ rfl _ _ rfl (a.cells) _ (fun _ h => range_block h.1) (Try.underlying28) rfl (HIa.out)) hHeld ?_)
        simp only [PT]
        first | (refine tk 10 (oi := ⟨some 88, _, _, _, _, _⟩) (v := undef) rfl (by kernel_rfl) (.inr ⟨by rfl, rfl⟩) hHeld ?_) | (refine' tk 10 (oi := ⟨some 88, _, _, _, _, _⟩) (v := _) rfl (by kernel_rfl) (yieldsIf_load_mid (by rfl) _ _ rfl _ _ rfl (b.cells) _ (fun _ h => range_block h.2) (Try.underlying28) rfl (HIb.out)) hHeld ?_)
        simp only [PT]
        first | (refine tk 12 (oi := ⟨some 90, _, _, _, _, _⟩) (v := undef) rfl (by kernel_rfl) (.inr ⟨by rfl, rfl⟩) hHeld ?_) | (refine' tk 12 (oi := ⟨some 90, _, _, _, _, _⟩) (v := _) rfl (by kernel_rfl) (yieldsIf_load_mid (by rfl) _ _ rfl _ _ rfl (a.cells) _ (fun _ h => range_block h.1) (Try.underlying28) rfl (HIa.out)) hHeld ?_)
        simp only [PT]
        first | (refine tk 13 (oi := ⟨some 91, _, _, _, _, _⟩) (v := undef) rfl (by kernel_rfl) (.inr ⟨by rfl, rfl⟩) hHeld ?_) | (refine' tk 13 (oi := ⟨some 91, _, _, _, _, _⟩) (v := _) rfl (by kernel_rfl) (yieldsIf_load_mid (by rfl) _ _ rfl _ _ rfl (b.cells) _ (fun _ h => range_block h.2) (Try.underlying28) rfl (HIb.out)) hHeld ?_)
        simp only [PT]
        refine wpAnyH_ready (rs := [11]) (by kernel_rfl) (by simp) ?_
        refine (AllReadyH.cons (o := ⟨some 89, _, _, _, _, _⟩) rfl (fun K hK => ?_) AllReadyH.nil)
        focus (first | (refine skip_step ?_ ?_; focus (rfl)) | (go_simp; go_must (refine (older_any a b HOa.out HOb.out (right_no HRa.out) (right_no HRb.out) _).mono ?_); rintro e w5 ⟨rfl, hb__⟩; have hE__ := cU HB bup hb__; replace HB := ck HB hE__; (try replace HG4 := ck HG4 hE__); (try replace HG5 := ck HG5 hE__); (try replace HG6 := ck HG6 hE__); (try replace HA := ck HA hE__); clear hE__ hb__; go_wp2_with fail))
        refine hK.out _ _ ?_ (fun hHeld => ?_)
        focus (exact HA.out)
        clear hK K
        try simp only [PT]
        refine wpAnyH_ready (rs := [14]) (by kernel_rfl) (by simp) ?_
        refine (AllReadyH.cons (o := ⟨some 92, _, _, _, _, _⟩) rfl (fun K hK => ?_) AllReadyH.nil)
        focus (first | (refine skip_step ?_ ?_; focus (rfl)) | (go_simp; go_must (refine (refOlder_any a b HOa.out HOb.out (right_fit HRa.out) (right_fit HRb.out) _).mono ?_); rintro e w5 ⟨rfl, hb__⟩; have hE__ := cU HB bup hb__; replace HB := ck HB hE__; (try replace HG4 := ck HG4 hE__); (try replace HG5 := ck HG5 hE__); (try replace HG6 := ck HG6 hE__); (try replace HA := ck HA hE__); clear hE__ hb__; go_wp2_with fail))
        refine hK.out _ _ ?_ (fun hHeld => ?_)
        focus (exact HA.out)
        clear hK K
        try simp only [PT]
        first | (refine tk 15 (oi := ⟨some 93, _, _, _, _, _⟩) (v := undef) rfl (by kernel_rfl) (.inr ⟨by rfl, rfl⟩) hHeld ?_) | (refine' tk 15 (oi := ⟨some 93, _, _, _, _, _⟩) (v := (.bool true)) rfl (by kernel_rfl) (.inl ⟨by rfl, ?_⟩) hHeld ?_; focus (intro w hSw; (try dsimp only at hSw); go_simp; first | done | rfl | (simp [*]; done) | (simp [*]; omega)))
        simp only [PT]
        first | (refine tk 16 (oi := ⟨some 94, _, _, _, _, _⟩) (v := undef) rfl (by kernel_rfl) (.inr ⟨by rfl, rfl⟩) hHeld ?_) | (refine tk 16 (oi := ⟨some 94, _, _, _, _, _⟩) (v := ?_) rfl (by kernel_rfl) (.inl ⟨by rfl, ?_⟩) hHeld ?_; rotate_left; focus (intro w hSw; (try dsimp only at hSw); go_simp; try with_reducible rfl))
        simp only [PT]
        first | (refine tk 17 (oi := ⟨some 95, _, _, _, _, _⟩) (v := undef) rfl (by kernel_rfl) (.inr ⟨by rfl, rfl⟩) hHeld ?_) | (refine' tk 17 (oi := ⟨some 95, _, _, _, _, _⟩) (v := _) rfl (by kernel_rfl) (yieldsIf_load_mid (by rfl) _ _ rfl _ _ rfl (b.cells) _ (fun _ h => range_block h.2) (Try.underlying28) rfl (HIb.out)) hHeld ?_)
        simp only [PT]
        first | (refine tk 18 (oi := ⟨some 96, _, _, _, _, _⟩) (v := undef) rfl (by kernel_rfl) (.inr ⟨by rfl, rfl⟩) hHeld ?_) | (refine' tk 18 (oi := ⟨some 96, _, _, _, _, _⟩) (v := _) rfl (by kernel_rfl) (yieldsIf_load_mid (by rfl) _ _ rfl _ _ rfl (a.cells) _ (fun _ h => range_block h.1) (Try.underlying28) rfl (HIa.out)) hHeld ?_)
        simp only [PT]
        first | (refine tk 20 (oi := ⟨some 98, _, _, _, _, _⟩) (v := undef) rfl (by kernel_rfl) (.inr ⟨by rfl, rfl⟩) hHeld ?_) | (refine' tk 20 (oi := ⟨some 98, _, _, _, _, _⟩) (v := _) rfl (by kernel_rfl) (yieldsIf_load_mid (by rfl) _ _ rfl _ _ rfl (b.cells) _ (fun _ h => range_block h.2) (Try.underlying28) rfl (HIb.out)) hHeld ?_)
        simp only [PT]
        first | (refine tk 21 (oi := ⟨some 99, _, _, _, _, _⟩) (v := undef) rfl (by kernel_rfl) (.inr ⟨by rfl, rfl⟩) hHeld ?_) | (refine' tk 21 (oi := ⟨some 99, _, _, _, _, _⟩) (v := _) rfl (by kernel_rfl) (yieldsIf_load_mid (by rfl) _ _ rfl _ _ rfl (a.cells) _ (fun _ h => range_block h.1) (Try.underlying28) rfl (HIa.out)) hHeld ?_)
        simp only [PT]
        refine wpAnyH_ready (rs := [19]) (by kernel_rfl) (by simp) ?_
        refine (AllReadyH.cons (o := ⟨some 97, _, _, _, _, _⟩) rfl (fun K hK => ?_) AllReadyH.nil)
        focus (first | (refine skip_step ?_ ?_; focus (rfl)) | (go_simp; go_must (refine (older_any b a HOb.out HOa.out (right_no HRb.out) (right_no HRa.out) _).mono ?_); rintro e w5 ⟨rfl, hb__⟩; have hE__ := cU HB bup hb__; replace HB := ck HB hE__; (try replace HG4 := ck HG4 hE__); (try replace HG5 := ck HG5 hE__); (try replace HG6 := ck HG6 hE__); (try replace HA := ck HA hE__); clear hE__ hb__; go_wp2_with fail))
        refine hK.out _ _ ?_ (fun hHeld => ?_)
        focus (exact HA.out)
        clear hK K
        try simp only [PT]
        refine wpAnyH_ready (rs := [22]) (by kernel_rfl) (by simp) ?_
        refine (AllReadyH.cons (o := ⟨some 100, _, _, _, _, _⟩) rfl (fun K hK => ?_) AllReadyH.nil)
        focus (first | (refine skip_step ?_ ?_; focus (rfl)) | (go_simp; go_must (refine (refOlder_any b a HOb.out HOa.out (right_fit HRb.out) (right_fit HRa.out) _).mono ?_); rintro e w5 ⟨rfl, hb__⟩; have hE__ := cU HB bup hb__; replace HB := ck HB hE__; (try replace HG4 := ck HG4 hE__); (try replace HG5 := ck HG5 hE__); (try replace HG6 := ck HG6 hE__); (try replace HA := ck HA hE__); clear hE__ hb__; go_wp2_with fail))
        refine hK.out _ _ ?_ (fun hHeld => ?_)
        focus (exact HA.out)
        clear hK K
        try simp only [PT]
        first | (refine tk 23 (oi := ⟨some 101, _, _, _, _, _⟩) (v := undef) rfl (by kernel_rfl) (.inr ⟨by rfl, rfl⟩) hHeld ?_) | (refine' tk 23 (oi := ⟨some 101, _, _, _, _, _⟩) (v := (.bool true)) rfl (by kernel_rfl) (.inl ⟨by rfl, ?_⟩) hHeld ?_; focus (intro w hSw; (try dsimp only at hSw); go_simp; first | done | rfl | (simp [*]; done) | (simp [*]; omega)))
        simp only [PT]
        first | (refine tk 24 (oi := ⟨some 102, _, _, _, _, _⟩) (v := undef) rfl (by kernel_rfl) (.inr ⟨by rfl, rfl⟩) hHeld ?_) | (refine tk 24 (oi := ⟨some 102, _, _, _, _, _⟩) (v := ?_) rfl (by kernel_rfl) (.inl ⟨by rfl, ?_⟩) hHeld ?_; rotate_left; focus (intro w hSw; (try dsimp only at hSw); go_simp; try with_reducible rfl))
        simp only [PT]
        refine tk 25 (oi := ⟨some 103, _, _, _, _, _⟩) (v := ?_) rfl (by kernel_rfl) (.inl ⟨by rfl, ?_⟩) hHeld ?_; rotate_left; focus (intro w hSw; (try dsimp only at hSw); go_simp; try with_reducible rfl)
        simp only [PT]
        refine tk 26 (oi := ⟨some 8, _, _, _, _, _⟩) (v := ?_) rfl (by kernel_rfl) (.inl ⟨by rfl, ?_⟩) hHeld ?_; rotate_left; focus (intro w hSw; (try dsimp only at hSw); go_simp; try with_reducible rfl)
        simp only [PT]
        refine wpAnyH_done (by kernel_rfl) ?_ _
        go_wp2
        go_ret
        exact ⟨rfl, HB.out⟩
    ·
      refine wp_region_held_drew (S := fun u__ => FrA g4 g5 a b u__) (by kernel_rfl) ?_ (fun hHeld => ?_)
      focus (exact HA.out)
      refine' tk 0 (oi := ⟨some 78, _, _, _, _, _⟩) (v := _) rfl (by kernel_rfl) (yieldsIf_load_mid (by rfl) _ _ rfl _ _ rfl (a.cells) _ (fun _ h => range_block h.1) (Try.underlying28) rfl (HIa.out)) hHeld ?_
      simp only [PT]
      refine wpAnyH_ready (rs := [1]) (by kernel_rfl) (by simp) ?_
      refine (AllReadyH.cons (o := ⟨some 79, _, _, _, _, _⟩) rfl (fun K hK => ?_) AllReadyH.nil)
      focus (first | (refine skip_step ?_ ?_; focus (rfl)) | (go_simp; go_must (refine (refRight_any a HO.out.1 HO.out.2.2.1 _).mono ?_); rw [ha]; rintro e w5 ⟨rfl, hb__⟩; have hE__ := cU HB bup hb__; replace HB := ck HB hE__; (try replace HG4 := ck HG4 hE__); (try replace HG5 := ck HG5 hE__); (try replace HG6 := ck HG6 hE__); (try replace HA := ck HA hE__); clear hE__ hb__; go_wp2_with fail))
      refine hK.out _ _ ?_ (fun hHeld => ?_)
      focus (exact HA.out)
      clear hK K
      try simp only [PT]
      refine tk 2 (oi := ⟨some 80, _, _, _, _, _⟩) (v := ?_) rfl (by kernel_rfl) (.inl ⟨by rfl, ?_⟩) hHeld ?_; rotate_left; focus (intro w hSw; (try dsimp only at hSw); go_simp; try with_reducible rfl)
      simp only [PT]
      refine tk 3 (oi := ⟨some 81, _, _, _, _, _⟩) (v := ?_) rfl (by kernel_rfl) (.inl ⟨by rfl, ?_⟩) hHeld ?_; rotate_left; focus (intro w hSw; (try dsimp only at hSw); go_simp; try with_reducible rfl)
      simp only [PT]
      first | (refine tk 4 (oi := ⟨some 82, _, _, _, _, _⟩) (v := undef) rfl (by kernel_rfl) (.inr ⟨by rfl, rfl⟩) hHeld ?_) | (refine' tk 4 (oi := ⟨some 82, _, _, _, _, _⟩) (v := _) rfl (by kernel_rfl) (yieldsIf_load_mid (by rfl) _ _ rfl _ _ rfl (b.cells) _ (fun _ h => range_block h.2) (Try.underlying28) rfl (HIb.out)) hHeld ?_)
      simp only [PT]
      refine wpAnyH_ready (rs := [5]) (by kernel_rfl) (by simp) ?_
      refine (AllReadyH.cons (o := ⟨some 83, _, _, _, _, _⟩) rfl (fun K hK => ?_) AllReadyH.nil)
      focus (first | (refine skip_step ?_ ?_; focus (rfl)) | (go_simp; go_must (refine (refRight_any b HO.out.2.1 HO.out.2.2.2 _).mono ?_); rw [hb]; rintro e w5 ⟨rfl, hb__⟩; have hE__ := cU HB bup hb__; replace HB := ck HB hE__; (try replace HG4 := ck HG4 hE__); (try replace HG5 := ck HG5 hE__); (try replace HG6 := ck HG6 hE__); (try replace HA := ck HA hE__); clear hE__ hb__; go_wp2_with fail))
      refine hK.out _ _ ?_ (fun hHeld => ?_)
      focus (exact HA.out)
      clear hK K
      try simp only [PT]
      first | (refine tk 6 (oi := ⟨some 84, _, _, _, _, _⟩) (v := undef) rfl (by kernel_rfl) (.inr ⟨by rfl, rfl⟩) hHeld ?_) | (refine tk 6 (oi := ⟨some 84, _, _, _, _, _⟩) (v := ?_) rfl (by kernel_rfl) (.inl ⟨by rfl, ?_⟩) hHeld ?_; rotate_left; focus (intro w hSw; (try dsimp only at hSw); go_simp; try with_reducible rfl))
      simp only [PT]
      refine tk 7 (oi := ⟨some 85, _, _, _, _, _⟩) (v := ?_) rfl (by kernel_rfl) (.inl ⟨by rfl, ?_⟩) hHeld ?_; rotate_left; focus (intro w hSw; (try dsimp only at hSw); go_simp; try with_reducible rfl)
      simp only [PT]
      refine tk 8 (oi := ⟨some 86, _, _, _, _, _⟩) (v := ?_) rfl (by kernel_rfl) (.inl ⟨by rfl, ?_⟩) hHeld ?_; rotate_left; focus (intro w hSw; (try dsimp only at hSw); go_simp; try with_reducible rfl)
      simp only [PT]
      first | (refine tk 9 (oi := ⟨some 87, _, _, _, _, _⟩) (v := undef) rfl (by kernel_rfl) (.inr ⟨by rfl, rfl⟩) hHeld ?_) | (refine' tk 9 (oi := ⟨some 87, _, _, _, _, _⟩) (v := _) rfl (by kernel_rfl) (yieldsIf_load_mid (by rfl) _ _ rfl _ _ rfl (a.cells) _ (fun _ h => range_block h.1) (Try.underlying28) rfl (HIa.out)) hHeld ?_)
      simp only [PT]
      first | (refine tk 10 (oi := ⟨some 88, _, _, _, _, _⟩) (v := undef) rfl (by kernel_rfl) (.inr ⟨by rfl, rfl⟩) hHeld ?_) | (refine' tk 10 (oi := ⟨some 88, _, _, _, _, _⟩) (v := _) rfl (by kernel_rfl) (yieldsIf_load_mid (by rfl) _ _ rfl _ _ rfl (b.cells) _ (fun _ h => range_block h.2) (Try.underlying28) rfl (HIb.out)) hHeld ?_)
      simp only [PT]
      first | (refine tk 12 (oi := ⟨some 90, _, _, _, _, _⟩) (v := undef) rfl (by kernel_rfl) (.inr ⟨by rfl, rfl⟩) hHeld ?_) | (refine' tk 12 (oi := ⟨some 90, _, _, _, _, _⟩) (v := _) rfl (by kernel_rfl) (yieldsIf_load_mid (by rfl) _ _ rfl _ _ rfl (a.cells) _ (fun _ h => range_block h.1) (Try.underlying28) rfl (HIa.out)) hHeld ?_)
      simp only [PT]
      first | (refine tk 13 (oi := ⟨some 91, _, _, _, _, _⟩) (v := undef) rfl (by kernel_rfl) (.inr ⟨by rfl, rfl⟩) hHeld ?_) | (refine' tk 13 (oi := ⟨some 91, _, _, _, _, _⟩) (v := _) rfl (by kernel_rfl) (yieldsIf_load_mid (by rfl) _ _ rfl _ _ rfl (b.cells) _ (fun _ h => range_block h.2) (Try.underlying28) rfl (HIb.out)) hHeld ?_)
      simp only [PT]
      refine wpAnyH_ready (rs := [11]) (by kernel_rfl) (by simp) ?_
      refine (AllReadyH.cons (o := ⟨some 89, _, _, _, _, _⟩) rfl (fun K hK => ?_) AllReadyH.nil)
      focus (first | (refine skip_step ?_ ?_; focus (rfl)) | (go_simp; go_must (refine (older_any a b HOa.out HOb.out (right_no HRa.out) (right_no HRb.out) _).mono ?_); rintro e w5 ⟨rfl, hb__⟩; have hE__ := cU HB bup hb__; replace HB := ck HB hE__; (try replace HG4 := ck HG4 hE__); (try replace HG5 := ck HG5 hE__); (try replace HG6 := ck HG6 hE__); (try replace HA := ck HA hE__); clear hE__ hb__; go_wp2_with fail))
      refine hK.out _ _ ?_ (fun hHeld => ?_)
      focus (exact HA.out)
      clear hK K
      try simp only [PT]
      refine wpAnyH_ready (rs := [14]) (by kernel_rfl) (by simp) ?_
      refine (AllReadyH.cons (o := ⟨some 92, _, _, _, _, _⟩) rfl (fun K hK => ?_) AllReadyH.nil)
      focus (first | (refine skip_step ?_ ?_; focus (rfl)) | (go_simp; go_must (refine (refOlder_any a b HOa.out HOb.out (right_fit HRa.out) (right_fit HRb.out) _).mono ?_); rintro e w5 ⟨rfl, hb__⟩; have hE__ := cU HB bup hb__; replace HB := ck HB hE__; (try replace HG4 := ck HG4 hE__); (try replace HG5 := ck HG5 hE__); (try replace HG6 := ck HG6 hE__); (try replace HA := ck HA hE__); clear hE__ hb__; go_wp2_with fail))
      refine hK.out _ _ ?_ (fun hHeld => ?_)
      focus (exact HA.out)
      clear hK K
      try simp only [PT]
      first | (refine tk 15 (oi := ⟨some 93, _, _, _, _, _⟩) (v := undef) rfl (by kernel_rfl) (.inr ⟨by rfl, rfl⟩) hHeld ?_) | (refine' tk 15 (oi := ⟨some 93, _, _, _, _, _⟩) (v := (.bool true)) rfl (by kernel_rfl) (.inl ⟨by rfl, ?_⟩) hHeld ?_; focus (intro w hSw; (try dsimp only at hSw); go_simp; first | done | rfl | (simp [*]; done) | (simp [*]; omega)))
      simp only [PT]
      first | (refine tk 16 (oi := ⟨some 94, _, _, _, _, _⟩) (v := undef) rfl (by kernel_rfl) (.inr ⟨by rfl, rfl⟩) hHeld ?_) | (refine tk 16 (oi := ⟨some 94, _, _, _, _, _⟩) (v := ?_) rfl (by kernel_rfl) (.inl ⟨by rfl, ?_⟩) hHeld ?_; rotate_left; focus (intro w hSw; (try dsimp only at hSw); go_simp; try with_reducible rfl))
      simp only [PT]
      first | (refine tk 17 (oi := ⟨some 95, _, _, _, _, _⟩) (v := undef) rfl (by kernel_rfl) (.inr ⟨by rfl, rfl⟩) hHeld ?_) | (refine' tk 17 (oi := ⟨some 95, _, _, _, _, _⟩) (v := _) rfl (by kernel_rfl) (yieldsIf_load_mid (by rfl) _ _ rfl _ _ rfl (b.cells) _ (fun _ h => range_block h.2) (Try.underlying28) rfl (HIb.out)) hHeld ?_)
      simp only [PT]
      first | (refine tk 18 (oi := ⟨some 96, _, _, _, _, _⟩) (v := undef) rfl (by kernel_rfl) (.inr ⟨by rfl, rfl⟩) hHeld ?_) | (refine' tk 18 (oi := ⟨some 96, _, _, _, _, _⟩) (v := _) rfl (by kernel_rfl) (yieldsIf_load_mid (by rfl) _ _ rfl _ _ rfl (a.cells) _ (fun _ h => range_block h.1) (Try.underlying28) rfl (HIa.out)) hHeld ?_)
      simp only [PT]
      first | (refine tk 20 (oi := ⟨some 98, _, _, _, _, _⟩) (v := undef) rfl (by kernel_rfl) (.inr ⟨by rfl, rfl⟩) hHeld ?_) | (refine' tk 20 (oi := ⟨some 98, _, _, _, _, _⟩) (v := _) rfl (by kernel_rfl) (yieldsIf_load_mid (by rfl) _ _ rfl _ _ rfl (b.cells) _ (fun _ h => range_block h.2) (Try.underlying28) rfl (HIb.out)) hHeld ?_)
      simp only [PT]
      first | (refine tk 21 (oi := ⟨some 99, _, _, _, _, _⟩) (v := undef) rfl (by kernel_rfl) (.inr ⟨by rfl, rfl⟩) hHeld ?_) | (refine' tk 21 (oi := ⟨some 99, _, _, _, _, _⟩) (v := _) rfl (by kernel_rfl) (yieldsIf_load_mid (by rfl) _ _ rfl _ _ rfl (a.cells) _ (fun _ h => range_block h.1) (Try.underlying28) rfl (HIa.out)) hHeld ?_)
      simp only [PT]
      refine wpAnyH_ready (rs := [19]) (by kernel_rfl) (by simp) ?_
      refine (AllReadyH.cons (o := ⟨some 97, _, _, _, _, _⟩) rfl (fun K hK => ?_) AllReadyH.nil)
      focus (first | (refine skip_step ?_ ?_; focus (rfl)) | (go_simp; go_must (refine (older_any b a HOb.out HOa.out (right_no HRb.out) (right_no HRa.out) _).mono ?_); rintro e w5 ⟨rfl, hb__⟩; have hE__ := cU HB bup hb__; replace HB := ck HB hE__; (try replace HG4 := ck HG4 hE__); (try replace HG5 := ck HG5 hE__); (try replace HG6 := ck HG6 hE__); (try replace HA := ck HA hE__); clear hE__ hb__; go_wp2_with fail))
      refine hK.out _ _ ?_ (fun hHeld => ?_)
      focus (exact HA.out)
      clear hK K
      try simp only [PT]
      refine wpAnyH_ready (rs := [22]) (by kernel_rfl) (by simp) ?_
      refine (AllReadyH.cons (o := ⟨some 100, _, _, _, _, _⟩) rfl (fun K hK => ?_) AllReadyH.nil)
      focus (first | (refine skip_step ?_ ?_; focus (rfl)) | (go_simp; go_must (refine (refOlder_any b a HOb.out HOa.out (right_fit HRb.out) (right_fit HRa.out) _).mono ?_); rintro e w5 ⟨rfl, hb__⟩; have hE__ := cU HB bup hb__; replace HB := ck HB hE__; (try replace HG4 := ck HG4 hE__); (try replace HG5 := ck HG5 hE__); (try replace HG6 := ck HG6 hE__); (try replace HA := ck HA hE__); clear hE__ hb__; go_wp2_with fail))
      refine hK.out _ _ ?_ (fun hHeld => ?_)
      focus (exact HA.out)
      clear hK K
      try simp only [PT]
      first | (refine tk 23 (oi := ⟨some 101, _, _, _, _, _⟩) (v := undef) rfl (by kernel_rfl) (.inr ⟨by rfl, rfl⟩) hHeld ?_) | (refine' tk 23 (oi := ⟨some 101, _, _, _, _, _⟩) (v := (.bool true)) rfl (by kernel_rfl) (.inl ⟨by rfl, ?_⟩) hHeld ?_; focus (intro w hSw; (try dsimp only at hSw); go_simp; first | done | rfl | (simp [*]; done) | (simp [*]; omega)))
      simp only [PT]
      first | (refine tk 24 (oi := ⟨some 102, _, _, _, _, _⟩) (v := undef) rfl (by kernel_rfl) (.inr ⟨by rfl, rfl⟩) hHeld ?_) | (refine tk 24 (oi := ⟨some 102, _, _, _, _, _⟩) (v := ?_) rfl (by kernel_rfl) (.inl ⟨by rfl, ?_⟩) hHeld ?_; rotate_left; focus (intro w hSw; (try dsimp only at hSw); go_simp; try with_reducible rfl))
      simp only [PT]
      refine tk 25 (oi := ⟨some 103, _, _, _, _, _⟩) (v := ?_) rfl (by kernel_rfl) (.inl ⟨by rfl, ?_⟩) hHeld ?_; rotate_left; focus (intro w hSw; (try dsimp only at hSw); go_simp; try with_reducible rfl)
      simp only [PT]
      refine tk 26 (oi := ⟨some 8, _, _, _, _, _⟩) (v := ?_) rfl (by kernel_rfl) (.inl ⟨by rfl, ?_⟩) hHeld ?_; rotate_left; focus (intro w hSw; (try dsimp only at hSw); go_simp; try with_reducible rfl)
      simp only [PT]
      refine wpAnyH_done (by kernel_rfl) ?_ _
      go_wp2
      go_ret
      exact ⟨rfl, HB.out⟩

end Go.Proofs.Ytgpdlhbndoeldaa
