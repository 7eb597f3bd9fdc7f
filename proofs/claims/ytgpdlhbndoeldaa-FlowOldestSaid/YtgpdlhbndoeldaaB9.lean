/-
  Joined by program (merge.py): FloC.
-/
import Derived.Test.YtgpdlhbndoeldaaB7
/-
  Chapter 21: the statement FlowOldest: walked (written by gen/flawc.py).
-/
namespace Go.Proofs.Ytgpdlhbndoeldaa
open Go.RowKit Go.Sort
set_option linter.unusedVariables false
set_option linter.unusedSimpArgs false
set_option maxRecDepth 100000
set_option maxHeartbeats 16000000

theorem oldest21_walk (kb : List UInt8) (hk : kb.length = 16) (nn : Nat) (hn : nn < 256) (ad : Option Addr) (n c : Nat) (xs : List FloW) (w : World) (hv : Fls w ad n c xs) :
    Calls Try.prog 4 #[.agg (BV kb).toArray, .int .u8 (nn : Int), .slice ad n c] w fun e w' => e = .returned (.bool true) ∧ Below w.heap.size w w' := by
  have HB := Lib.hid (Below.refl w.heap.size w)
  have HIK : Hid ((Try.prog.info? 22).map (·.size) = some (BV kb).length) := Lib.hid (by rw [BV_length, hk]; kernel_rfl)
  have HK := Lib.hid hk
  have HNN := Lib.hid hn
  have HV := Lib.hid hv
  have hle := hv.le
  have HLN := Lib.hid hv.len
  clear hk hv hn
  go_enter Try.func4, Try.ntmps4
  go_wp2_with (first
    | ((with_reducible refine sl 3 ?_); go_must (refine wpL_boxG rfl 22 (.tmp 0) rfl (BV kb).toArray rfl ?_); intro wb3 g3 he__ le_3 lt_3 hg__ hb__; have hE__ := cU HB bup hb__; replace HB := ck HB hE__; clear hE__ hb__; have HG3 := Lib.hid hg__; clear hg__ he__; simp only [PT])
    | (go_at_call 10; go_must (refine (awake_any _).mono ?_); rintro e wa ⟨rfl, hb__⟩; have hE__ := cU HB bup hb__; replace HB := ck HB hE__; (try replace HG3 := ck HG3 hE__); clear hE__ hb__))
  go_at_call 17
  refine (few21_any ad n c xs _ (HV.out.below HB.out)).mono ?_
  rintro e w3 ⟨⟨bf, rfl, hf⟩, hb__⟩
  have hE__ := cU HB bup hb__; replace HB := ck HB hE__; (try replace HG3 := ck HG3 hE__); clear hE__ hb__
  cases bf with
  | false =>
    clear hf
    go_wp2_with (first
      | (go_at_call 10; go_must (refine (awake_any _).mono ?_); rintro e wa ⟨rfl, hb__⟩; have hE__ := cU HB bup hb__; replace HB := ck HB hE__; (try replace HG3 := ck HG3 hE__); clear hE__ hb__))
    go_ret
    exact ⟨rfl, HB.out⟩
  | true =>
    have HF := Lib.hid (hf rfl)
    clear hf
    go_wp2_with fail
    refine wp_region_held_drew (S := fun u__ => u__.heap[g3]? = some (.cells (BV kb).toArray 22 (0, 0))) (by kernel_rfl) ?_ (fun hHeld => ?_)
    focus (exact hatB HG3 bup)
    refine' tk 0 (oi := ⟨some 31, _, _, _, _, _⟩) (v := _) rfl (by kernel_rfl) (yieldsIf_load_mid (by rfl) _ _ rfl _ _ rfl (BV kb) _ (fun _ h => range_block h) (Try.underlying22) rfl (HIK.out)) hHeld ?_
    simp only [PT]
    refine tk 1 (oi := ⟨some 32, _, _, _, _, _⟩) (v := ?_) rfl (by kernel_rfl) (.inl ⟨by rfl, ?_⟩) hHeld ?_; rotate_left; focus (intro w hSw; (try dsimp only at hSw); go_simp; try with_reducible rfl)
    simp only [PT]
    refine wpAnyH_ready (rs := [2]) (by kernel_rfl) (by simp) ?_
    refine (AllReadyH.cons (o := ⟨some 33, _, _, _, _, _⟩) rfl (fun K hK => ?_) AllReadyH.nil)
    focus (go_simp; go_must (refine (room_any nn HNN.out _).mono ?_); rintro e w5 ⟨rfl, hb__⟩; have hE__ := cU HB bup hb__; replace HB := ck HB hE__; (try replace HG3 := ck HG3 hE__); clear hE__ hb__; go_wp2_with fail)
    refine hK.out _ _ ?_ (fun hHeld => ?_)
    focus (exact hatB HG3 bup)
    clear hK K
    try simp only [PT]
    refine wpAnyH_ready (rs := [3]) (by kernel_rfl) (by simp) ?_
    refine (AllReadyH.cons (o := ⟨some 34, _, _, _, _, _⟩) rfl (fun K hK => ?_) AllReadyH.nil)
    focus (go_simp; go_must (refine (new_rep kb HK.out (roomN nn) (roomN_le nn).1 (by have := (roomN_le nn).2; omega) _).mono ?_); rintro e w1 ⟨p, q, S0, rfl, hr, hS0, lq, lqp, hb__⟩; have HQ : Hid (w.heap.size ≤ q) := Lib.hid (Nat.le_trans HB.out.size (Nat.le_trans (bsz bup) lq)); have HP : Hid (w.heap.size ≤ p) := Lib.hid (by have := HQ.out; omega); have hE__ := cU HB bup hb__; replace HB := ck HB hE__; (try replace HG3 := ck HG3 hE__); clear hE__ hb__; have HR := Lib.hid hr; clear hr hS0 lq lqp; go_wp2_with fail)
    refine hK.out _ _ ?_ (fun hHeld => ?_)
    focus (exact hatB HG3 bup)
    clear hK K
    try simp only [PT]
    refine tk 4 (oi := ⟨some 30, _, _, _, _, _⟩) (v := ?_) rfl (by kernel_rfl) (.inl ⟨by rfl, ?_⟩) hHeld ?_; rotate_left; focus (intro w hSw; (try dsimp only at hSw); go_simp; try with_reducible rfl)
    simp only [PT]
    refine tk 5 (oi := ⟨some 35, _, _, _, _, _⟩) (v := ?_) rfl (by kernel_rfl) (.inl ⟨by rfl, ?_⟩) hHeld ?_; rotate_left; focus (intro w hSw; (try dsimp only at hSw); go_simp; try with_reducible rfl)
    simp only [PT]
    refine tk 6 (oi := ⟨some 36, _, _, _, _, _⟩) (v := ?_) rfl (by kernel_rfl) (.inl ⟨by rfl, ?_⟩) hHeld ?_; rotate_left; focus (intro w hSw; (try dsimp only at hSw); go_simp; try with_reducible rfl)
    simp only [PT]
    refine tk 7 (oi := ⟨some 7, _, _, _, _, _⟩) (v := ?_) rfl (by kernel_rfl) (.inl ⟨by rfl, ?_⟩) hHeld ?_; rotate_left; focus (intro w hSw; (try dsimp only at hSw); go_simp; try with_reducible rfl)
    simp only [PT]
    refine tk 8 (oi := ⟨some 8, _, _, _, _, _⟩) (v := ?_) rfl (by kernel_rfl) (.inl ⟨by rfl, ?_⟩) hHeld ?_; rotate_left; focus (intro w hSw; (try dsimp only at hSw); go_simp; try with_reducible rfl)
    simp only [PT]
    refine wpAnyH_done (by kernel_rfl) ?_ _
    clear HG3
    go_wp2_with fail
    obtain ⟨w2, hw2⟩ : ∃ w2, w2 = w1 := ⟨_, rfl⟩
    subst hw2
    go_loopw [9] (fun i wr => ∃ (k : Nat) (S : List Slt), k ≤ n ∧ i = .int .i64 (k : Int) ∧ Hid (Below w.heap.size w wr) ∧ Hid (Rep wr p q kb (roomN nn) S)) (fun i _ => n - (intOf i).toNat)
    case atStart => exact ⟨0, S0, by omega, rfl, Lib.hid (HB.out.trans (Below.mono bup HB.out.size)), Lib.hid (HR.out.keep bup)⟩
    case round =>
      clear HB HR
      obtain ⟨k, S, hk, rfl, HB, HR⟩ := hrel
      by_cases hend : k = n
      · subst k
        go_wp2_with fail
        go_ret
        exact ⟨rfl, HB.out⟩
      have hlt : k < n := by omega
      obtain ⟨b, off, rfl, hbl, hat⟩ := HV.out.at (by have := HLN.out; omega)
      clear hat
      obtain ⟨x, hx⟩ : ∃ x, x = xs[k]'(by have := HLN.out; omega) := ⟨_, rfl⟩
      have HXG : Hid (∀ w', Below w.heap.size w w' → w'.rangeAt b (off + k * 41) x.v.cells) := Lib.hid (fun w' hb => by rw [hx]; exact (HV.out.below hb).get k _)
      have HSZ : Hid (x.v.name.size ≤ 140737488351232) := Lib.hid (by rw [hx]; have := HF.out.2 _ (List.getElem_mem (show k < xs.length by have := HLN.out; omega)); omega)
      clear hx
      go_wp2_with (first
        | (go_at_call 19; go_must (refine (list_law p q kb _ S _ (HR.out.keep bup)).mono ?_); rintro e w4 ⟨adw, cw, ls, rfl, hpm, hso, ho, hb__⟩; have HPM := Lib.hid hpm; clear hpm hso; have HWO : Hid (∀ x, adw = some x → x.block ≠ p ∧ x.block ≠ q) := Lib.hid (fun x hx => ⟨Nat.ne_of_gt (Nat.lt_of_lt_of_le (lt_of_block (HR.out.keep bup).tb.hp) (own_block ho x hx).1), Nat.ne_of_gt (Nat.lt_of_lt_of_le (lt_of_block (HR.out.keep bup).tb.hq) (own_block ho x hx).1)⟩); have hE__ := cU HB bup hb__; replace HB := ck HB hE__; (try replace HR := ck HR hE__); clear hE__ hb__; have HWS := Lib.hid (Fls.of_own ho); clear ho)
        | ((with_reducible refine sl 53 ?_); go_must (refine wpL_load rfl 26 (.tmp 52) rfl b (off + k * 41) rfl x.v.key.cells _ (range_key (HXG.out _ (HB.out.trans (Below.mono bup HB.out.size)))) Try.underlying26 rfl (tup_len x) ?_); simp only [PT])
        | ((with_reducible refine sl 11 ?_); go_must (refine wpL_newG rfl rfl 28 rfl (.tmp 11) (.tmp 55) rfl (g1.v.cells).toArray zeroF.cells.toArray (new_info (by first | exact Flo.length zeroF_ok | exact FloW.length _ | exact LEN_11)) (new_size (by first | exact Flo.length zeroF_ok | exact FloW.length _ | exact LEN_11)) (flo_one _) (fun _ => rfl) (fun _ => rfl) ?_); intro wn11 g11 le_11 hg__ hb__; have hE__ := cU HB bup hb__; replace HB := ck HB hE__; (try replace HR := ck HR hE__); (try replace HWS := ck HWS hE__); clear hE__ hb__; clear hg__; simp only [PT])
        | ((with_reducible refine sl 62 ?_); go_must (refine wpL_load rfl 28 (.tmp 61) rfl b (off + k * 41) rfl x.v.cells _ (HXG.out _ (HB.out.trans (Below.mono bup HB.out.size))) Try.underlying28 rfl (one_size x) ?_); simp only [PT])
        | (go_at_call 21; (with_reducible show Calls _ _ #[_, .agg x.v.cells.toArray] _ _); go_must (refine (put_law p q kb _ S x HSZ.out _ (HR.out.keep bup)).mono ?_); rintro e w6 ⟨gone, left, err, S', rfl, hr, hb__, hps⟩; have HBn := Lib.hid (But.below (p := p) (q := q) hb__ (HB.out.trans (Below.mono bup HB.out.size)) HP.out HQ.out (Nat.le_refl _)); have HWn := Lib.hid (Sl.but (HWS.out.below bup) hb__ HWO.out); clear HB HWS hb__; have HB := HBn; have HWS := Lib.hid (show Fls _ adw ls.length cw ls from HWn.out); clear HBn HWn; have HPW := Lib.hid hps; have HR0 := HR; clear HR; have HR := Lib.hid hr; clear hr hps)
        | ((with_reducible refine sl 13 ?_); go_must (refine wpL_newG rfl rfl 28 rfl (.tmp 13) (.tmp 64) rfl (gone.v.cells).toArray zeroF.cells.toArray (new_info (by first | exact Flo.length zeroF_ok | exact FloW.length _ | exact LEN_13)) (new_size (by first | exact Flo.length zeroF_ok | exact FloW.length _ | exact LEN_13)) (flo_one _) (fun _ => rfl) (fun _ => rfl) ?_); intro wn13 g13 le_13 hg__ hb__; have hE__ := cU HB bup hb__; replace HB := ck HB hE__; (try replace HR := ck HR hE__); (try replace HWS := ck HWS hE__); clear hE__ hb__; have HG13 := Lib.hid hg__; clear hg__; simp only [PT])
        | ((with_reducible refine sl 73 ?_); go_must (refine wpL_load rfl 26 (.tmp 72) rfl b (off + k * 41) rfl x.v.key.cells _ (range_key (HXG.out _ (HB.out.trans (Below.mono bup HB.out.size)))) Try.underlying26 rfl (tup_len x) ?_); simp only [PT])
        | (have hgd__ := HPW; clear hgd__; go_at_call 20; (with_reducible show Calls _ _ #[_, .agg x.v.key.cells.toArray] _ _); go_must (refine (get_law p q kb _ _ x _ (HR.out.keep bup)).mono ?_); rintro e w5 ⟨⟨g2, ok, rfl, hg⟩, hb__⟩; have HG2 := Lib.hid hg; clear hg; have hE__ := cU HB bup hb__; replace HB := ck HB hE__; (try replace HR := ck HR hE__); (try replace HWS := ck HWS hE__); (try replace HG13 := ck HG13 hE__); clear hE__ hb__)
        | (go_at_call 20; (with_reducible show Calls _ _ #[_, .agg x.v.key.cells.toArray] _ _); go_must (refine (get_law p q kb _ _ x _ (HR.out.keep bup)).mono ?_); rintro e w5 ⟨⟨g1, th, rfl, hg⟩, hb__⟩; have HG1 := Lib.hid hg; clear hg; have hE__ := cU HB bup hb__; replace HB := ck HB hE__; (try replace HR := ck HR hE__); (try replace HWS := ck HWS hE__); (try replace HG13 := ck HG13 hE__); clear hE__ hb__)
        | ((with_reducible refine sl 16 ?_); go_must (refine wpL_newG rfl rfl 28 rfl (.tmp 16) (.tmp 75) rfl (g2.v.cells).toArray zeroF.cells.toArray (new_info (by first | exact Flo.length zeroF_ok | exact FloW.length _ | exact LEN_16)) (new_size (by first | exact Flo.length zeroF_ok | exact FloW.length _ | exact LEN_16)) (flo_one _) (fun _ => rfl) (fun _ => rfl) ?_); intro wn16 g16 le_16 hg__ hb__; have hE__ := cU HB bup hb__; replace HB := ck HB hE__; (try replace HR := ck HR hE__); (try replace HWS := ck HWS hE__); (try replace HG13 := ck HG13 hE__); clear hE__ hb__; have HG16 := Lib.hid hg__; clear hg__; simp only [PT]))
      have HWD := Lib.hid (show (∀ x, adw = some x → x.block ≠ p ∧ x.block ≠ q) from fun x hx => HWO.out x hx)
      clear HWO
      rcases HPW.out with ⟨hr, rfl, hgz, rfl, rfl⟩ | ⟨hr, rfl, hps⟩
      · as_aux_lemma =>
        have hcl : (flowsS S').length ≤ roomN nn := HR.out.le
        clear hgz
        refine wp_region_held_drew (S := fun u__ => u__.rangeAt b (off + k * 41) x.v.cells ∧ u__.heap[g16]? = some (.cells g2.v.cells.toArray 28 (0, 0))) (by kernel_rfl) ?_ (fun hHeld => ?_)
        focus (exact ⟨HXG.out _ (HB.out.trans (Below.mono bup HB.out.size)), hatB HG16 bup⟩)
        refine tk 0 (oi := ⟨some 77, _, _, _, _, _⟩) (v := ?_) rfl (by kernel_rfl) (.inl ⟨by rfl, ?_⟩) hHeld ?_; rotate_left; focus (intro w hSw; (try dsimp only at hSw); go_simp; try with_reducible rfl)
        simp only [PT]
        refine tk 1 (oi := ⟨some 78, _, _, _, _, _⟩) (v := ?_) rfl (by kernel_rfl) (.inl ⟨by rfl, ?_⟩) hHeld ?_; rotate_left; focus (intro w hSw; (try dsimp only at hSw); go_simp; try with_reducible rfl)
        simp only [PT]
        refine tk 2 (oi := ⟨some 79, _, _, _, _, _⟩) (v := ?_) rfl (by kernel_rfl) (.inl ⟨by rfl, ?_⟩) hHeld ?_; rotate_left; focus (intro w hSw; (try dsimp only at hSw); go_simp; try with_reducible rfl)
        simp only [PT]
        refine tk 3 (oi := ⟨some 80, _, _, _, _, _⟩) (v := ?_) rfl (by kernel_rfl) (.inl ⟨by rfl, ?_⟩) hHeld ?_; rotate_left; focus (intro w hSw; (try dsimp only at hSw); go_simp; try with_reducible rfl)
        simp only [PT]
        refine tk 4 (oi := ⟨some 81, _, _, _, _, _⟩) (v := ?_) rfl (by kernel_rfl) (.inl ⟨by rfl, ?_⟩) hHeld ?_; rotate_left; focus (intro w hSw; (try dsimp only at hSw); go_simp; try with_reducible rfl)
        simp only [PT]
        refine' tk 5 (oi := ⟨some 82, _, _, _, _, _⟩) (v := _) rfl (by kernel_rfl) (yieldsIf_load_mid (by rfl) _ _ rfl _ _ rfl (x.v.cells) _ (fun _ h => h.1) (Try.underlying28) rfl (one_size x)) hHeld ?_
        simp only [PT]
        refine wpAnyH_ready (rs := [6]) (by kernel_rfl) (by simp) ?_
        refine (AllReadyH.cons (o := ⟨some 83, _, _, _, _, _⟩) rfl (fun K hK => ?_) AllReadyH.nil)
        focus (first | (refine skip_step ?_ ?_; focus (rfl)) | (go_simp; go_must (refine (refRight_any x.v x.ok HSZ.out _).mono ?_); rw [hr]; rintro e w5 ⟨rfl, hb__⟩; have hE__ := cU HB bup hb__; replace HB := ck HB hE__; (try replace HR := ck HR hE__); (try replace HWS := ck HWS hE__); (try replace HG13 := ck HG13 hE__); (try replace HG16 := ck HG16 hE__); clear hE__ hb__; go_wp2_with fail))
        refine hK.out _ _ ?_ (fun hHeld => ?_)
        focus (exact ⟨HXG.out _ (HB.out.trans (Below.mono bup HB.out.size)), hatB HG16 bup⟩)
        clear hK K
        try simp only [PT]
        refine tk 7 (oi := ⟨some 84, _, _, _, _, _⟩) (v := ?_) rfl (by kernel_rfl) (.inl ⟨by rfl, ?_⟩) hHeld ?_; rotate_left; focus (intro w hSw; (try dsimp only at hSw); go_simp; try with_reducible rfl)
        simp only [PT]
        refine tk 8 (oi := ⟨some 85, _, _, _, _, _⟩) (v := ?_) rfl (by kernel_rfl) (.inl ⟨by rfl, ?_⟩) hHeld ?_; rotate_left; focus (intro w hSw; (try dsimp only at hSw); go_simp; try with_reducible rfl)
        simp only [PT]
        first | (refine tk 9 (oi := ⟨some 86, _, _, _, _, _⟩) (v := undef) rfl (by kernel_rfl) (.inr ⟨by rfl, rfl⟩) hHeld ?_) | (refine tk 9 (oi := ⟨some 86, _, _, _, _, _⟩) (v := ?_) rfl (by kernel_rfl) (.inl ⟨by rfl, ?_⟩) hHeld ?_; rotate_left; focus (intro w hSw; (try dsimp only at hSw); go_simp; try with_reducible rfl))
        simp only [PT]
        first | (refine tk 10 (oi := ⟨some 87, _, _, _, _, _⟩) (v := undef) rfl (by kernel_rfl) (.inr ⟨by rfl, rfl⟩) hHeld ?_) | (refine tk 10 (oi := ⟨some 87, _, _, _, _, _⟩) (v := ?_) rfl (by kernel_rfl) (.inl ⟨by rfl, ?_⟩) hHeld ?_; rotate_left; focus (intro w hSw; (try dsimp only at hSw); go_simp; try with_reducible rfl))
        simp only [PT]
        first | (refine tk 11 (oi := ⟨some 88, _, _, _, _, _⟩) (v := undef) rfl (by kernel_rfl) (.inr ⟨by rfl, rfl⟩) hHeld ?_) | (refine tk 11 (oi := ⟨some 88, _, _, _, _, _⟩) (v := ?_) rfl (by kernel_rfl) (.inl ⟨by rfl, ?_⟩) hHeld ?_; rotate_left; focus (intro w hSw; (try dsimp only at hSw); go_simp; try with_reducible rfl))
        simp only [PT]
        first | (refine tk 12 (oi := ⟨some 89, _, _, _, _, _⟩) (v := undef) rfl (by kernel_rfl) (.inr ⟨by rfl, rfl⟩) hHeld ?_) | (refine tk 12 (oi := ⟨some 89, _, _, _, _, _⟩) (v := ?_) rfl (by kernel_rfl) (.inl ⟨by rfl, ?_⟩) hHeld ?_; rotate_left; focus (intro w hSw; (try dsimp only at hSw); go_simp; try with_reducible rfl))
        simp only [PT]
        first | (refine tk 13 (oi := ⟨some 90, _, _, _, _, _⟩) (v := undef) rfl (by kernel_rfl) (.inr ⟨by rfl, rfl⟩) hHeld ?_) | (refine tk 13 (oi := ⟨some 90, _, _, _, _, _⟩) (v := ?_) rfl (by kernel_rfl) (.inl ⟨by rfl, ?_⟩) hHeld ?_; rotate_left; focus (intro w hSw; (try dsimp only at hSw); go_simp; try with_reducible rfl))
        simp only [PT]
        first | (refine tk 14 (oi := ⟨some 91, _, _, _, _, _⟩) (v := undef) rfl (by kernel_rfl) (.inr ⟨by rfl, rfl⟩) hHeld ?_) | (refine tk 14 (oi := ⟨some 91, _, _, _, _, _⟩) (v := ?_) rfl (by kernel_rfl) (.inl ⟨by rfl, ?_⟩) hHeld ?_; rotate_left; focus (intro w hSw; (try dsimp only at hSw); go_simp; try with_reducible rfl))
        simp only [PT]
        first | (refine tk 15 (oi := ⟨some 92, _, _, _, _, _⟩) (v := undef) rfl (by kernel_rfl) (.inr ⟨by rfl, rfl⟩) hHeld ?_) | (refine tk 15 (oi := ⟨some 92, _, _, _, _, _⟩) (v := ?_) rfl (by kernel_rfl) (.inl ⟨by rfl, ?_⟩) hHeld ?_; rotate_left; focus (intro w hSw; (try dsimp only at hSw); go_simp; try with_reducible rfl))
        simp only [PT]
        first | (refine tk 16 (oi := ⟨some 93, _, _, _, _, _⟩) (v := undef) rfl (by kernel_rfl) (.inr ⟨by rfl, rfl⟩) hHeld ?_) | (refine tk 16 (oi := ⟨some 93, _, _, _, _, _⟩) (v := ?_) rfl (by kernel_rfl) (.inl ⟨by rfl, ?_⟩) hHeld ?_; rotate_left; focus (intro w hSw; (try dsimp only at hSw); go_simp; try with_reducible rfl))
        simp only [PT]
        first | (refine tk 17 (oi := ⟨some 94, _, _, _, _, _⟩) (v := undef) rfl (by kernel_rfl) (.inr ⟨by rfl, rfl⟩) hHeld ?_) | (refine tk 17 (oi := ⟨some 94, _, _, _, _, _⟩) (v := ?_) rfl (by kernel_rfl) (.inl ⟨by rfl, ?_⟩) hHeld ?_; rotate_left; focus (intro w hSw; (try dsimp only at hSw); go_simp; try with_reducible rfl))
        simp only [PT]
        first | (refine tk 18 (oi := ⟨some 95, _, _, _, _, _⟩) (v := undef) rfl (by kernel_rfl) (.inr ⟨by rfl, rfl⟩) hHeld ?_) | (refine tk 18 (oi := ⟨some 95, _, _, _, _, _⟩) (v := ?_) rfl (by kernel_rfl) (.inl ⟨by rfl, ?_⟩) hHeld ?_; rotate_left; focus (intro w hSw; (try dsimp only at hSw); go_simp; try with_reducible rfl))
        simp only [PT]
        first | (refine tk 19 (oi := ⟨some 96, _, _, _, _, _⟩) (v := undef) rfl (by kernel_rfl) (.inr ⟨by rfl, rfl⟩) hHeld ?_) | (refine tk 19 (oi := ⟨some 96, _, _, _, _, _⟩) (v := ?_) rfl (by kernel_rfl) (.inl ⟨by rfl, ?_⟩) hHeld ?_; rotate_left; focus (intro w hSw; (try dsimp only at hSw); go_simp; try with_reducible rfl))
        simp only [PT]
        first | (refine tk 20 (oi := ⟨some 97, _, _, _, _, _⟩) (v := undef) rfl (by kernel_rfl) (.inr ⟨by rfl, rfl⟩) hHeld ?_) | (refine tk 20 (oi := ⟨some 97, _, _, _, _, _⟩) (v := ?_) rfl (by kernel_rfl) (.inl ⟨by rfl, ?_⟩) hHeld ?_; rotate_left; focus (intro w hSw; (try dsimp only at hSw); go_simp; try with_reducible rfl))
        simp only [PT]
        first | (refine tk 21 (oi := ⟨some 98, _, _, _, _, _⟩) (v := undef) rfl (by kernel_rfl) (.inr ⟨by rfl, rfl⟩) hHeld ?_) | (refine tk 21 (oi := ⟨some 98, _, _, _, _, _⟩) (v := ?_) rfl (by kernel_rfl) (.inl ⟨by rfl, ?_⟩) hHeld ?_; rotate_left; focus (intro w hSw; (try dsimp only at hSw); go_simp; try with_reducible rfl))
        simp only [PT]
        first | (refine tk 22 (oi := ⟨some 99, _, _, _, _, _⟩) (v := undef) rfl (by kernel_rfl) (.inr ⟨by rfl, rfl⟩) hHeld ?_) | (refine tk 22 (oi := ⟨some 99, _, _, _, _, _⟩) (v := ?_) rfl (by kernel_rfl) (.inl ⟨by rfl, ?_⟩) hHeld ?_; rotate_left; focus (intro w hSw; (try dsimp only at hSw); go_simp; try with_reducible rfl))
        simp only [PT]
        first | (refine tk 23 (oi := ⟨some 100, _, _, _, _, _⟩) (v := undef) rfl (by kernel_rfl) (.inr ⟨by rfl, rfl⟩) hHeld ?_) | (refine tk 23 (oi := ⟨some 100, _, _, _, _, _⟩) (v := ?_) rfl (by kernel_rfl) (.inl ⟨by rfl, ?_⟩) hHeld ?_; rotate_left; focus (intro w hSw; (try dsimp only at hSw); go_simp; try with_reducible rfl))
        simp only [PT]
        first | (refine tk 24 (oi := ⟨some 101, _, _, _, _, _⟩) (v := undef) rfl (by kernel_rfl) (.inr ⟨by rfl, rfl⟩) hHeld ?_) | (refine tk 24 (oi := ⟨some 101, _, _, _, _, _⟩) (v := ?_) rfl (by kernel_rfl) (.inl ⟨by rfl, ?_⟩) hHeld ?_; rotate_left; focus (intro w hSw; (try dsimp only at hSw); go_simp; try with_reducible rfl))
        simp only [PT]
        first | (refine tk 25 (oi := ⟨some 102, _, _, _, _, _⟩) (v := undef) rfl (by kernel_rfl) (.inr ⟨by rfl, rfl⟩) hHeld ?_) | (refine tk 25 (oi := ⟨some 102, _, _, _, _, _⟩) (v := ?_) rfl (by kernel_rfl) (.inl ⟨by rfl, ?_⟩) hHeld ?_; rotate_left; focus (intro w hSw; (try dsimp only at hSw); go_simp; try with_reducible rfl))
        simp only [PT]
        first | (refine tk 26 (oi := ⟨some 103, _, _, _, _, _⟩) (v := undef) rfl (by kernel_rfl) (.inr ⟨by rfl, rfl⟩) hHeld ?_) | (refine tk 26 (oi := ⟨some 103, _, _, _, _, _⟩) (v := ?_) rfl (by kernel_rfl) (.inl ⟨by rfl, ?_⟩) hHeld ?_; rotate_left; focus (intro w hSw; (try dsimp only at hSw); go_simp; try with_reducible rfl))
        simp only [PT]
        first | (refine tk 27 (oi := ⟨some 104, _, _, _, _, _⟩) (v := undef) rfl (by kernel_rfl) (.inr ⟨by rfl, rfl⟩) hHeld ?_) | (refine tk 27 (oi := ⟨some 104, _, _, _, _, _⟩) (v := ?_) rfl (by kernel_rfl) (.inl ⟨by rfl, ?_⟩) hHeld ?_; rotate_left; focus (intro w hSw; (try dsimp only at hSw); go_simp; try with_reducible rfl))
        simp only [PT]
        first | (refine tk 28 (oi := ⟨some 105, _, _, _, _, _⟩) (v := undef) rfl (by kernel_rfl) (.inr ⟨by rfl, rfl⟩) hHeld ?_) | (refine tk 28 (oi := ⟨some 105, _, _, _, _, _⟩) (v := ?_) rfl (by kernel_rfl) (.inl ⟨by rfl, ?_⟩) hHeld ?_; rotate_left; focus (intro w hSw; (try dsimp only at hSw); go_simp; try with_reducible rfl))
        simp only [PT]
        first | (refine tk 29 (oi := ⟨some 106, _, _, _, _, _⟩) (v := undef) rfl (by kernel_rfl) (.inr ⟨by rfl, rfl⟩) hHeld ?_) | (refine tk 29 (oi := ⟨some 106, _, _, _, _, _⟩) (v := ?_) rfl (by kernel_rfl) (.inl ⟨by rfl, ?_⟩) hHeld ?_; rotate_left; focus (intro w hSw; (try dsimp only at hSw); go_simp; try with_reducible rfl))
        simp only [PT]
        refine wpAnyH_ready (rs := [30]) (by kernel_rfl) (by simp) ?_
        refine (AllReadyH.cons (o := ⟨some 107, _, _, _, _, _⟩) rfl (fun K hK => ?_) AllReadyH.nil)
        focus (first | (refine skip_step ?_ ?_; focus (rfl)) | (go_simp; go_must (refine (room_any nn HNN.out _).mono ?_); rintro e w5 ⟨rfl, hb__⟩; have hE__ := cU HB bup hb__; replace HB := ck HB hE__; (try replace HR := ck HR hE__); (try replace HWS := ck HWS hE__); (try replace HG13 := ck HG13 hE__); (try replace HG16 := ck HG16 hE__); clear hE__ hb__; go_wp2_with fail))
        refine hK.out _ _ ?_ (fun hHeld => ?_)
        focus (exact ⟨HXG.out _ (HB.out.trans (Below.mono bup HB.out.size)), hatB HG16 bup⟩)
        clear hK K
        try simp only [PT]
        first | (refine tk 31 (oi := ⟨some 108, _, _, _, _, _⟩) (v := undef) rfl (by kernel_rfl) (.inr ⟨by rfl, rfl⟩) hHeld ?_) | (refine tk 31 (oi := ⟨some 108, _, _, _, _, _⟩) (v := ?_) rfl (by kernel_rfl) (.inl ⟨by rfl, ?_⟩) hHeld ?_; rotate_left; focus (intro w hSw; (try dsimp only at hSw); go_simp; try with_reducible rfl))
        simp only [PT]
        first | (refine tk 32 (oi := ⟨some 109, _, _, _, _, _⟩) (v := undef) rfl (by kernel_rfl) (.inr ⟨by rfl, rfl⟩) hHeld ?_) | (refine tk 32 (oi := ⟨some 109, _, _, _, _, _⟩) (v := ?_) rfl (by kernel_rfl) (.inl ⟨by rfl, ?_⟩) hHeld ?_; rotate_left; focus (intro w hSw; (try dsimp only at hSw); go_simp; try with_reducible rfl))
        simp only [PT]
        first | (refine tk 33 (oi := ⟨some 110, _, _, _, _, _⟩) (v := undef) rfl (by kernel_rfl) (.inr ⟨by rfl, rfl⟩) hHeld ?_) | (refine tk 33 (oi := ⟨some 110, _, _, _, _, _⟩) (v := ?_) rfl (by kernel_rfl) (.inl ⟨by rfl, ?_⟩) hHeld ?_; rotate_left; focus (intro w hSw; (try dsimp only at hSw); go_simp; try with_reducible rfl))
        simp only [PT]
        first | (refine tk 34 (oi := ⟨some 111, _, _, _, _, _⟩) (v := undef) rfl (by kernel_rfl) (.inr ⟨by rfl, rfl⟩) hHeld ?_) | (refine tk 34 (oi := ⟨some 111, _, _, _, _, _⟩) (v := ?_) rfl (by kernel_rfl) (.inl ⟨by rfl, ?_⟩) hHeld ?_; rotate_left; focus (intro w hSw; (try dsimp only at hSw); go_simp; try with_reducible rfl))
        simp only [PT]
        first | (refine tk 35 (oi := ⟨some 112, _, _, _, _, _⟩) (v := undef) rfl (by kernel_rfl) (.inr ⟨by rfl, rfl⟩) hHeld ?_) | (refine tk 35 (oi := ⟨some 112, _, _, _, _, _⟩) (v := ?_) rfl (by kernel_rfl) (.inl ⟨by rfl, ?_⟩) hHeld ?_; rotate_left; focus (intro w hSw; (try dsimp only at hSw); go_simp; try with_reducible rfl))
        simp only [PT]
        refine tk 36 (oi := ⟨some 113, _, _, _, _, _⟩) (v := ?_) rfl (by kernel_rfl) (.inl ⟨by rfl, ?_⟩) hHeld ?_; rotate_left; focus (intro w hSw; (try dsimp only at hSw); go_simp; try with_reducible rfl)
        simp only [PT]
        refine tk 37 (oi := ⟨some 114, _, _, _, _, _⟩) (v := ?_) rfl (by kernel_rfl) (.inl ⟨by rfl, ?_⟩) hHeld ?_; rotate_left; focus (intro w hSw; (try dsimp only at hSw); go_simp; try with_reducible rfl)
        simp only [PT]
        first | (refine tk 38 (oi := ⟨some 115, _, _, _, _, _⟩) (v := undef) rfl (by kernel_rfl) (.inr ⟨by rfl, rfl⟩) hHeld ?_) | (refine tk 38 (oi := ⟨some 115, _, _, _, _, _⟩) (v := ?_) rfl (by kernel_rfl) (.inl ⟨by rfl, ?_⟩) hHeld ?_; rotate_left; focus (intro w hSw; (try dsimp only at hSw); go_simp; try with_reducible rfl))
        simp only [PT]
        first | (refine tk 39 (oi := ⟨some 116, _, _, _, _, _⟩) (v := undef) rfl (by kernel_rfl) (.inr ⟨by rfl, rfl⟩) hHeld ?_) | (refine tk 39 (oi := ⟨some 116, _, _, _, _, _⟩) (v := ?_) rfl (by kernel_rfl) (.inl ⟨by rfl, ?_⟩) hHeld ?_; rotate_left; focus (intro w hSw; (try dsimp only at hSw); go_simp; try with_reducible rfl))
        simp only [PT]
        first | (refine tk 40 (oi := ⟨some 117, _, _, _, _, _⟩) (v := undef) rfl (by kernel_rfl) (.inr ⟨by rfl, rfl⟩) hHeld ?_) | (refine tk 40 (oi := ⟨some 117, _, _, _, _, _⟩) (v := ?_) rfl (by kernel_rfl) (.inl ⟨by rfl, ?_⟩) hHeld ?_; rotate_left; focus (intro w hSw; (try dsimp only at hSw); go_simp; try with_reducible rfl))
        simp only [PT]
        first | (refine tk 41 (oi := ⟨some 118, _, _, _, _, _⟩) (v := undef) rfl (by kernel_rfl) (.inr ⟨by rfl, rfl⟩) hHeld ?_) | (refine tk 41 (oi := ⟨some 118, _, _, _, _, _⟩) (v := ?_) rfl (by kernel_rfl) (.inl ⟨by rfl, ?_⟩) hHeld ?_; rotate_left; focus (intro w hSw; (try dsimp only at hSw); go_simp; try with_reducible rfl))
        simp only [PT]
        first | (refine tk 42 (oi := ⟨some 119, _, _, _, _, _⟩) (v := undef) rfl (by kernel_rfl) (.inr ⟨by rfl, rfl⟩) hHeld ?_) | (refine tk 42 (oi := ⟨some 119, _, _, _, _, _⟩) (v := ?_) rfl (by kernel_rfl) (.inl ⟨by rfl, ?_⟩) hHeld ?_; rotate_left; focus (intro w hSw; (try dsimp only at hSw); go_simp; try with_reducible rfl))
        simp only [PT]
        refine tk 43 (oi := ⟨some 120, _, _, _, _, _⟩) (v := ?_) rfl (by kernel_rfl) (.inl ⟨by rfl, ?_⟩) hHeld ?_; rotate_left; focus (intro w hSw; (try dsimp only at hSw); go_simp; try with_reducible rfl)
        simp only [PT]
        refine tk 44 (oi := ⟨some 121, _, _, _, _, _⟩) (v := ?_) rfl (by kernel_rfl) (.inl ⟨by rfl, ?_⟩) hHeld ?_; rotate_left; focus (intro w hSw; (try dsimp only at hSw); go_simp; try with_reducible rfl)
        simp only [PT]
        first | (refine tk 45 (oi := ⟨some 122, _, _, _, _, _⟩) (v := undef) rfl (by kernel_rfl) (.inr ⟨by rfl, rfl⟩) hHeld ?_) | (refine tk 45 (oi := ⟨some 122, _, _, _, _, _⟩) (v := ?_) rfl (by kernel_rfl) (.inl ⟨by rfl, ?_⟩) hHeld ?_; rotate_left; focus (intro w hSw; (try dsimp only at hSw); go_simp; try with_reducible rfl))
        simp only [PT]
        first | (refine tk 47 (oi := ⟨some 124, _, _, _, _, _⟩) (v := undef) rfl (by kernel_rfl) (.inr ⟨by rfl, rfl⟩) hHeld ?_) | (refine tk 47 (oi := ⟨some 124, _, _, _, _, _⟩) (v := ?_) rfl (by kernel_rfl) (.inl ⟨by rfl, ?_⟩) hHeld ?_; rotate_left; focus (intro w hSw; (try dsimp only at hSw); go_simp; try with_reducible rfl))
        simp only [PT]
        refine wpAnyH_ready (rs := [46]) (by kernel_rfl) (by simp) ?_
        refine (AllReadyH.cons (o := ⟨some 123, _, _, _, _, _⟩) rfl (fun K hK => ?_) AllReadyH.nil)
        focus (first | (refine skip_step ?_ ?_; focus (rfl)) | (go_simp; go_must (refine (len_rep p q kb _ _ _ (HR.out.keep bup)).mono ?_); rintro e w5 ⟨rfl, hb__⟩; have hE__ := cU HB bup hb__; replace HB := ck HB hE__; (try replace HR := ck HR hE__); (try replace HWS := ck HWS hE__); (try replace HG13 := ck HG13 hE__); (try replace HG16 := ck HG16 hE__); clear hE__ hb__; go_wp2_with fail))
        refine hK.out _ _ ?_ (fun hHeld => ?_)
        focus (exact ⟨HXG.out _ (HB.out.trans (Below.mono bup HB.out.size)), hatB HG16 bup⟩)
        clear hK K
        try simp only [PT]
        refine wpAnyH_ready (rs := [48]) (by kernel_rfl) (by simp) ?_
        refine (AllReadyH.cons (o := ⟨some 125, _, _, _, _, _⟩) rfl (fun K hK => ?_) AllReadyH.nil)
        focus (first | (refine skip_step ?_ ?_; focus (rfl)) | (go_simp; go_must (refine (room_any nn HNN.out _).mono ?_); rintro e w5 ⟨rfl, hb__⟩; have hE__ := cU HB bup hb__; replace HB := ck HB hE__; (try replace HR := ck HR hE__); (try replace HWS := ck HWS hE__); (try replace HG13 := ck HG13 hE__); (try replace HG16 := ck HG16 hE__); clear hE__ hb__; go_wp2_with fail))
        refine hK.out _ _ ?_ (fun hHeld => ?_)
        focus (exact ⟨HXG.out _ (HB.out.trans (Below.mono bup HB.out.size)), hatB HG16 bup⟩)
        clear hK K
        try simp only [PT]
        first | (refine tk 49 (oi := ⟨some 126, _, _, _, _, _⟩) (v := undef) rfl (by kernel_rfl) (.inr ⟨by rfl, rfl⟩) hHeld ?_) | (refine' tk 49 (oi := ⟨some 126, _, _, _, _, _⟩) (v := (.bool false)) rfl (by kernel_rfl) (.inl ⟨by rfl, ?_⟩) hHeld ?_; focus (intro w hSw; (try dsimp only at hSw); go_simp; first | done | rfl | (simp [*]; done) | (simp [*]; omega)))
        simp only [PT]
        refine tk 50 (oi := ⟨some 127, _, _, _, _, _⟩) (v := ?_) rfl (by kernel_rfl) (.inl ⟨by rfl, ?_⟩) hHeld ?_; rotate_left; focus (intro w hSw; (try dsimp only at hSw); go_simp; try with_reducible rfl)
        simp only [PT]
        refine wpAnyH_done (by kernel_rfl) ?_ _
        go_wp2_with fail
        go_loopw [18] (fun i wr => ∃ m : Nat, m ≤ ls.length ∧ i = .int .i64 (m : Int) ∧ Hid (Below w.heap.size w wr) ∧ Hid (Rep wr p q kb (roomN nn) S') ∧ Hid (Fls wr adw ls.length cw ls) ∧ Hid (wr.heap[g13]? = some (.cells gone.v.cells.toArray 28 (0, 0)))) (fun i _ => ls.length - (intOf i).toNat)
        case atStart => exact ⟨0, by omega, rfl, Lib.hid (HB.out.trans (Below.mono bup HB.out.size)), Lib.hid (HR.out.keep bup), Lib.hid (HWS.out.below bup), Lib.hid (hatB HG13 bup)⟩
        case round =>
          have HR1 := HR
          clear HB HR HWS HG13 HG16
          obtain ⟨m, hm, rfl, HB, HR, HWS, HG13⟩ := hrel
          by_cases hend2 : m = ls.length
          · subst m
            go_wp2_with fail
            go_roundw
            case rel => exact ⟨k + 1, S', by omega, by go_num, HB, HR⟩
            case measure => first | (simp [intOf]; done) | (simp [intOf]; omega)
          have hlt2 : m < ls.length := by omega
          have hlm := HWS.out.le
          obtain ⟨bw, offw, rfl, hbw, hatw⟩ := HWS.out.at (by omega)
          clear hatw
          obtain ⟨v, hv⟩ : ∃ v, v = ls[m]'hlt2 := ⟨_, rfl⟩
          have HVR := Lib.hid (show _ from hv ▸ HWS.out.get m hlt2)
          have hvS : v ∈ flowsS S' := by rw [hv]; exact HPM.out.mem_iff.1 (List.getElem_mem _)
          have HRV := Lib.hid (flows_right HR0.out.good hvS)
          have hcase := oldest_case HR0.out.good HR1.out.good HPW.out hvS
          clear hv hvS HR1
          obtain ⟨_, hlk⟩ : False = False ∧ look S' v.v.key = some v := by
            rcases hcase with ⟨_, h⟩ | ⟨_, h, _⟩ | ⟨h, _⟩ | ⟨h, _⟩
            · exact ⟨rfl, h⟩
            · cases h
            · cases h
            · cases h
          clear hcase
          have HLK := Lib.hid hlk
          clear hlk
          go_wp2_with (first
            | ((with_reducible refine sl 140 ?_); go_must (refine wpL_load rfl 26 (.tmp 139) rfl bw (offw + m * 41) rfl v.v.key.cells _ (range_key HVR.out) Try.underlying26 rfl (tup_len v) ?_); simp only [PT])
            | (go_at_call 20; (with_reducible show Calls _ _ #[_, .agg v.v.key.cells.toArray] _ _); go_must (refine (get_yes p q kb _ _ v v HLK.out _ (HR.out.keep bup)).mono ?_); rintro e w5 ⟨rfl, hb__⟩; have hE__ := cU HB bup hb__; replace HB := ck HB hE__; (try replace HR := ck HR hE__); (try replace HWS := ck HWS hE__); (try replace HG13 := ck HG13 hE__); (try replace HVR := ck HVR hE__); clear hE__ hb__)
            | ((with_reducible refine sl 19 ?_); go_must (refine wpL_newG rfl rfl 28 rfl (.tmp 19) (.tmp 142) rfl (v.v.cells).toArray zeroF.cells.toArray (new_info (by first | exact Flo.length zeroF_ok | exact FloW.length _ | exact LEN_19)) (new_size (by first | exact Flo.length zeroF_ok | exact FloW.length _ | exact LEN_19)) (flo_one _) (fun _ => rfl) (fun _ => rfl) ?_); intro wn19 g19 le_19 hg__ hb__; have hE__ := cU HB bup hb__; replace HB := ck HB hE__; (try replace HR := ck HR hE__); (try replace HWS := ck HWS hE__); (try replace HG13 := ck HG13 hE__); (try replace HVR := ck HVR hE__); clear hE__ hb__; have HG19 := Lib.hid hg__; clear hg__; simp only [PT]))
          refine wp_region_held_drew (S := fun u__ => u__.rangeAt bw (offw + m * 41) v.v.cells ∧ u__.heap[g13]? = some (.cells gone.v.cells.toArray 28 (0, 0)) ∧ u__.heap[g19]? = some (.cells v.v.cells.toArray 28 (0, 0)) ∧ u__.rangeAt b (off + k * 41) x.v.cells) (by kernel_rfl) ?_ (fun hHeld => ?_)
          focus (exact ⟨range_keep HVR.out bup, hatB HG13 bup, hatB HG19 bup, HXG.out _ (HB.out.trans (Below.mono bup HB.out.size))⟩)
          refine tk 0 (oi := ⟨some 144, _, _, _, _, _⟩) (v := ?_) rfl (by kernel_rfl) (.inl ⟨by rfl, ?_⟩) hHeld ?_; rotate_left; focus (intro w hSw; (try dsimp only at hSw); go_simp; try with_reducible rfl)
          simp only [PT]
          refine tk 1 (oi := ⟨some 145, _, _, _, _, _⟩) (v := ?_) rfl (by kernel_rfl) (.inl ⟨by rfl, ?_⟩) hHeld ?_; rotate_left; focus (intro w hSw; (try dsimp only at hSw); go_simp; try with_reducible rfl)
          simp only [PT]
          first | (refine tk 2 (oi := ⟨some 146, _, _, _, _, _⟩) (v := undef) rfl (by kernel_rfl) (.inr ⟨by rfl, rfl⟩) hHeld ?_) | (refine tk 2 (oi := ⟨some 146, _, _, _, _, _⟩) (v := ?_) rfl (by kernel_rfl) (.inl ⟨by rfl, ?_⟩) hHeld ?_; rotate_left; focus (intro w hSw; (try dsimp only at hSw); go_simp; try with_reducible rfl))
          simp only [PT]
          first | (refine tk 3 (oi := ⟨some 147, _, _, _, _, _⟩) (v := undef) rfl (by kernel_rfl) (.inr ⟨by rfl, rfl⟩) hHeld ?_) | (refine tk 3 (oi := ⟨some 147, _, _, _, _, _⟩) (v := ?_) rfl (by kernel_rfl) (.inl ⟨by rfl, ?_⟩) hHeld ?_; rotate_left; focus (intro w hSw; (try dsimp only at hSw); go_simp; try with_reducible rfl))
          simp only [PT]
          first | (refine tk 4 (oi := ⟨some 148, _, _, _, _, _⟩) (v := undef) rfl (by kernel_rfl) (.inr ⟨by rfl, rfl⟩) hHeld ?_) | (refine tk 4 (oi := ⟨some 148, _, _, _, _, _⟩) (v := ?_) rfl (by kernel_rfl) (.inl ⟨by rfl, ?_⟩) hHeld ?_; rotate_left; focus (intro w hSw; (try dsimp only at hSw); go_simp; try with_reducible rfl))
          simp only [PT]
          first | (refine tk 5 (oi := ⟨some 149, _, _, _, _, _⟩) (v := undef) rfl (by kernel_rfl) (.inr ⟨by rfl, rfl⟩) hHeld ?_) | (refine tk 5 (oi := ⟨some 149, _, _, _, _, _⟩) (v := ?_) rfl (by kernel_rfl) (.inl ⟨by rfl, ?_⟩) hHeld ?_; rotate_left; focus (intro w hSw; (try dsimp only at hSw); go_simp; try with_reducible rfl))
          simp only [PT]
          first | (refine tk 6 (oi := ⟨some 150, _, _, _, _, _⟩) (v := undef) rfl (by kernel_rfl) (.inr ⟨by rfl, rfl⟩) hHeld ?_) | (refine tk 6 (oi := ⟨some 150, _, _, _, _, _⟩) (v := ?_) rfl (by kernel_rfl) (.inl ⟨by rfl, ?_⟩) hHeld ?_; rotate_left; focus (intro w hSw; (try dsimp only at hSw); go_simp; try with_reducible rfl))
          simp only [PT]
          first | (refine tk 7 (oi := ⟨some 151, _, _, _, _, _⟩) (v := undef) rfl (by kernel_rfl) (.inr ⟨by rfl, rfl⟩) hHeld ?_) | (refine tk 7 (oi := ⟨some 151, _, _, _, _, _⟩) (v := ?_) rfl (by kernel_rfl) (.inl ⟨by rfl, ?_⟩) hHeld ?_; rotate_left; focus (intro w hSw; (try dsimp only at hSw); go_simp; try with_reducible rfl))
          simp only [PT]
          first | (refine tk 8 (oi := ⟨some 152, _, _, _, _, _⟩) (v := undef) rfl (by kernel_rfl) (.inr ⟨by rfl, rfl⟩) hHeld ?_) | (refine tk 8 (oi := ⟨some 152, _, _, _, _, _⟩) (v := ?_) rfl (by kernel_rfl) (.inl ⟨by rfl, ?_⟩) hHeld ?_; rotate_left; focus (intro w hSw; (try dsimp only at hSw); go_simp; try with_reducible rfl))
          simp only [PT]
          first | (refine tk 9 (oi := ⟨some 153, _, _, _, _, _⟩) (v := undef) rfl (by kernel_rfl) (.inr ⟨by rfl, rfl⟩) hHeld ?_) | (refine tk 9 (oi := ⟨some 153, _, _, _, _, _⟩) (v := ?_) rfl (by kernel_rfl) (.inl ⟨by rfl, ?_⟩) hHeld ?_; rotate_left; focus (intro w hSw; (try dsimp only at hSw); go_simp; try with_reducible rfl))
          simp only [PT]
          refine tk 10 (oi := ⟨some 154, _, _, _, _, _⟩) (v := ?_) rfl (by kernel_rfl) (.inl ⟨by rfl, ?_⟩) hHeld ?_; rotate_left; focus (intro w hSw; (try dsimp only at hSw); go_simp; try with_reducible rfl)
          simp only [PT]
          refine tk 11 (oi := ⟨some 21, _, _, _, _, _⟩) (v := ?_) rfl (by kernel_rfl) (.inl ⟨by rfl, ?_⟩) hHeld ?_; rotate_left; focus (intro w hSw; (try dsimp only at hSw); go_simp; try with_reducible rfl)
          simp only [PT]
          refine wpAnyH_done (by kernel_rfl) ?_ _
          go_wp2_with fail
          refine wp_region_held_drew (S := fun u__ => u__.rangeAt bw (offw + m * 41) v.v.cells ∧ u__.heap[g13]? = some (.cells gone.v.cells.toArray 28 (0, 0)) ∧ u__.heap[g19]? = some (.cells v.v.cells.toArray 28 (0, 0)) ∧ u__.rangeAt b (off + k * 41) x.v.cells) (by kernel_rfl) ?_ (fun hHeld => ?_)
          focus (exact ⟨range_keep HVR.out bup, hatB HG13 bup, hatB HG19 bup, HXG.out _ (HB.out.trans (Below.mono bup HB.out.size))⟩)
          refine tk 0 (oi := ⟨some 155, _, _, _, _, _⟩) (v := ?_) rfl (by kernel_rfl) (.inl ⟨by rfl, ?_⟩) hHeld ?_; rotate_left; focus (intro w hSw; (try dsimp only at hSw); go_simp; try with_reducible rfl)
          simp only [PT]
          refine tk 1 (oi := ⟨some 156, _, _, _, _, _⟩) (v := ?_) rfl (by kernel_rfl) (.inl ⟨by rfl, ?_⟩) hHeld ?_; rotate_left; focus (intro w hSw; (try dsimp only at hSw); go_simp; try with_reducible rfl)
          simp only [PT]
          refine tk 2 (oi := ⟨some 157, _, _, _, _, _⟩) (v := ?_) rfl (by kernel_rfl) (.inl ⟨by rfl, ?_⟩) hHeld ?_; rotate_left; focus (intro w hSw; (try dsimp only at hSw); go_simp; try with_reducible rfl)
          simp only [PT]
          refine tk 3 (oi := ⟨some 158, _, _, _, _, _⟩) (v := ?_) rfl (by kernel_rfl) (.inl ⟨by rfl, ?_⟩) hHeld ?_; rotate_left; focus (intro w hSw; (try dsimp only at hSw); go_simp; try with_reducible rfl)
          simp only [PT]
          first | (refine tk 4 (oi := ⟨some 159, _, _, _, _, _⟩) (v := undef) rfl (by kernel_rfl) (.inr ⟨by rfl, rfl⟩) hHeld ?_) | (refine tk 4 (oi := ⟨some 159, _, _, _, _, _⟩) (v := ?_) rfl (by kernel_rfl) (.inl ⟨by rfl, ?_⟩) hHeld ?_; rotate_left; focus (intro w hSw; (try dsimp only at hSw); go_simp; try with_reducible rfl))
          simp only [PT]
          first | (refine tk 5 (oi := ⟨some 160, _, _, _, _, _⟩) (v := undef) rfl (by kernel_rfl) (.inr ⟨by rfl, rfl⟩) hHeld ?_) | (refine tk 5 (oi := ⟨some 160, _, _, _, _, _⟩) (v := ?_) rfl (by kernel_rfl) (.inl ⟨by rfl, ?_⟩) hHeld ?_; rotate_left; focus (intro w hSw; (try dsimp only at hSw); go_simp; try with_reducible rfl))
          simp only [PT]
          first | (refine tk 6 (oi := ⟨some 161, _, _, _, _, _⟩) (v := undef) rfl (by kernel_rfl) (.inr ⟨by rfl, rfl⟩) hHeld ?_) | (refine tk 6 (oi := ⟨some 161, _, _, _, _, _⟩) (v := ?_) rfl (by kernel_rfl) (.inl ⟨by rfl, ?_⟩) hHeld ?_; rotate_left; focus (intro w hSw; (try dsimp only at hSw); go_simp; try with_reducible rfl))
          simp only [PT]
          first | (refine tk 7 (oi := ⟨some 162, _, _, _, _, _⟩) (v := undef) rfl (by kernel_rfl) (.inr ⟨by rfl, rfl⟩) hHeld ?_) | (refine tk 7 (oi := ⟨some 162, _, _, _, _, _⟩) (v := ?_) rfl (by kernel_rfl) (.inl ⟨by rfl, ?_⟩) hHeld ?_; rotate_left; focus (intro w hSw; (try dsimp only at hSw); go_simp; try with_reducible rfl))
          simp only [PT]
          first | (refine tk 8 (oi := ⟨some 163, _, _, _, _, _⟩) (v := undef) rfl (by kernel_rfl) (.inr ⟨by rfl, rfl⟩) hHeld ?_) | (refine tk 8 (oi := ⟨some 163, _, _, _, _, _⟩) (v := ?_) rfl (by kernel_rfl) (.inl ⟨by rfl, ?_⟩) hHeld ?_; rotate_left; focus (intro w hSw; (try dsimp only at hSw); go_simp; try with_reducible rfl))
          simp only [PT]
          first | (refine tk 9 (oi := ⟨some 164, _, _, _, _, _⟩) (v := undef) rfl (by kernel_rfl) (.inr ⟨by rfl, rfl⟩) hHeld ?_) | (refine tk 9 (oi := ⟨some 164, _, _, _, _, _⟩) (v := ?_) rfl (by kernel_rfl) (.inl ⟨by rfl, ?_⟩) hHeld ?_; rotate_left; focus (intro w hSw; (try dsimp only at hSw); go_simp; try with_reducible rfl))
          simp only [PT]
          first | (refine tk 10 (oi := ⟨some 165, _, _, _, _, _⟩) (v := undef) rfl (by kernel_rfl) (.inr ⟨by rfl, rfl⟩) hHeld ?_) | (refine tk 10 (oi := ⟨some 165, _, _, _, _, _⟩) (v := ?_) rfl (by kernel_rfl) (.inl ⟨by rfl, ?_⟩) hHeld ?_; rotate_left; focus (intro w hSw; (try dsimp only at hSw); go_simp; try with_reducible rfl))
          simp only [PT]
          refine wpAnyH_ready (rs := [11]) (by kernel_rfl) (by simp) ?_
          refine (AllReadyH.cons (o := ⟨some 166, _, _, _, _, _⟩) rfl (fun K hK => ?_) AllReadyH.nil)
          (go_simp)
          refine hK.out _ _ ?_ (fun hHeld => ?_)
          focus (exact ⟨range_keep HVR.out bup, hatB HG13 bup, hatB HG19 bup, HXG.out _ (HB.out.trans (Below.mono bup HB.out.size))⟩)
          clear hK K
          try simp only [PT]
          first | (refine tk 12 (oi := ⟨some 167, _, _, _, _, _⟩) (v := undef) rfl (by kernel_rfl) (.inr ⟨by rfl, rfl⟩) hHeld ?_) | (refine tk 12 (oi := ⟨some 167, _, _, _, _, _⟩) (v := ?_) rfl (by kernel_rfl) (.inl ⟨by rfl, ?_⟩) hHeld ?_; rotate_left; focus (intro w hSw; (try dsimp only at hSw); go_simp; try with_reducible rfl))
          simp only [PT]
          refine tk 13 (oi := ⟨some 168, _, _, _, _, _⟩) (v := ?_) rfl (by kernel_rfl) (.inl ⟨by rfl, ?_⟩) hHeld ?_; rotate_left; focus (intro w hSw; (try dsimp only at hSw); go_simp; try with_reducible rfl)
          simp only [PT]
          refine tk 14 (oi := ⟨some 169, _, _, _, _, _⟩) (v := ?_) rfl (by kernel_rfl) (.inl ⟨by rfl, ?_⟩) hHeld ?_; rotate_left; focus (intro w hSw; (try dsimp only at hSw); go_simp; try with_reducible rfl)
          simp only [PT]
          first | (refine tk 15 (oi := ⟨some 170, _, _, _, _, _⟩) (v := undef) rfl (by kernel_rfl) (.inr ⟨by rfl, rfl⟩) hHeld ?_) | (refine tk 15 (oi := ⟨some 170, _, _, _, _, _⟩) (v := ?_) rfl (by kernel_rfl) (.inl ⟨by rfl, ?_⟩) hHeld ?_; rotate_left; focus (intro w hSw; (try dsimp only at hSw); go_simp; try with_reducible rfl))
          simp only [PT]
          first | (refine tk 16 (oi := ⟨some 171, _, _, _, _, _⟩) (v := undef) rfl (by kernel_rfl) (.inr ⟨by rfl, rfl⟩) hHeld ?_) | (refine tk 16 (oi := ⟨some 171, _, _, _, _, _⟩) (v := ?_) rfl (by kernel_rfl) (.inl ⟨by rfl, ?_⟩) hHeld ?_; rotate_left; focus (intro w hSw; (try dsimp only at hSw); go_simp; try with_reducible rfl))
          simp only [PT]
          first | (refine tk 17 (oi := ⟨some 172, _, _, _, _, _⟩) (v := undef) rfl (by kernel_rfl) (.inr ⟨by rfl, rfl⟩) hHeld ?_) | (refine' tk 17 (oi := ⟨some 172, _, _, _, _, _⟩) (v := _) rfl (by kernel_rfl) (yieldsIf_load_mid (by rfl) _ _ rfl _ _ rfl (v.v.cells) _ (fun _ h => range_block h.2.2.1) (Try.underlying28) rfl (one_size v)) hHeld ?_)
          simp only [PT]
          first | (refine tk 18 (oi := ⟨some 173, _, _, _, _, _⟩) (v := undef) rfl (by kernel_rfl) (.inr ⟨by rfl, rfl⟩) hHeld ?_) | (refine tk 18 (oi := ⟨some 173, _, _, _, _, _⟩) (v := ?_) rfl (by kernel_rfl) (.inl ⟨by rfl, ?_⟩) hHeld ?_; rotate_left; focus (intro w hSw; (try dsimp only at hSw); go_simp; try with_reducible rfl))
          simp only [PT]
          first | (refine tk 19 (oi := ⟨some 174, _, _, _, _, _⟩) (v := undef) rfl (by kernel_rfl) (.inr ⟨by rfl, rfl⟩) hHeld ?_) | (refine tk 19 (oi := ⟨some 174, _, _, _, _, _⟩) (v := ?_) rfl (by kernel_rfl) (.inl ⟨by rfl, ?_⟩) hHeld ?_; rotate_left; focus (intro w hSw; (try dsimp only at hSw); go_simp; try with_reducible rfl))
          simp only [PT]
          first | (refine tk 20 (oi := ⟨some 175, _, _, _, _, _⟩) (v := undef) rfl (by kernel_rfl) (.inr ⟨by rfl, rfl⟩) hHeld ?_) | (refine tk 20 (oi := ⟨some 175, _, _, _, _, _⟩) (v := ?_) rfl (by kernel_rfl) (.inl ⟨by rfl, ?_⟩) hHeld ?_; rotate_left; focus (intro w hSw; (try dsimp only at hSw); go_simp; try with_reducible rfl))
          simp only [PT]
          first | (refine tk 21 (oi := ⟨some 176, _, _, _, _, _⟩) (v := undef) rfl (by kernel_rfl) (.inr ⟨by rfl, rfl⟩) hHeld ?_) | (refine' tk 21 (oi := ⟨some 176, _, _, _, _, _⟩) (v := _) rfl (by kernel_rfl) (yieldsIf_load_mid (by rfl) _ _ rfl _ _ rfl (v.v.cells) _ (fun _ h => h.1) (Try.underlying28) rfl (one_size v)) hHeld ?_)
          simp only [PT]
          first | (refine tk 22 (oi := ⟨some 177, _, _, _, _, _⟩) (v := undef) rfl (by kernel_rfl) (.inr ⟨by rfl, rfl⟩) hHeld ?_) | (refine' tk 22 (oi := ⟨some 177, _, _, _, _, _⟩) (v := _) rfl (by kernel_rfl) (yields_neqF v v false (by simp) (by rfl) (.tmp 172) (.tmp 176) rfl rfl rfl) hHeld ?_)
          simp only [PT]
          first | (refine tk 23 (oi := ⟨some 178, _, _, _, _, _⟩) (v := undef) rfl (by kernel_rfl) (.inr ⟨by rfl, rfl⟩) hHeld ?_) | (refine tk 23 (oi := ⟨some 178, _, _, _, _, _⟩) (v := ?_) rfl (by kernel_rfl) (.inl ⟨by rfl, ?_⟩) hHeld ?_; rotate_left; focus (intro w hSw; (try dsimp only at hSw); go_simp; try with_reducible rfl))
          simp only [PT]
          first | (refine tk 24 (oi := ⟨some 179, _, _, _, _, _⟩) (v := undef) rfl (by kernel_rfl) (.inr ⟨by rfl, rfl⟩) hHeld ?_) | (refine tk 24 (oi := ⟨some 179, _, _, _, _, _⟩) (v := ?_) rfl (by kernel_rfl) (.inl ⟨by rfl, ?_⟩) hHeld ?_; rotate_left; focus (intro w hSw; (try dsimp only at hSw); go_simp; try with_reducible rfl))
          simp only [PT]
          first | (refine tk 25 (oi := ⟨some 180, _, _, _, _, _⟩) (v := undef) rfl (by kernel_rfl) (.inr ⟨by rfl, rfl⟩) hHeld ?_) | (refine tk 25 (oi := ⟨some 180, _, _, _, _, _⟩) (v := ?_) rfl (by kernel_rfl) (.inl ⟨by rfl, ?_⟩) hHeld ?_; rotate_left; focus (intro w hSw; (try dsimp only at hSw); go_simp; try with_reducible rfl))
          simp only [PT]
          first | (refine tk 26 (oi := ⟨some 181, _, _, _, _, _⟩) (v := undef) rfl (by kernel_rfl) (.inr ⟨by rfl, rfl⟩) hHeld ?_) | (refine tk 26 (oi := ⟨some 181, _, _, _, _, _⟩) (v := ?_) rfl (by kernel_rfl) (.inl ⟨by rfl, ?_⟩) hHeld ?_; rotate_left; focus (intro w hSw; (try dsimp only at hSw); go_simp; try with_reducible rfl))
          simp only [PT]
          first | (refine tk 27 (oi := ⟨some 182, _, _, _, _, _⟩) (v := undef) rfl (by kernel_rfl) (.inr ⟨by rfl, rfl⟩) hHeld ?_) | (refine tk 27 (oi := ⟨some 182, _, _, _, _, _⟩) (v := ?_) rfl (by kernel_rfl) (.inl ⟨by rfl, ?_⟩) hHeld ?_; rotate_left; focus (intro w hSw; (try dsimp only at hSw); go_simp; try with_reducible rfl))
          simp only [PT]
          first | (refine tk 28 (oi := ⟨some 183, _, _, _, _, _⟩) (v := undef) rfl (by kernel_rfl) (.inr ⟨by rfl, rfl⟩) hHeld ?_) | (refine tk 28 (oi := ⟨some 183, _, _, _, _, _⟩) (v := ?_) rfl (by kernel_rfl) (.inl ⟨by rfl, ?_⟩) hHeld ?_; rotate_left; focus (intro w hSw; (try dsimp only at hSw); go_simp; try with_reducible rfl))
          simp only [PT]
          first | (refine tk 29 (oi := ⟨some 184, _, _, _, _, _⟩) (v := undef) rfl (by kernel_rfl) (.inr ⟨by rfl, rfl⟩) hHeld ?_) | (refine tk 29 (oi := ⟨some 184, _, _, _, _, _⟩) (v := ?_) rfl (by kernel_rfl) (.inl ⟨by rfl, ?_⟩) hHeld ?_; rotate_left; focus (intro w hSw; (try dsimp only at hSw); go_simp; try with_reducible rfl))
          simp only [PT]
          first | (refine tk 30 (oi := ⟨some 185, _, _, _, _, _⟩) (v := undef) rfl (by kernel_rfl) (.inr ⟨by rfl, rfl⟩) hHeld ?_) | (refine tk 30 (oi := ⟨some 185, _, _, _, _, _⟩) (v := ?_) rfl (by kernel_rfl) (.inl ⟨by rfl, ?_⟩) hHeld ?_; rotate_left; focus (intro w hSw; (try dsimp only at hSw); go_simp; try with_reducible rfl))
          simp only [PT]
          first | (refine tk 31 (oi := ⟨some 186, _, _, _, _, _⟩) (v := undef) rfl (by kernel_rfl) (.inr ⟨by rfl, rfl⟩) hHeld ?_) | (refine tk 31 (oi := ⟨some 186, _, _, _, _, _⟩) (v := ?_) rfl (by kernel_rfl) (.inl ⟨by rfl, ?_⟩) hHeld ?_; rotate_left; focus (intro w hSw; (try dsimp only at hSw); go_simp; try with_reducible rfl))
          simp only [PT]
          first | (refine tk 32 (oi := ⟨some 187, _, _, _, _, _⟩) (v := undef) rfl (by kernel_rfl) (.inr ⟨by rfl, rfl⟩) hHeld ?_) | (refine tk 32 (oi := ⟨some 187, _, _, _, _, _⟩) (v := ?_) rfl (by kernel_rfl) (.inl ⟨by rfl, ?_⟩) hHeld ?_; rotate_left; focus (intro w hSw; (try dsimp only at hSw); go_simp; try with_reducible rfl))
          simp only [PT]
          first | (refine tk 33 (oi := ⟨some 188, _, _, _, _, _⟩) (v := undef) rfl (by kernel_rfl) (.inr ⟨by rfl, rfl⟩) hHeld ?_) | (refine tk 33 (oi := ⟨some 188, _, _, _, _, _⟩) (v := ?_) rfl (by kernel_rfl) (.inl ⟨by rfl, ?_⟩) hHeld ?_; rotate_left; focus (intro w hSw; (try dsimp only at hSw); go_simp; try with_reducible rfl))
          simp only [PT]
          first | (refine tk 34 (oi := ⟨some 189, _, _, _, _, _⟩) (v := undef) rfl (by kernel_rfl) (.inr ⟨by rfl, rfl⟩) hHeld ?_) | (refine tk 34 (oi := ⟨some 189, _, _, _, _, _⟩) (v := ?_) rfl (by kernel_rfl) (.inl ⟨by rfl, ?_⟩) hHeld ?_; rotate_left; focus (intro w hSw; (try dsimp only at hSw); go_simp; try with_reducible rfl))
          simp only [PT]
          first | (refine tk 35 (oi := ⟨some 190, _, _, _, _, _⟩) (v := undef) rfl (by kernel_rfl) (.inr ⟨by rfl, rfl⟩) hHeld ?_) | (refine tk 35 (oi := ⟨some 190, _, _, _, _, _⟩) (v := ?_) rfl (by kernel_rfl) (.inl ⟨by rfl, ?_⟩) hHeld ?_; rotate_left; focus (intro w hSw; (try dsimp only at hSw); go_simp; try with_reducible rfl))
          simp only [PT]
          first | (refine tk 36 (oi := ⟨some 191, _, _, _, _, _⟩) (v := undef) rfl (by kernel_rfl) (.inr ⟨by rfl, rfl⟩) hHeld ?_) | (refine tk 36 (oi := ⟨some 191, _, _, _, _, _⟩) (v := ?_) rfl (by kernel_rfl) (.inl ⟨by rfl, ?_⟩) hHeld ?_; rotate_left; focus (intro w hSw; (try dsimp only at hSw); go_simp; try with_reducible rfl))
          simp only [PT]
          first | (refine tk 37 (oi := ⟨some 192, _, _, _, _, _⟩) (v := undef) rfl (by kernel_rfl) (.inr ⟨by rfl, rfl⟩) hHeld ?_) | (refine tk 37 (oi := ⟨some 192, _, _, _, _, _⟩) (v := ?_) rfl (by kernel_rfl) (.inl ⟨by rfl, ?_⟩) hHeld ?_; rotate_left; focus (intro w hSw; (try dsimp only at hSw); go_simp; try with_reducible rfl))
          simp only [PT]
          first | (refine tk 38 (oi := ⟨some 193, _, _, _, _, _⟩) (v := undef) rfl (by kernel_rfl) (.inr ⟨by rfl, rfl⟩) hHeld ?_) | (refine tk 38 (oi := ⟨some 193, _, _, _, _, _⟩) (v := ?_) rfl (by kernel_rfl) (.inl ⟨by rfl, ?_⟩) hHeld ?_; rotate_left; focus (intro w hSw; (try dsimp only at hSw); go_simp; try with_reducible rfl))
          simp only [PT]
          first | (refine tk 39 (oi := ⟨some 194, _, _, _, _, _⟩) (v := undef) rfl (by kernel_rfl) (.inr ⟨by rfl, rfl⟩) hHeld ?_) | (refine tk 39 (oi := ⟨some 194, _, _, _, _, _⟩) (v := ?_) rfl (by kernel_rfl) (.inl ⟨by rfl, ?_⟩) hHeld ?_; rotate_left; focus (intro w hSw; (try dsimp only at hSw); go_simp; try with_reducible rfl))
          simp only [PT]
          first | (refine tk 40 (oi := ⟨some 195, _, _, _, _, _⟩) (v := undef) rfl (by kernel_rfl) (.inr ⟨by rfl, rfl⟩) hHeld ?_) | (refine tk 40 (oi := ⟨some 195, _, _, _, _, _⟩) (v := ?_) rfl (by kernel_rfl) (.inl ⟨by rfl, ?_⟩) hHeld ?_; rotate_left; focus (intro w hSw; (try dsimp only at hSw); go_simp; try with_reducible rfl))
          simp only [PT]
          refine tk 41 (oi := ⟨some 196, _, _, _, _, _⟩) (v := ?_) rfl (by kernel_rfl) (.inl ⟨by rfl, ?_⟩) hHeld ?_; rotate_left; focus (intro w hSw; (try dsimp only at hSw); go_simp; try with_reducible rfl)
          simp only [PT]
          refine wpAnyH_done (by kernel_rfl) ?_ _
          go_wp2_with fail
          go_roundw
          case rel => exact ⟨m + 1, by omega, by go_num, Lib.hid (HB.out.trans (Below.mono bup HB.out.size)), Lib.hid (HR.out.keep bup), Lib.hid (HWS.out.below bup), Lib.hid (hatB HG13 bup)⟩
          case measure => first | (simp [intOf]; done) | (simp [intOf]; omega)
      have h2x : ok = true ∧ g2 = x := by
        have h3 := put_there_now HR.out.good hps
        rcases HG2.out with ⟨h1, h2⟩ | ⟨_, _, h2⟩
        · exact ⟨h1, Option.some.inj (h2.symm.trans h3)⟩
        · rw [h2] at h3; cases h3
      obtain ⟨rfl, h2⟩ := h2x
      subst g2
      clear HG2
      have hcl : (flowsS S').length ≤ roomN nn := HR.out.le
      have hll := HPM.out.length_eq
      have hle2 := HR0.out.le
      rcases hps with ⟨rfl, hz, hc, hp⟩ | ⟨rfl, hno, hge, g0, R, hm, hgv, h2, h3⟩
      · rcases HG1.out with ⟨rfl, hl1⟩ | ⟨rfl, _, hl1⟩
        · as_aux_lemma =>
          clear hc hp hl1 hz
          refine wp_region_held_drew (S := fun u__ => u__.rangeAt b (off + k * 41) x.v.cells ∧ u__.heap[g16]? = some (.cells x.v.cells.toArray 28 (0, 0))) (by kernel_rfl) ?_ (fun hHeld => ?_)
          focus (exact ⟨HXG.out _ (HB.out.trans (Below.mono bup HB.out.size)), hatB HG16 bup⟩)
          refine tk 0 (oi := ⟨some 77, _, _, _, _, _⟩) (v := ?_) rfl (by kernel_rfl) (.inl ⟨by rfl, ?_⟩) hHeld ?_; rotate_left; focus (intro w hSw; (try dsimp only at hSw); go_simp; try with_reducible rfl)
          simp only [PT]
          refine tk 1 (oi := ⟨some 78, _, _, _, _, _⟩) (v := ?_) rfl (by kernel_rfl) (.inl ⟨by rfl, ?_⟩) hHeld ?_; rotate_left; focus (intro w hSw; (try dsimp only at hSw); go_simp; try with_reducible rfl)
          simp only [PT]
          refine tk 2 (oi := ⟨some 79, _, _, _, _, _⟩) (v := ?_) rfl (by kernel_rfl) (.inl ⟨by rfl, ?_⟩) hHeld ?_; rotate_left; focus (intro w hSw; (try dsimp only at hSw); go_simp; try with_reducible rfl)
          simp only [PT]
          refine tk 3 (oi := ⟨some 80, _, _, _, _, _⟩) (v := ?_) rfl (by kernel_rfl) (.inl ⟨by rfl, ?_⟩) hHeld ?_; rotate_left; focus (intro w hSw; (try dsimp only at hSw); go_simp; try with_reducible rfl)
          simp only [PT]
          refine tk 4 (oi := ⟨some 81, _, _, _, _, _⟩) (v := ?_) rfl (by kernel_rfl) (.inl ⟨by rfl, ?_⟩) hHeld ?_; rotate_left; focus (intro w hSw; (try dsimp only at hSw); go_simp; try with_reducible rfl)
          simp only [PT]
          refine' tk 5 (oi := ⟨some 82, _, _, _, _, _⟩) (v := _) rfl (by kernel_rfl) (yieldsIf_load_mid (by rfl) _ _ rfl _ _ rfl (x.v.cells) _ (fun _ h => h.1) (Try.underlying28) rfl (one_size x)) hHeld ?_
          simp only [PT]
          refine wpAnyH_ready (rs := [6]) (by kernel_rfl) (by simp) ?_
          refine (AllReadyH.cons (o := ⟨some 83, _, _, _, _, _⟩) rfl (fun K hK => ?_) AllReadyH.nil)
          focus (first | (refine skip_step ?_ ?_; focus (rfl)) | (go_simp; go_must (refine (refRight_any x.v x.ok HSZ.out _).mono ?_); rw [hr]; rintro e w5 ⟨rfl, hb__⟩; have hE__ := cU HB bup hb__; replace HB := ck HB hE__; (try replace HR := ck HR hE__); (try replace HWS := ck HWS hE__); (try replace HG13 := ck HG13 hE__); (try replace HG16 := ck HG16 hE__); clear hE__ hb__; go_wp2_with fail))
          refine hK.out _ _ ?_ (fun hHeld => ?_)
          focus (exact ⟨HXG.out _ (HB.out.trans (Below.mono bup HB.out.size)), hatB HG16 bup⟩)
          clear hK K
          try simp only [PT]
          refine tk 7 (oi := ⟨some 84, _, _, _, _, _⟩) (v := ?_) rfl (by kernel_rfl) (.inl ⟨by rfl, ?_⟩) hHeld ?_; rotate_left; focus (intro w hSw; (try dsimp only at hSw); go_simp; try with_reducible rfl)
          simp only [PT]
          refine tk 8 (oi := ⟨some 85, _, _, _, _, _⟩) (v := ?_) rfl (by kernel_rfl) (.inl ⟨by rfl, ?_⟩) hHeld ?_; rotate_left; focus (intro w hSw; (try dsimp only at hSw); go_simp; try with_reducible rfl)
          simp only [PT]
          first | (refine tk 9 (oi := ⟨some 86, _, _, _, _, _⟩) (v := undef) rfl (by kernel_rfl) (.inr ⟨by rfl, rfl⟩) hHeld ?_) | (refine tk 9 (oi := ⟨some 86, _, _, _, _, _⟩) (v := ?_) rfl (by kernel_rfl) (.inl ⟨by rfl, ?_⟩) hHeld ?_; rotate_left; focus (intro w hSw; (try dsimp only at hSw); go_simp; try with_reducible rfl))
          simp only [PT]
          first | (refine tk 10 (oi := ⟨some 87, _, _, _, _, _⟩) (v := undef) rfl (by kernel_rfl) (.inr ⟨by rfl, rfl⟩) hHeld ?_) | (refine tk 10 (oi := ⟨some 87, _, _, _, _, _⟩) (v := ?_) rfl (by kernel_rfl) (.inl ⟨by rfl, ?_⟩) hHeld ?_; rotate_left; focus (intro w hSw; (try dsimp only at hSw); go_simp; try with_reducible rfl))
          simp only [PT]
          first | (refine tk 11 (oi := ⟨some 88, _, _, _, _, _⟩) (v := undef) rfl (by kernel_rfl) (.inr ⟨by rfl, rfl⟩) hHeld ?_) | (refine tk 11 (oi := ⟨some 88, _, _, _, _, _⟩) (v := ?_) rfl (by kernel_rfl) (.inl ⟨by rfl, ?_⟩) hHeld ?_; rotate_left; focus (intro w hSw; (try dsimp only at hSw); go_simp; try with_reducible rfl))
          simp only [PT]
          first | (refine tk 12 (oi := ⟨some 89, _, _, _, _, _⟩) (v := undef) rfl (by kernel_rfl) (.inr ⟨by rfl, rfl⟩) hHeld ?_) | (refine tk 12 (oi := ⟨some 89, _, _, _, _, _⟩) (v := ?_) rfl (by kernel_rfl) (.inl ⟨by rfl, ?_⟩) hHeld ?_; rotate_left; focus (intro w hSw; (try dsimp only at hSw); go_simp; try with_reducible rfl))
          simp only [PT]
          first | (refine tk 13 (oi := ⟨some 90, _, _, _, _, _⟩) (v := undef) rfl (by kernel_rfl) (.inr ⟨by rfl, rfl⟩) hHeld ?_) | (refine tk 13 (oi := ⟨some 90, _, _, _, _, _⟩) (v := ?_) rfl (by kernel_rfl) (.inl ⟨by rfl, ?_⟩) hHeld ?_; rotate_left; focus (intro w hSw; (try dsimp only at hSw); go_simp; try with_reducible rfl))
          simp only [PT]
          first | (refine tk 14 (oi := ⟨some 91, _, _, _, _, _⟩) (v := undef) rfl (by kernel_rfl) (.inr ⟨by rfl, rfl⟩) hHeld ?_) | (refine tk 14 (oi := ⟨some 91, _, _, _, _, _⟩) (v := ?_) rfl (by kernel_rfl) (.inl ⟨by rfl, ?_⟩) hHeld ?_; rotate_left; focus (intro w hSw; (try dsimp only at hSw); go_simp; try with_reducible rfl))
          simp only [PT]
          first | (refine tk 15 (oi := ⟨some 92, _, _, _, _, _⟩) (v := undef) rfl (by kernel_rfl) (.inr ⟨by rfl, rfl⟩) hHeld ?_) | (refine' tk 15 (oi := ⟨some 92, _, _, _, _, _⟩) (v := _) rfl (by kernel_rfl) (yieldsIf_load_mid (by rfl) _ _ rfl _ _ rfl (x.v.cells) _ (fun _ h => range_block h.2) (Try.underlying28) rfl (one_size x)) hHeld ?_)
          simp only [PT]
          first | (refine tk 16 (oi := ⟨some 93, _, _, _, _, _⟩) (v := undef) rfl (by kernel_rfl) (.inr ⟨by rfl, rfl⟩) hHeld ?_) | (refine tk 16 (oi := ⟨some 93, _, _, _, _, _⟩) (v := ?_) rfl (by kernel_rfl) (.inl ⟨by rfl, ?_⟩) hHeld ?_; rotate_left; focus (intro w hSw; (try dsimp only at hSw); go_simp; try with_reducible rfl))
          simp only [PT]
          first | (refine tk 17 (oi := ⟨some 94, _, _, _, _, _⟩) (v := undef) rfl (by kernel_rfl) (.inr ⟨by rfl, rfl⟩) hHeld ?_) | (refine tk 17 (oi := ⟨some 94, _, _, _, _, _⟩) (v := ?_) rfl (by kernel_rfl) (.inl ⟨by rfl, ?_⟩) hHeld ?_; rotate_left; focus (intro w hSw; (try dsimp only at hSw); go_simp; try with_reducible rfl))
          simp only [PT]
          first | (refine tk 18 (oi := ⟨some 95, _, _, _, _, _⟩) (v := undef) rfl (by kernel_rfl) (.inr ⟨by rfl, rfl⟩) hHeld ?_) | (refine tk 18 (oi := ⟨some 95, _, _, _, _, _⟩) (v := ?_) rfl (by kernel_rfl) (.inl ⟨by rfl, ?_⟩) hHeld ?_; rotate_left; focus (intro w hSw; (try dsimp only at hSw); go_simp; try with_reducible rfl))
          simp only [PT]
          first | (refine tk 19 (oi := ⟨some 96, _, _, _, _, _⟩) (v := undef) rfl (by kernel_rfl) (.inr ⟨by rfl, rfl⟩) hHeld ?_) | (refine' tk 19 (oi := ⟨some 96, _, _, _, _, _⟩) (v := _) rfl (by kernel_rfl) (yieldsIf_load_mid (by rfl) _ _ rfl _ _ rfl (x.v.cells) _ (fun _ h => h.1) (Try.underlying28) rfl (one_size x)) hHeld ?_)
          simp only [PT]
          first | (refine tk 20 (oi := ⟨some 97, _, _, _, _, _⟩) (v := undef) rfl (by kernel_rfl) (.inr ⟨by rfl, rfl⟩) hHeld ?_) | (refine' tk 20 (oi := ⟨some 97, _, _, _, _, _⟩) (v := _) rfl (by kernel_rfl) (yields_neqF x x false (by simp) (by rfl) (.tmp 92) (.tmp 96) rfl rfl rfl) hHeld ?_)
          simp only [PT]
          first | (refine tk 21 (oi := ⟨some 98, _, _, _, _, _⟩) (v := undef) rfl (by kernel_rfl) (.inr ⟨by rfl, rfl⟩) hHeld ?_) | (refine tk 21 (oi := ⟨some 98, _, _, _, _, _⟩) (v := ?_) rfl (by kernel_rfl) (.inl ⟨by rfl, ?_⟩) hHeld ?_; rotate_left; focus (intro w hSw; (try dsimp only at hSw); go_simp; try with_reducible rfl))
          simp only [PT]
          first | (refine tk 22 (oi := ⟨some 99, _, _, _, _, _⟩) (v := undef) rfl (by kernel_rfl) (.inr ⟨by rfl, rfl⟩) hHeld ?_) | (refine tk 22 (oi := ⟨some 99, _, _, _, _, _⟩) (v := ?_) rfl (by kernel_rfl) (.inl ⟨by rfl, ?_⟩) hHeld ?_; rotate_left; focus (intro w hSw; (try dsimp only at hSw); go_simp; try with_reducible rfl))
          simp only [PT]
          first | (refine tk 23 (oi := ⟨some 100, _, _, _, _, _⟩) (v := undef) rfl (by kernel_rfl) (.inr ⟨by rfl, rfl⟩) hHeld ?_) | (refine tk 23 (oi := ⟨some 100, _, _, _, _, _⟩) (v := ?_) rfl (by kernel_rfl) (.inl ⟨by rfl, ?_⟩) hHeld ?_; rotate_left; focus (intro w hSw; (try dsimp only at hSw); go_simp; try with_reducible rfl))
          simp only [PT]
          first | (refine tk 24 (oi := ⟨some 101, _, _, _, _, _⟩) (v := undef) rfl (by kernel_rfl) (.inr ⟨by rfl, rfl⟩) hHeld ?_) | (refine tk 24 (oi := ⟨some 101, _, _, _, _, _⟩) (v := ?_) rfl (by kernel_rfl) (.inl ⟨by rfl, ?_⟩) hHeld ?_; rotate_left; focus (intro w hSw; (try dsimp only at hSw); go_simp; try with_reducible rfl))
          simp only [PT]
          first | (refine tk 25 (oi := ⟨some 102, _, _, _, _, _⟩) (v := undef) rfl (by kernel_rfl) (.inr ⟨by rfl, rfl⟩) hHeld ?_) | (refine tk 25 (oi := ⟨some 102, _, _, _, _, _⟩) (v := ?_) rfl (by kernel_rfl) (.inl ⟨by rfl, ?_⟩) hHeld ?_; rotate_left; focus (intro w hSw; (try dsimp only at hSw); go_simp; try with_reducible rfl))
          simp only [PT]
          first | (refine tk 26 (oi := ⟨some 103, _, _, _, _, _⟩) (v := undef) rfl (by kernel_rfl) (.inr ⟨by rfl, rfl⟩) hHeld ?_) | (refine tk 26 (oi := ⟨some 103, _, _, _, _, _⟩) (v := ?_) rfl (by kernel_rfl) (.inl ⟨by rfl, ?_⟩) hHeld ?_; rotate_left; focus (intro w hSw; (try dsimp only at hSw); go_simp; try with_reducible rfl))
          simp only [PT]
          first | (refine tk 27 (oi := ⟨some 104, _, _, _, _, _⟩) (v := undef) rfl (by kernel_rfl) (.inr ⟨by rfl, rfl⟩) hHeld ?_) | (refine tk 27 (oi := ⟨some 104, _, _, _, _, _⟩) (v := ?_) rfl (by kernel_rfl) (.inl ⟨by rfl, ?_⟩) hHeld ?_; rotate_left; focus (intro w hSw; (try dsimp only at hSw); go_simp; try with_reducible rfl))
          simp only [PT]
          first | (refine tk 28 (oi := ⟨some 105, _, _, _, _, _⟩) (v := undef) rfl (by kernel_rfl) (.inr ⟨by rfl, rfl⟩) hHeld ?_) | (refine tk 28 (oi := ⟨some 105, _, _, _, _, _⟩) (v := ?_) rfl (by kernel_rfl) (.inl ⟨by rfl, ?_⟩) hHeld ?_; rotate_left; focus (intro w hSw; (try dsimp only at hSw); go_simp; try with_reducible rfl))
          simp only [PT]
          first | (refine tk 29 (oi := ⟨some 106, _, _, _, _, _⟩) (v := undef) rfl (by kernel_rfl) (.inr ⟨by rfl, rfl⟩) hHeld ?_) | (refine tk 29 (oi := ⟨some 106, _, _, _, _, _⟩) (v := ?_) rfl (by kernel_rfl) (.inl ⟨by rfl, ?_⟩) hHeld ?_; rotate_left; focus (intro w hSw; (try dsimp only at hSw); go_simp; try with_reducible rfl))
          simp only [PT]
          refine wpAnyH_ready (rs := [30]) (by kernel_rfl) (by simp) ?_
          refine (AllReadyH.cons (o := ⟨some 107, _, _, _, _, _⟩) rfl (fun K hK => ?_) AllReadyH.nil)
          focus (first | (refine skip_step ?_ ?_; focus (rfl)) | (go_simp; go_must (refine (room_any nn HNN.out _).mono ?_); rintro e w5 ⟨rfl, hb__⟩; have hE__ := cU HB bup hb__; replace HB := ck HB hE__; (try replace HR := ck HR hE__); (try replace HWS := ck HWS hE__); (try replace HG13 := ck HG13 hE__); (try replace HG16 := ck HG16 hE__); clear hE__ hb__; go_wp2_with fail))
          refine hK.out _ _ ?_ (fun hHeld => ?_)
          focus (exact ⟨HXG.out _ (HB.out.trans (Below.mono bup HB.out.size)), hatB HG16 bup⟩)
          clear hK K
          try simp only [PT]
          first | (refine tk 31 (oi := ⟨some 108, _, _, _, _, _⟩) (v := undef) rfl (by kernel_rfl) (.inr ⟨by rfl, rfl⟩) hHeld ?_) | (refine tk 31 (oi := ⟨some 108, _, _, _, _, _⟩) (v := ?_) rfl (by kernel_rfl) (.inl ⟨by rfl, ?_⟩) hHeld ?_; rotate_left; focus (intro w hSw; (try dsimp only at hSw); go_simp; try with_reducible rfl))
          simp only [PT]
          first | (refine tk 32 (oi := ⟨some 109, _, _, _, _, _⟩) (v := undef) rfl (by kernel_rfl) (.inr ⟨by rfl, rfl⟩) hHeld ?_) | (refine tk 32 (oi := ⟨some 109, _, _, _, _, _⟩) (v := ?_) rfl (by kernel_rfl) (.inl ⟨by rfl, ?_⟩) hHeld ?_; rotate_left; focus (intro w hSw; (try dsimp only at hSw); go_simp; try with_reducible rfl))
          simp only [PT]
          first | (refine tk 33 (oi := ⟨some 110, _, _, _, _, _⟩) (v := undef) rfl (by kernel_rfl) (.inr ⟨by rfl, rfl⟩) hHeld ?_) | (refine tk 33 (oi := ⟨some 110, _, _, _, _, _⟩) (v := ?_) rfl (by kernel_rfl) (.inl ⟨by rfl, ?_⟩) hHeld ?_; rotate_left; focus (intro w hSw; (try dsimp only at hSw); go_simp; try with_reducible rfl))
          simp only [PT]
          first | (refine tk 34 (oi := ⟨some 111, _, _, _, _, _⟩) (v := undef) rfl (by kernel_rfl) (.inr ⟨by rfl, rfl⟩) hHeld ?_) | (refine tk 34 (oi := ⟨some 111, _, _, _, _, _⟩) (v := ?_) rfl (by kernel_rfl) (.inl ⟨by rfl, ?_⟩) hHeld ?_; rotate_left; focus (intro w hSw; (try dsimp only at hSw); go_simp; try with_reducible rfl))
          simp only [PT]
          first | (refine tk 35 (oi := ⟨some 112, _, _, _, _, _⟩) (v := undef) rfl (by kernel_rfl) (.inr ⟨by rfl, rfl⟩) hHeld ?_) | (refine tk 35 (oi := ⟨some 112, _, _, _, _, _⟩) (v := ?_) rfl (by kernel_rfl) (.inl ⟨by rfl, ?_⟩) hHeld ?_; rotate_left; focus (intro w hSw; (try dsimp only at hSw); go_simp; try with_reducible rfl))
          simp only [PT]
          refine tk 36 (oi := ⟨some 113, _, _, _, _, _⟩) (v := ?_) rfl (by kernel_rfl) (.inl ⟨by rfl, ?_⟩) hHeld ?_; rotate_left; focus (intro w hSw; (try dsimp only at hSw); go_simp; try with_reducible rfl)
          simp only [PT]
          refine tk 37 (oi := ⟨some 114, _, _, _, _, _⟩) (v := ?_) rfl (by kernel_rfl) (.inl ⟨by rfl, ?_⟩) hHeld ?_; rotate_left; focus (intro w hSw; (try dsimp only at hSw); go_simp; try with_reducible rfl)
          simp only [PT]
          first | (refine tk 38 (oi := ⟨some 115, _, _, _, _, _⟩) (v := undef) rfl (by kernel_rfl) (.inr ⟨by rfl, rfl⟩) hHeld ?_) | (refine tk 38 (oi := ⟨some 115, _, _, _, _, _⟩) (v := ?_) rfl (by kernel_rfl) (.inl ⟨by rfl, ?_⟩) hHeld ?_; rotate_left; focus (intro w hSw; (try dsimp only at hSw); go_simp; try with_reducible rfl))
          simp only [PT]
          first | (refine tk 39 (oi := ⟨some 116, _, _, _, _, _⟩) (v := undef) rfl (by kernel_rfl) (.inr ⟨by rfl, rfl⟩) hHeld ?_) | (refine tk 39 (oi := ⟨some 116, _, _, _, _, _⟩) (v := ?_) rfl (by kernel_rfl) (.inl ⟨by rfl, ?_⟩) hHeld ?_; rotate_left; focus (intro w hSw; (try dsimp only at hSw); go_simp; try with_reducible rfl))
          simp only [PT]
          first | (refine tk 40 (oi := ⟨some 117, _, _, _, _, _⟩) (v := undef) rfl (by kernel_rfl) (.inr ⟨by rfl, rfl⟩) hHeld ?_) | (refine tk 40 (oi := ⟨some 117, _, _, _, _, _⟩) (v := ?_) rfl (by kernel_rfl) (.inl ⟨by rfl, ?_⟩) hHeld ?_; rotate_left; focus (intro w hSw; (try dsimp only at hSw); go_simp; try with_reducible rfl))
          simp only [PT]
          first | (refine tk 41 (oi := ⟨some 118, _, _, _, _, _⟩) (v := undef) rfl (by kernel_rfl) (.inr ⟨by rfl, rfl⟩) hHeld ?_) | (refine tk 41 (oi := ⟨some 118, _, _, _, _, _⟩) (v := ?_) rfl (by kernel_rfl) (.inl ⟨by rfl, ?_⟩) hHeld ?_; rotate_left; focus (intro w hSw; (try dsimp only at hSw); go_simp; try with_reducible rfl))
          simp only [PT]
          first | (refine tk 42 (oi := ⟨some 119, _, _, _, _, _⟩) (v := undef) rfl (by kernel_rfl) (.inr ⟨by rfl, rfl⟩) hHeld ?_) | (refine tk 42 (oi := ⟨some 119, _, _, _, _, _⟩) (v := ?_) rfl (by kernel_rfl) (.inl ⟨by rfl, ?_⟩) hHeld ?_; rotate_left; focus (intro w hSw; (try dsimp only at hSw); go_simp; try with_reducible rfl))
          simp only [PT]
          refine tk 43 (oi := ⟨some 120, _, _, _, _, _⟩) (v := ?_) rfl (by kernel_rfl) (.inl ⟨by rfl, ?_⟩) hHeld ?_; rotate_left; focus (intro w hSw; (try dsimp only at hSw); go_simp; try with_reducible rfl)
          simp only [PT]
          refine tk 44 (oi := ⟨some 121, _, _, _, _, _⟩) (v := ?_) rfl (by kernel_rfl) (.inl ⟨by rfl, ?_⟩) hHeld ?_; rotate_left; focus (intro w hSw; (try dsimp only at hSw); go_simp; try with_reducible rfl)
          simp only [PT]
          first | (refine tk 45 (oi := ⟨some 122, _, _, _, _, _⟩) (v := undef) rfl (by kernel_rfl) (.inr ⟨by rfl, rfl⟩) hHeld ?_) | (refine tk 45 (oi := ⟨some 122, _, _, _, _, _⟩) (v := ?_) rfl (by kernel_rfl) (.inl ⟨by rfl, ?_⟩) hHeld ?_; rotate_left; focus (intro w hSw; (try dsimp only at hSw); go_simp; try with_reducible rfl))
          simp only [PT]
          first | (refine tk 47 (oi := ⟨some 124, _, _, _, _, _⟩) (v := undef) rfl (by kernel_rfl) (.inr ⟨by rfl, rfl⟩) hHeld ?_) | (refine tk 47 (oi := ⟨some 124, _, _, _, _, _⟩) (v := ?_) rfl (by kernel_rfl) (.inl ⟨by rfl, ?_⟩) hHeld ?_; rotate_left; focus (intro w hSw; (try dsimp only at hSw); go_simp; try with_reducible rfl))
          simp only [PT]
          refine wpAnyH_ready (rs := [46]) (by kernel_rfl) (by simp) ?_
          refine (AllReadyH.cons (o := ⟨some 123, _, _, _, _, _⟩) rfl (fun K hK => ?_) AllReadyH.nil)
          focus (first | (refine skip_step ?_ ?_; focus (rfl)) | (go_simp; go_must (refine (len_rep p q kb _ _ _ (HR.out.keep bup)).mono ?_); rintro e w5 ⟨rfl, hb__⟩; have hE__ := cU HB bup hb__; replace HB := ck HB hE__; (try replace HR := ck HR hE__); (try replace HWS := ck HWS hE__); (try replace HG13 := ck HG13 hE__); (try replace HG16 := ck HG16 hE__); clear hE__ hb__; go_wp2_with fail))
          refine hK.out _ _ ?_ (fun hHeld => ?_)
          focus (exact ⟨HXG.out _ (HB.out.trans (Below.mono bup HB.out.size)), hatB HG16 bup⟩)
          clear hK K
          try simp only [PT]
          refine wpAnyH_ready (rs := [48]) (by kernel_rfl) (by simp) ?_
          refine (AllReadyH.cons (o := ⟨some 125, _, _, _, _, _⟩) rfl (fun K hK => ?_) AllReadyH.nil)
          focus (first | (refine skip_step ?_ ?_; focus (rfl)) | (go_simp; go_must (refine (room_any nn HNN.out _).mono ?_); rintro e w5 ⟨rfl, hb__⟩; have hE__ := cU HB bup hb__; replace HB := ck HB hE__; (try replace HR := ck HR hE__); (try replace HWS := ck HWS hE__); (try replace HG13 := ck HG13 hE__); (try replace HG16 := ck HG16 hE__); clear hE__ hb__; go_wp2_with fail))
          refine hK.out _ _ ?_ (fun hHeld => ?_)
          focus (exact ⟨HXG.out _ (HB.out.trans (Below.mono bup HB.out.size)), hatB HG16 bup⟩)
          clear hK K
          try simp only [PT]
          first | (refine tk 49 (oi := ⟨some 126, _, _, _, _, _⟩) (v := undef) rfl (by kernel_rfl) (.inr ⟨by rfl, rfl⟩) hHeld ?_) | (refine' tk 49 (oi := ⟨some 126, _, _, _, _, _⟩) (v := (.bool false)) rfl (by kernel_rfl) (.inl ⟨by rfl, ?_⟩) hHeld ?_; focus (intro w hSw; (try dsimp only at hSw); go_simp; first | done | rfl | (simp [*]; done) | (simp [*]; omega)))
          simp only [PT]
          refine tk 50 (oi := ⟨some 127, _, _, _, _, _⟩) (v := ?_) rfl (by kernel_rfl) (.inl ⟨by rfl, ?_⟩) hHeld ?_; rotate_left; focus (intro w hSw; (try dsimp only at hSw); go_simp; try with_reducible rfl)
          simp only [PT]
          refine wpAnyH_done (by kernel_rfl) ?_ _
          go_wp2_with fail
          go_loopw [18] (fun i wr => ∃ m : Nat, m ≤ ls.length ∧ i = .int .i64 (m : Int) ∧ Hid (Below w.heap.size w wr) ∧ Hid (Rep wr p q kb (roomN nn) S') ∧ Hid (Fls wr adw ls.length cw ls) ∧ Hid (wr.heap[g13]? = some (.cells gone.v.cells.toArray 28 (0, 0)))) (fun i _ => ls.length - (intOf i).toNat)
          case atStart => exact ⟨0, by omega, rfl, Lib.hid (HB.out.trans (Below.mono bup HB.out.size)), Lib.hid (HR.out.keep bup), Lib.hid (HWS.out.below bup), Lib.hid (hatB HG13 bup)⟩
          case round =>
            have HR1 := HR
            clear HB HR HWS HG13 HG16
            obtain ⟨m, hm, rfl, HB, HR, HWS, HG13⟩ := hrel
            by_cases hend2 : m = ls.length
            · subst m
              go_wp2_with fail
              go_roundw
              case rel => exact ⟨k + 1, S', by omega, by go_num, HB, HR⟩
              case measure => first | (simp [intOf]; done) | (simp [intOf]; omega)
            have hlt2 : m < ls.length := by omega
            have hlm := HWS.out.le
            obtain ⟨bw, offw, rfl, hbw, hatw⟩ := HWS.out.at (by omega)
            clear hatw
            obtain ⟨v, hv⟩ : ∃ v, v = ls[m]'hlt2 := ⟨_, rfl⟩
            have HVR := Lib.hid (show _ from hv ▸ HWS.out.get m hlt2)
            have hvS : v ∈ flowsS S := by rw [hv]; exact HPM.out.mem_iff.1 (List.getElem_mem _)
            have HRV := Lib.hid (flows_right HR0.out.good hvS)
            have hcase := oldest_case HR0.out.good HR1.out.good HPW.out hvS
            clear hv hvS HR1
            rcases hcase with ⟨_, hlk⟩ | ⟨_, _, hke, hne, hlk⟩ | ⟨h, _⟩ | ⟨h, _⟩
            · as_aux_lemma =>
              have HLK := Lib.hid hlk
              clear hlk
              go_wp2_with (first
                | ((with_reducible refine sl 140 ?_); go_must (refine wpL_load rfl 26 (.tmp 139) rfl bw (offw + m * 41) rfl v.v.key.cells _ (range_key HVR.out) Try.underlying26 rfl (tup_len v) ?_); simp only [PT])
                | (go_at_call 20; (with_reducible show Calls _ _ #[_, .agg v.v.key.cells.toArray] _ _); go_must (refine (get_yes p q kb _ _ v v HLK.out _ (HR.out.keep bup)).mono ?_); rintro e w5 ⟨rfl, hb__⟩; have hE__ := cU HB bup hb__; replace HB := ck HB hE__; (try replace HR := ck HR hE__); (try replace HWS := ck HWS hE__); (try replace HG13 := ck HG13 hE__); (try replace HVR := ck HVR hE__); clear hE__ hb__)
                | ((with_reducible refine sl 19 ?_); go_must (refine wpL_newG rfl rfl 28 rfl (.tmp 19) (.tmp 142) rfl (v.v.cells).toArray zeroF.cells.toArray (new_info (by first | exact Flo.length zeroF_ok | exact FloW.length _ | exact LEN_19)) (new_size (by first | exact Flo.length zeroF_ok | exact FloW.length _ | exact LEN_19)) (flo_one _) (fun _ => rfl) (fun _ => rfl) ?_); intro wn19 g19 le_19 hg__ hb__; have hE__ := cU HB bup hb__; replace HB := ck HB hE__; (try replace HR := ck HR hE__); (try replace HWS := ck HWS hE__); (try replace HG13 := ck HG13 hE__); (try replace HVR := ck HVR hE__); clear hE__ hb__; have HG19 := Lib.hid hg__; clear hg__; simp only [PT]))
              refine wp_region_held_drew (S := fun u__ => u__.rangeAt bw (offw + m * 41) v.v.cells ∧ u__.heap[g13]? = some (.cells gone.v.cells.toArray 28 (0, 0)) ∧ u__.heap[g19]? = some (.cells v.v.cells.toArray 28 (0, 0)) ∧ u__.rangeAt b (off + k * 41) x.v.cells) (by kernel_rfl) ?_ (fun hHeld => ?_)
              focus (exact ⟨range_keep HVR.out bup, hatB HG13 bup, hatB HG19 bup, HXG.out _ (HB.out.trans (Below.mono bup HB.out.size))⟩)
              refine tk 0 (oi := ⟨some 144, _, _, _, _, _⟩) (v := ?_) rfl (by kernel_rfl) (.inl ⟨by rfl, ?_⟩) hHeld ?_; rotate_left; focus (intro w hSw; (try dsimp only at hSw); go_simp; try with_reducible rfl)
              simp only [PT]
              refine tk 1 (oi := ⟨some 145, _, _, _, _, _⟩) (v := ?_) rfl (by kernel_rfl) (.inl ⟨by rfl, ?_⟩) hHeld ?_; rotate_left; focus (intro w hSw; (try dsimp only at hSw); go_simp; try with_reducible rfl)
              simp only [PT]
              first | (refine tk 2 (oi := ⟨some 146, _, _, _, _, _⟩) (v := undef) rfl (by kernel_rfl) (.inr ⟨by rfl, rfl⟩) hHeld ?_) | (refine tk 2 (oi := ⟨some 146, _, _, _, _, _⟩) (v := ?_) rfl (by kernel_rfl) (.inl ⟨by rfl, ?_⟩) hHeld ?_; rotate_left; focus (intro w hSw; (try dsimp only at hSw); go_simp; try with_reducible rfl))
              simp only [PT]
              first | (refine tk 3 (oi := ⟨some 147, _, _, _, _, _⟩) (v := undef) rfl (by kernel_rfl) (.inr ⟨by rfl, rfl⟩) hHeld ?_) | (refine tk 3 (oi := ⟨some 147, _, _, _, _, _⟩) (v := ?_) rfl (by kernel_rfl) (.inl ⟨by rfl, ?_⟩) hHeld ?_; rotate_left; focus (intro w hSw; (try dsimp only at hSw); go_simp; try with_reducible rfl))
              simp only [PT]
              first | (refine tk 4 (oi := ⟨some 148, _, _, _, _, _⟩) (v := undef) rfl (by kernel_rfl) (.inr ⟨by rfl, rfl⟩) hHeld ?_) | (refine tk 4 (oi := ⟨some 148, _, _, _, _, _⟩) (v := ?_) rfl (by kernel_rfl) (.inl ⟨by rfl, ?_⟩) hHeld ?_; rotate_left; focus (intro w hSw; (try dsimp only at hSw); go_simp; try with_reducible rfl))
              simp only [PT]
              first | (refine tk 5 (oi := ⟨some 149, _, _, _, _, _⟩) (v := undef) rfl (by kernel_rfl) (.inr ⟨by rfl, rfl⟩) hHeld ?_) | (refine tk 5 (oi := ⟨some 149, _, _, _, _, _⟩) (v := ?_) rfl (by kernel_rfl) (.inl ⟨by rfl, ?_⟩) hHeld ?_; rotate_left; focus (intro w hSw; (try dsimp only at hSw); go_simp; try with_reducible rfl))
              simp only [PT]
              first | (refine tk 6 (oi := ⟨some 150, _, _, _, _, _⟩) (v := undef) rfl (by kernel_rfl) (.inr ⟨by rfl, rfl⟩) hHeld ?_) | (refine tk 6 (oi := ⟨some 150, _, _, _, _, _⟩) (v := ?_) rfl (by kernel_rfl) (.inl ⟨by rfl, ?_⟩) hHeld ?_; rotate_left; focus (intro w hSw; (try dsimp only at hSw); go_simp; try with_reducible rfl))
              simp only [PT]
              first | (refine tk 7 (oi := ⟨some 151, _, _, _, _, _⟩) (v := undef) rfl (by kernel_rfl) (.inr ⟨by rfl, rfl⟩) hHeld ?_) | (refine tk 7 (oi := ⟨some 151, _, _, _, _, _⟩) (v := ?_) rfl (by kernel_rfl) (.inl ⟨by rfl, ?_⟩) hHeld ?_; rotate_left; focus (intro w hSw; (try dsimp only at hSw); go_simp; try with_reducible rfl))
              simp only [PT]
              first | (refine tk 8 (oi := ⟨some 152, _, _, _, _, _⟩) (v := undef) rfl (by kernel_rfl) (.inr ⟨by rfl, rfl⟩) hHeld ?_) | (refine tk 8 (oi := ⟨some 152, _, _, _, _, _⟩) (v := ?_) rfl (by kernel_rfl) (.inl ⟨by rfl, ?_⟩) hHeld ?_; rotate_left; focus (intro w hSw; (try dsimp only at hSw); go_simp; try with_reducible rfl))
              simp only [PT]
              first | (refine tk 9 (oi := ⟨some 153, _, _, _, _, _⟩) (v := undef) rfl (by kernel_rfl) (.inr ⟨by rfl, rfl⟩) hHeld ?_) | (refine tk 9 (oi := ⟨some 153, _, _, _, _, _⟩) (v := ?_) rfl (by kernel_rfl) (.inl ⟨by rfl, ?_⟩) hHeld ?_; rotate_left; focus (intro w hSw; (try dsimp only at hSw); go_simp; try with_reducible rfl))
              simp only [PT]
              refine tk 10 (oi := ⟨some 154, _, _, _, _, _⟩) (v := ?_) rfl (by kernel_rfl) (.inl ⟨by rfl, ?_⟩) hHeld ?_; rotate_left; focus (intro w hSw; (try dsimp only at hSw); go_simp; try with_reducible rfl)
              simp only [PT]
              refine tk 11 (oi := ⟨some 21, _, _, _, _, _⟩) (v := ?_) rfl (by kernel_rfl) (.inl ⟨by rfl, ?_⟩) hHeld ?_; rotate_left; focus (intro w hSw; (try dsimp only at hSw); go_simp; try with_reducible rfl)
              simp only [PT]
              refine wpAnyH_done (by kernel_rfl) ?_ _
              go_wp2_with fail
              refine wp_region_held_drew (S := fun u__ => u__.rangeAt bw (offw + m * 41) v.v.cells ∧ u__.heap[g13]? = some (.cells gone.v.cells.toArray 28 (0, 0)) ∧ u__.heap[g19]? = some (.cells v.v.cells.toArray 28 (0, 0)) ∧ u__.rangeAt b (off + k * 41) x.v.cells) (by kernel_rfl) ?_ (fun hHeld => ?_)
              focus (exact ⟨range_keep HVR.out bup, hatB HG13 bup, hatB HG19 bup, HXG.out _ (HB.out.trans (Below.mono bup HB.out.size))⟩)
              refine tk 0 (oi := ⟨some 155, _, _, _, _, _⟩) (v := ?_) rfl (by kernel_rfl) (.inl ⟨by rfl, ?_⟩) hHeld ?_; rotate_left; focus (intro w hSw; (try dsimp only at hSw); go_simp; try with_reducible rfl)
              simp only [PT]
              refine tk 1 (oi := ⟨some 156, _, _, _, _, _⟩) (v := ?_) rfl (by kernel_rfl) (.inl ⟨by rfl, ?_⟩) hHeld ?_; rotate_left; focus (intro w hSw; (try dsimp only at hSw); go_simp; try with_reducible rfl)
              simp only [PT]
              refine tk 2 (oi := ⟨some 157, _, _, _, _, _⟩) (v := ?_) rfl (by kernel_rfl) (.inl ⟨by rfl, ?_⟩) hHeld ?_; rotate_left; focus (intro w hSw; (try dsimp only at hSw); go_simp; try with_reducible rfl)
              simp only [PT]
              refine tk 3 (oi := ⟨some 158, _, _, _, _, _⟩) (v := ?_) rfl (by kernel_rfl) (.inl ⟨by rfl, ?_⟩) hHeld ?_; rotate_left; focus (intro w hSw; (try dsimp only at hSw); go_simp; try with_reducible rfl)
              simp only [PT]
              first | (refine tk 4 (oi := ⟨some 159, _, _, _, _, _⟩) (v := undef) rfl (by kernel_rfl) (.inr ⟨by rfl, rfl⟩) hHeld ?_) | (refine tk 4 (oi := ⟨some 159, _, _, _, _, _⟩) (v := ?_) rfl (by kernel_rfl) (.inl ⟨by rfl, ?_⟩) hHeld ?_; rotate_left; focus (intro w hSw; (try dsimp only at hSw); go_simp; try with_reducible rfl))
              simp only [PT]
              first | (refine tk 5 (oi := ⟨some 160, _, _, _, _, _⟩) (v := undef) rfl (by kernel_rfl) (.inr ⟨by rfl, rfl⟩) hHeld ?_) | (refine tk 5 (oi := ⟨some 160, _, _, _, _, _⟩) (v := ?_) rfl (by kernel_rfl) (.inl ⟨by rfl, ?_⟩) hHeld ?_; rotate_left; focus (intro w hSw; (try dsimp only at hSw); go_simp; try with_reducible rfl))
              simp only [PT]
              first | (refine tk 6 (oi := ⟨some 161, _, _, _, _, _⟩) (v := undef) rfl (by kernel_rfl) (.inr ⟨by rfl, rfl⟩) hHeld ?_) | (refine tk 6 (oi := ⟨some 161, _, _, _, _, _⟩) (v := ?_) rfl (by kernel_rfl) (.inl ⟨by rfl, ?_⟩) hHeld ?_; rotate_left; focus (intro w hSw; (try dsimp only at hSw); go_simp; try with_reducible rfl))
              simp only [PT]
              first | (refine tk 7 (oi := ⟨some 162, _, _, _, _, _⟩) (v := undef) rfl (by kernel_rfl) (.inr ⟨by rfl, rfl⟩) hHeld ?_) | (refine tk 7 (oi := ⟨some 162, _, _, _, _, _⟩) (v := ?_) rfl (by kernel_rfl) (.inl ⟨by rfl, ?_⟩) hHeld ?_; rotate_left; focus (intro w hSw; (try dsimp only at hSw); go_simp; try with_reducible rfl))
              simp only [PT]
              first | (refine tk 8 (oi := ⟨some 163, _, _, _, _, _⟩) (v := undef) rfl (by kernel_rfl) (.inr ⟨by rfl, rfl⟩) hHeld ?_) | (refine tk 8 (oi := ⟨some 163, _, _, _, _, _⟩) (v := ?_) rfl (by kernel_rfl) (.inl ⟨by rfl, ?_⟩) hHeld ?_; rotate_left; focus (intro w hSw; (try dsimp only at hSw); go_simp; try with_reducible rfl))
              simp only [PT]
              first | (refine tk 9 (oi := ⟨some 164, _, _, _, _, _⟩) (v := undef) rfl (by kernel_rfl) (.inr ⟨by rfl, rfl⟩) hHeld ?_) | (refine tk 9 (oi := ⟨some 164, _, _, _, _, _⟩) (v := ?_) rfl (by kernel_rfl) (.inl ⟨by rfl, ?_⟩) hHeld ?_; rotate_left; focus (intro w hSw; (try dsimp only at hSw); go_simp; try with_reducible rfl))
              simp only [PT]
              first | (refine tk 10 (oi := ⟨some 165, _, _, _, _, _⟩) (v := undef) rfl (by kernel_rfl) (.inr ⟨by rfl, rfl⟩) hHeld ?_) | (refine tk 10 (oi := ⟨some 165, _, _, _, _, _⟩) (v := ?_) rfl (by kernel_rfl) (.inl ⟨by rfl, ?_⟩) hHeld ?_; rotate_left; focus (intro w hSw; (try dsimp only at hSw); go_simp; try with_reducible rfl))
              simp only [PT]
              refine wpAnyH_ready (rs := [11]) (by kernel_rfl) (by simp) ?_
              refine (AllReadyH.cons (o := ⟨some 166, _, _, _, _, _⟩) rfl (fun K hK => ?_) AllReadyH.nil)
              (go_simp)
              refine hK.out _ _ ?_ (fun hHeld => ?_)
              focus (exact ⟨range_keep HVR.out bup, hatB HG13 bup, hatB HG19 bup, HXG.out _ (HB.out.trans (Below.mono bup HB.out.size))⟩)
              clear hK K
              try simp only [PT]
              first | (refine tk 12 (oi := ⟨some 167, _, _, _, _, _⟩) (v := undef) rfl (by kernel_rfl) (.inr ⟨by rfl, rfl⟩) hHeld ?_) | (refine tk 12 (oi := ⟨some 167, _, _, _, _, _⟩) (v := ?_) rfl (by kernel_rfl) (.inl ⟨by rfl, ?_⟩) hHeld ?_; rotate_left; focus (intro w hSw; (try dsimp only at hSw); go_simp; try with_reducible rfl))
              simp only [PT]
              refine tk 13 (oi := ⟨some 168, _, _, _, _, _⟩) (v := ?_) rfl (by kernel_rfl) (.inl ⟨by rfl, ?_⟩) hHeld ?_; rotate_left; focus (intro w hSw; (try dsimp only at hSw); go_simp; try with_reducible rfl)
              simp only [PT]
              refine tk 14 (oi := ⟨some 169, _, _, _, _, _⟩) (v := ?_) rfl (by kernel_rfl) (.inl ⟨by rfl, ?_⟩) hHeld ?_; rotate_left; focus (intro w hSw; (try dsimp only at hSw); go_simp; try with_reducible rfl)
              simp only [PT]
              first | (refine tk 15 (oi := ⟨some 170, _, _, _, _, _⟩) (v := undef) rfl (by kernel_rfl) (.inr ⟨by rfl, rfl⟩) hHeld ?_) | (refine tk 15 (oi := ⟨some 170, _, _, _, _, _⟩) (v := ?_) rfl (by kernel_rfl) (.inl ⟨by rfl, ?_⟩) hHeld ?_; rotate_left; focus (intro w hSw; (try dsimp only at hSw); go_simp; try with_reducible rfl))
              simp only [PT]
              first | (refine tk 16 (oi := ⟨some 171, _, _, _, _, _⟩) (v := undef) rfl (by kernel_rfl) (.inr ⟨by rfl, rfl⟩) hHeld ?_) | (refine tk 16 (oi := ⟨some 171, _, _, _, _, _⟩) (v := ?_) rfl (by kernel_rfl) (.inl ⟨by rfl, ?_⟩) hHeld ?_; rotate_left; focus (intro w hSw; (try dsimp only at hSw); go_simp; try with_reducible rfl))
              simp only [PT]
              first | (refine tk 17 (oi := ⟨some 172, _, _, _, _, _⟩) (v := undef) rfl (by kernel_rfl) (.inr ⟨by rfl, rfl⟩) hHeld ?_) | (refine' tk 17 (oi := ⟨some 172, _, _, _, _, _⟩) (v := _) rfl (by kernel_rfl) (yieldsIf_load_mid (by rfl) _ _ rfl _ _ rfl (v.v.cells) _ (fun _ h => range_block h.2.2.1) (Try.underlying28) rfl (one_size v)) hHeld ?_)
              simp only [PT]
              first | (refine tk 18 (oi := ⟨some 173, _, _, _, _, _⟩) (v := undef) rfl (by kernel_rfl) (.inr ⟨by rfl, rfl⟩) hHeld ?_) | (refine tk 18 (oi := ⟨some 173, _, _, _, _, _⟩) (v := ?_) rfl (by kernel_rfl) (.inl ⟨by rfl, ?_⟩) hHeld ?_; rotate_left; focus (intro w hSw; (try dsimp only at hSw); go_simp; try with_reducible rfl))
              simp only [PT]
              first | (refine tk 19 (oi := ⟨some 174, _, _, _, _, _⟩) (v := undef) rfl (by kernel_rfl) (.inr ⟨by rfl, rfl⟩) hHeld ?_) | (refine tk 19 (oi := ⟨some 174, _, _, _, _, _⟩) (v := ?_) rfl (by kernel_rfl) (.inl ⟨by rfl, ?_⟩) hHeld ?_; rotate_left; focus (intro w hSw; (try dsimp only at hSw); go_simp; try with_reducible rfl))
              simp only [PT]
              first | (refine tk 20 (oi := ⟨some 175, _, _, _, _, _⟩) (v := undef) rfl (by kernel_rfl) (.inr ⟨by rfl, rfl⟩) hHeld ?_) | (refine tk 20 (oi := ⟨some 175, _, _, _, _, _⟩) (v := ?_) rfl (by kernel_rfl) (.inl ⟨by rfl, ?_⟩) hHeld ?_; rotate_left; focus (intro w hSw; (try dsimp only at hSw); go_simp; try with_reducible rfl))
              simp only [PT]
              first | (refine tk 21 (oi := ⟨some 176, _, _, _, _, _⟩) (v := undef) rfl (by kernel_rfl) (.inr ⟨by rfl, rfl⟩) hHeld ?_) | (refine' tk 21 (oi := ⟨some 176, _, _, _, _, _⟩) (v := _) rfl (by kernel_rfl) (yieldsIf_load_mid (by rfl) _ _ rfl _ _ rfl (v.v.cells) _ (fun _ h => h.1) (Try.underlying28) rfl (one_size v)) hHeld ?_)
              simp only [PT]
              first | (refine tk 22 (oi := ⟨some 177, _, _, _, _, _⟩) (v := undef) rfl (by kernel_rfl) (.inr ⟨by rfl, rfl⟩) hHeld ?_) | (refine' tk 22 (oi := ⟨some 177, _, _, _, _, _⟩) (v := _) rfl (by kernel_rfl) (yields_neqF v v false (by simp) (by rfl) (.tmp 172) (.tmp 176) rfl rfl rfl) hHeld ?_)
              simp only [PT]
              first | (refine tk 23 (oi := ⟨some 178, _, _, _, _, _⟩) (v := undef) rfl (by kernel_rfl) (.inr ⟨by rfl, rfl⟩) hHeld ?_) | (refine tk 23 (oi := ⟨some 178, _, _, _, _, _⟩) (v := ?_) rfl (by kernel_rfl) (.inl ⟨by rfl, ?_⟩) hHeld ?_; rotate_left; focus (intro w hSw; (try dsimp only at hSw); go_simp; try with_reducible rfl))
              simp only [PT]
              first | (refine tk 24 (oi := ⟨some 179, _, _, _, _, _⟩) (v := undef) rfl (by kernel_rfl) (.inr ⟨by rfl, rfl⟩) hHeld ?_) | (refine tk 24 (oi := ⟨some 179, _, _, _, _, _⟩) (v := ?_) rfl (by kernel_rfl) (.inl ⟨by rfl, ?_⟩) hHeld ?_; rotate_left; focus (intro w hSw; (try dsimp only at hSw); go_simp; try with_reducible rfl))
              simp only [PT]
              first | (refine tk 25 (oi := ⟨some 180, _, _, _, _, _⟩) (v := undef) rfl (by kernel_rfl) (.inr ⟨by rfl, rfl⟩) hHeld ?_) | (refine tk 25 (oi := ⟨some 180, _, _, _, _, _⟩) (v := ?_) rfl (by kernel_rfl) (.inl ⟨by rfl, ?_⟩) hHeld ?_; rotate_left; focus (intro w hSw; (try dsimp only at hSw); go_simp; try with_reducible rfl))
              simp only [PT]
              first | (refine tk 26 (oi := ⟨some 181, _, _, _, _, _⟩) (v := undef) rfl (by kernel_rfl) (.inr ⟨by rfl, rfl⟩) hHeld ?_) | (refine tk 26 (oi := ⟨some 181, _, _, _, _, _⟩) (v := ?_) rfl (by kernel_rfl) (.inl ⟨by rfl, ?_⟩) hHeld ?_; rotate_left; focus (intro w hSw; (try dsimp only at hSw); go_simp; try with_reducible rfl))
              simp only [PT]
              first | (refine tk 27 (oi := ⟨some 182, _, _, _, _, _⟩) (v := undef) rfl (by kernel_rfl) (.inr ⟨by rfl, rfl⟩) hHeld ?_) | (refine tk 27 (oi := ⟨some 182, _, _, _, _, _⟩) (v := ?_) rfl (by kernel_rfl) (.inl ⟨by rfl, ?_⟩) hHeld ?_; rotate_left; focus (intro w hSw; (try dsimp only at hSw); go_simp; try with_reducible rfl))
              simp only [PT]
              first | (refine tk 28 (oi := ⟨some 183, _, _, _, _, _⟩) (v := undef) rfl (by kernel_rfl) (.inr ⟨by rfl, rfl⟩) hHeld ?_) | (refine tk 28 (oi := ⟨some 183, _, _, _, _, _⟩) (v := ?_) rfl (by kernel_rfl) (.inl ⟨by rfl, ?_⟩) hHeld ?_; rotate_left; focus (intro w hSw; (try dsimp only at hSw); go_simp; try with_reducible rfl))
              simp only [PT]
              first | (refine tk 29 (oi := ⟨some 184, _, _, _, _, _⟩) (v := undef) rfl (by kernel_rfl) (.inr ⟨by rfl, rfl⟩) hHeld ?_) | (refine tk 29 (oi := ⟨some 184, _, _, _, _, _⟩) (v := ?_) rfl (by kernel_rfl) (.inl ⟨by rfl, ?_⟩) hHeld ?_; rotate_left; focus (intro w hSw; (try dsimp only at hSw); go_simp; try with_reducible rfl))
              simp only [PT]
              first | (refine tk 30 (oi := ⟨some 185, _, _, _, _, _⟩) (v := undef) rfl (by kernel_rfl) (.inr ⟨by rfl, rfl⟩) hHeld ?_) | (refine tk 30 (oi := ⟨some 185, _, _, _, _, _⟩) (v := ?_) rfl (by kernel_rfl) (.inl ⟨by rfl, ?_⟩) hHeld ?_; rotate_left; focus (intro w hSw; (try dsimp only at hSw); go_simp; try with_reducible rfl))
              simp only [PT]
              first | (refine tk 31 (oi := ⟨some 186, _, _, _, _, _⟩) (v := undef) rfl (by kernel_rfl) (.inr ⟨by rfl, rfl⟩) hHeld ?_) | (refine tk 31 (oi := ⟨some 186, _, _, _, _, _⟩) (v := ?_) rfl (by kernel_rfl) (.inl ⟨by rfl, ?_⟩) hHeld ?_; rotate_left; focus (intro w hSw; (try dsimp only at hSw); go_simp; try with_reducible rfl))
              simp only [PT]
              first | (refine tk 32 (oi := ⟨some 187, _, _, _, _, _⟩) (v := undef) rfl (by kernel_rfl) (.inr ⟨by rfl, rfl⟩) hHeld ?_) | (refine tk 32 (oi := ⟨some 187, _, _, _, _, _⟩) (v := ?_) rfl (by kernel_rfl) (.inl ⟨by rfl, ?_⟩) hHeld ?_; rotate_left; focus (intro w hSw; (try dsimp only at hSw); go_simp; try with_reducible rfl))
              simp only [PT]
              first | (refine tk 33 (oi := ⟨some 188, _, _, _, _, _⟩) (v := undef) rfl (by kernel_rfl) (.inr ⟨by rfl, rfl⟩) hHeld ?_) | (refine tk 33 (oi := ⟨some 188, _, _, _, _, _⟩) (v := ?_) rfl (by kernel_rfl) (.inl ⟨by rfl, ?_⟩) hHeld ?_; rotate_left; focus (intro w hSw; (try dsimp only at hSw); go_simp; try with_reducible rfl))
              simp only [PT]
              first | (refine tk 34 (oi := ⟨some 189, _, _, _, _, _⟩) (v := undef) rfl (by kernel_rfl) (.inr ⟨by rfl, rfl⟩) hHeld ?_) | (refine tk 34 (oi := ⟨some 189, _, _, _, _, _⟩) (v := ?_) rfl (by kernel_rfl) (.inl ⟨by rfl, ?_⟩) hHeld ?_; rotate_left; focus (intro w hSw; (try dsimp only at hSw); go_simp; try with_reducible rfl))
              simp only [PT]
              first | (refine tk 35 (oi := ⟨some 190, _, _, _, _, _⟩) (v := undef) rfl (by kernel_rfl) (.inr ⟨by rfl, rfl⟩) hHeld ?_) | (refine tk 35 (oi := ⟨some 190, _, _, _, _, _⟩) (v := ?_) rfl (by kernel_rfl) (.inl ⟨by rfl, ?_⟩) hHeld ?_; rotate_left; focus (intro w hSw; (try dsimp only at hSw); go_simp; try with_reducible rfl))
              simp only [PT]
              first | (refine tk 36 (oi := ⟨some 191, _, _, _, _, _⟩) (v := undef) rfl (by kernel_rfl) (.inr ⟨by rfl, rfl⟩) hHeld ?_) | (refine tk 36 (oi := ⟨some 191, _, _, _, _, _⟩) (v := ?_) rfl (by kernel_rfl) (.inl ⟨by rfl, ?_⟩) hHeld ?_; rotate_left; focus (intro w hSw; (try dsimp only at hSw); go_simp; try with_reducible rfl))
              simp only [PT]
              first | (refine tk 37 (oi := ⟨some 192, _, _, _, _, _⟩) (v := undef) rfl (by kernel_rfl) (.inr ⟨by rfl, rfl⟩) hHeld ?_) | (refine tk 37 (oi := ⟨some 192, _, _, _, _, _⟩) (v := ?_) rfl (by kernel_rfl) (.inl ⟨by rfl, ?_⟩) hHeld ?_; rotate_left; focus (intro w hSw; (try dsimp only at hSw); go_simp; try with_reducible rfl))
              simp only [PT]
              first | (refine tk 38 (oi := ⟨some 193, _, _, _, _, _⟩) (v := undef) rfl (by kernel_rfl) (.inr ⟨by rfl, rfl⟩) hHeld ?_) | (refine tk 38 (oi := ⟨some 193, _, _, _, _, _⟩) (v := ?_) rfl (by kernel_rfl) (.inl ⟨by rfl, ?_⟩) hHeld ?_; rotate_left; focus (intro w hSw; (try dsimp only at hSw); go_simp; try with_reducible rfl))
              simp only [PT]
              first | (refine tk 39 (oi := ⟨some 194, _, _, _, _, _⟩) (v := undef) rfl (by kernel_rfl) (.inr ⟨by rfl, rfl⟩) hHeld ?_) | (refine tk 39 (oi := ⟨some 194, _, _, _, _, _⟩) (v := ?_) rfl (by kernel_rfl) (.inl ⟨by rfl, ?_⟩) hHeld ?_; rotate_left; focus (intro w hSw; (try dsimp only at hSw); go_simp; try with_reducible rfl))
              simp only [PT]
              first | (refine tk 40 (oi := ⟨some 195, _, _, _, _, _⟩) (v := undef) rfl (by kernel_rfl) (.inr ⟨by rfl, rfl⟩) hHeld ?_) | (refine tk 40 (oi := ⟨some 195, _, _, _, _, _⟩) (v := ?_) rfl (by kernel_rfl) (.inl ⟨by rfl, ?_⟩) hHeld ?_; rotate_left; focus (intro w hSw; (try dsimp only at hSw); go_simp; try with_reducible rfl))
              simp only [PT]
              refine tk 41 (oi := ⟨some 196, _, _, _, _, _⟩) (v := ?_) rfl (by kernel_rfl) (.inl ⟨by rfl, ?_⟩) hHeld ?_; rotate_left; focus (intro w hSw; (try dsimp only at hSw); go_simp; try with_reducible rfl)
              simp only [PT]
              refine wpAnyH_done (by kernel_rfl) ?_ _
              go_wp2_with fail
              go_roundw
              case rel => exact ⟨m + 1, by omega, by go_num, Lib.hid (HB.out.trans (Below.mono bup HB.out.size)), Lib.hid (HR.out.keep bup), Lib.hid (HWS.out.below bup), Lib.hid (hatB HG13 bup)⟩
              case measure => first | (simp [intOf]; done) | (simp [intOf]; omega)
            · as_aux_lemma =>
              have HLK := Lib.hid hlk
              clear hlk
              have HNE := Lib.hid hne
              have HKE := Lib.hid hke
              clear hne hke
              go_wp2_with (first
                | ((with_reducible refine sl 140 ?_); go_must (refine wpL_load rfl 26 (.tmp 139) rfl bw (offw + m * 41) rfl v.v.key.cells _ (range_key HVR.out) Try.underlying26 rfl (tup_len v) ?_); simp only [PT])
                | (go_at_call 20; (with_reducible show Calls _ _ #[_, .agg v.v.key.cells.toArray] _ _); go_must (refine (get_yes p q kb _ _ v x HLK.out _ (HR.out.keep bup)).mono ?_); rintro e w5 ⟨rfl, hb__⟩; have hE__ := cU HB bup hb__; replace HB := ck HB hE__; (try replace HR := ck HR hE__); (try replace HWS := ck HWS hE__); (try replace HG13 := ck HG13 hE__); (try replace HVR := ck HVR hE__); clear hE__ hb__)
                | ((with_reducible refine sl 19 ?_); go_must (refine wpL_newG rfl rfl 28 rfl (.tmp 19) (.tmp 142) rfl (x.v.cells).toArray zeroF.cells.toArray (new_info (by first | exact Flo.length zeroF_ok | exact FloW.length _ | exact LEN_19)) (new_size (by first | exact Flo.length zeroF_ok | exact FloW.length _ | exact LEN_19)) (flo_one _) (fun _ => rfl) (fun _ => rfl) ?_); intro wn19 g19 le_19 hg__ hb__; have hE__ := cU HB bup hb__; replace HB := ck HB hE__; (try replace HR := ck HR hE__); (try replace HWS := ck HWS hE__); (try replace HG13 := ck HG13 hE__); (try replace HVR := ck HVR hE__); clear hE__ hb__; have HG19 := Lib.hid hg__; clear hg__; simp only [PT]))
              refine wp_region_held_drew (S := fun u__ => u__.rangeAt bw (offw + m * 41) v.v.cells ∧ u__.heap[g13]? = some (.cells gone.v.cells.toArray 28 (0, 0)) ∧ u__.heap[g19]? = some (.cells x.v.cells.toArray 28 (0, 0)) ∧ u__.rangeAt b (off + k * 41) x.v.cells) (by kernel_rfl) ?_ (fun hHeld => ?_)
              focus (exact ⟨range_keep HVR.out bup, hatB HG13 bup, hatB HG19 bup, HXG.out _ (HB.out.trans (Below.mono bup HB.out.size))⟩)
              refine tk 0 (oi := ⟨some 144, _, _, _, _, _⟩) (v := ?_) rfl (by kernel_rfl) (.inl ⟨by rfl, ?_⟩) hHeld ?_; rotate_left; focus (intro w hSw; (try dsimp only at hSw); go_simp; try with_reducible rfl)
              simp only [PT]
              refine tk 1 (oi := ⟨some 145, _, _, _, _, _⟩) (v := ?_) rfl (by kernel_rfl) (.inl ⟨by rfl, ?_⟩) hHeld ?_; rotate_left; focus (intro w hSw; (try dsimp only at hSw); go_simp; try with_reducible rfl)
              simp only [PT]
              first | (refine tk 2 (oi := ⟨some 146, _, _, _, _, _⟩) (v := undef) rfl (by kernel_rfl) (.inr ⟨by rfl, rfl⟩) hHeld ?_) | (refine tk 2 (oi := ⟨some 146, _, _, _, _, _⟩) (v := ?_) rfl (by kernel_rfl) (.inl ⟨by rfl, ?_⟩) hHeld ?_; rotate_left; focus (intro w hSw; (try dsimp only at hSw); go_simp; try with_reducible rfl))
              simp only [PT]
              first | (refine tk 3 (oi := ⟨some 147, _, _, _, _, _⟩) (v := undef) rfl (by kernel_rfl) (.inr ⟨by rfl, rfl⟩) hHeld ?_) | (refine tk 3 (oi := ⟨some 147, _, _, _, _, _⟩) (v := ?_) rfl (by kernel_rfl) (.inl ⟨by rfl, ?_⟩) hHeld ?_; rotate_left; focus (intro w hSw; (try dsimp only at hSw); go_simp; try with_reducible rfl))
              simp only [PT]
              first | (refine tk 4 (oi := ⟨some 148, _, _, _, _, _⟩) (v := undef) rfl (by kernel_rfl) (.inr ⟨by rfl, rfl⟩) hHeld ?_) | (refine tk 4 (oi := ⟨some 148, _, _, _, _, _⟩) (v := ?_) rfl (by kernel_rfl) (.inl ⟨by rfl, ?_⟩) hHeld ?_; rotate_left; focus (intro w hSw; (try dsimp only at hSw); go_simp; try with_reducible rfl))
              simp only [PT]
              first | (refine tk 5 (oi := ⟨some 149, _, _, _, _, _⟩) (v := undef) rfl (by kernel_rfl) (.inr ⟨by rfl, rfl⟩) hHeld ?_) | (refine tk 5 (oi := ⟨some 149, _, _, _, _, _⟩) (v := ?_) rfl (by kernel_rfl) (.inl ⟨by rfl, ?_⟩) hHeld ?_; rotate_left; focus (intro w hSw; (try dsimp only at hSw); go_simp; try with_reducible rfl))
              simp only [PT]
              first | (refine tk 6 (oi := ⟨some 150, _, _, _, _, _⟩) (v := undef) rfl (by kernel_rfl) (.inr ⟨by rfl, rfl⟩) hHeld ?_) | (refine tk 6 (oi := ⟨some 150, _, _, _, _, _⟩) (v := ?_) rfl (by kernel_rfl) (.inl ⟨by rfl, ?_⟩) hHeld ?_; rotate_left; focus (intro w hSw; (try dsimp only at hSw); go_simp; try with_reducible rfl))
              simp only [PT]
              first | (refine tk 7 (oi := ⟨some 151, _, _, _, _, _⟩) (v := undef) rfl (by kernel_rfl) (.inr ⟨by rfl, rfl⟩) hHeld ?_) | (refine tk 7 (oi := ⟨some 151, _, _, _, _, _⟩) (v := ?_) rfl (by kernel_rfl) (.inl ⟨by rfl, ?_⟩) hHeld ?_; rotate_left; focus (intro w hSw; (try dsimp only at hSw); go_simp; try with_reducible rfl))
              simp only [PT]
              first | (refine tk 8 (oi := ⟨some 152, _, _, _, _, _⟩) (v := undef) rfl (by kernel_rfl) (.inr ⟨by rfl, rfl⟩) hHeld ?_) | (refine tk 8 (oi := ⟨some 152, _, _, _, _, _⟩) (v := ?_) rfl (by kernel_rfl) (.inl ⟨by rfl, ?_⟩) hHeld ?_; rotate_left; focus (intro w hSw; (try dsimp only at hSw); go_simp; try with_reducible rfl))
              simp only [PT]
              first | (refine tk 9 (oi := ⟨some 153, _, _, _, _, _⟩) (v := undef) rfl (by kernel_rfl) (.inr ⟨by rfl, rfl⟩) hHeld ?_) | (refine tk 9 (oi := ⟨some 153, _, _, _, _, _⟩) (v := ?_) rfl (by kernel_rfl) (.inl ⟨by rfl, ?_⟩) hHeld ?_; rotate_left; focus (intro w hSw; (try dsimp only at hSw); go_simp; try with_reducible rfl))
              simp only [PT]
              refine tk 10 (oi := ⟨some 154, _, _, _, _, _⟩) (v := ?_) rfl (by kernel_rfl) (.inl ⟨by rfl, ?_⟩) hHeld ?_; rotate_left; focus (intro w hSw; (try dsimp only at hSw); go_simp; try with_reducible rfl)
              simp only [PT]
              refine tk 11 (oi := ⟨some 21, _, _, _, _, _⟩) (v := ?_) rfl (by kernel_rfl) (.inl ⟨by rfl, ?_⟩) hHeld ?_; rotate_left; focus (intro w hSw; (try dsimp only at hSw); go_simp; try with_reducible rfl)
              simp only [PT]
              refine wpAnyH_done (by kernel_rfl) ?_ _
              go_wp2_with fail
              refine wp_region_held_drew (S := fun u__ => u__.rangeAt bw (offw + m * 41) v.v.cells ∧ u__.heap[g13]? = some (.cells gone.v.cells.toArray 28 (0, 0)) ∧ u__.heap[g19]? = some (.cells x.v.cells.toArray 28 (0, 0)) ∧ u__.rangeAt b (off + k * 41) x.v.cells) (by kernel_rfl) ?_ (fun hHeld => ?_)
              focus (exact ⟨range_keep HVR.out bup, hatB HG13 bup, hatB HG19 bup, HXG.out _ (HB.out.trans (Below.mono bup HB.out.size))⟩)
              refine tk 0 (oi := ⟨some 155, _, _, _, _, _⟩) (v := ?_) rfl (by kernel_rfl) (.inl ⟨by rfl, ?_⟩) hHeld ?_; rotate_left; focus (intro w hSw; (try dsimp only at hSw); go_simp; try with_reducible rfl)
              simp only [PT]
              refine tk 1 (oi := ⟨some 156, _, _, _, _, _⟩) (v := ?_) rfl (by kernel_rfl) (.inl ⟨by rfl, ?_⟩) hHeld ?_; rotate_left; focus (intro w hSw; (try dsimp only at hSw); go_simp; try with_reducible rfl)
              simp only [PT]
              refine tk 2 (oi := ⟨some 157, _, _, _, _, _⟩) (v := ?_) rfl (by kernel_rfl) (.inl ⟨by rfl, ?_⟩) hHeld ?_; rotate_left; focus (intro w hSw; (try dsimp only at hSw); go_simp; try with_reducible rfl)
              simp only [PT]
              refine tk 3 (oi := ⟨some 158, _, _, _, _, _⟩) (v := ?_) rfl (by kernel_rfl) (.inl ⟨by rfl, ?_⟩) hHeld ?_; rotate_left; focus (intro w hSw; (try dsimp only at hSw); go_simp; try with_reducible rfl)
              simp only [PT]
              first | (refine tk 4 (oi := ⟨some 159, _, _, _, _, _⟩) (v := undef) rfl (by kernel_rfl) (.inr ⟨by rfl, rfl⟩) hHeld ?_) | (refine tk 4 (oi := ⟨some 159, _, _, _, _, _⟩) (v := ?_) rfl (by kernel_rfl) (.inl ⟨by rfl, ?_⟩) hHeld ?_; rotate_left; focus (intro w hSw; (try dsimp only at hSw); go_simp; try with_reducible rfl))
              simp only [PT]
              first | (refine tk 5 (oi := ⟨some 160, _, _, _, _, _⟩) (v := undef) rfl (by kernel_rfl) (.inr ⟨by rfl, rfl⟩) hHeld ?_) | (refine tk 5 (oi := ⟨some 160, _, _, _, _, _⟩) (v := ?_) rfl (by kernel_rfl) (.inl ⟨by rfl, ?_⟩) hHeld ?_; rotate_left; focus (intro w hSw; (try dsimp only at hSw); go_simp; try with_reducible rfl))
              simp only [PT]
              first | (refine tk 6 (oi := ⟨some 161, _, _, _, _, _⟩) (v := undef) rfl (by kernel_rfl) (.inr ⟨by rfl, rfl⟩) hHeld ?_) | (refine tk 6 (oi := ⟨some 161, _, _, _, _, _⟩) (v := ?_) rfl (by kernel_rfl) (.inl ⟨by rfl, ?_⟩) hHeld ?_; rotate_left; focus (intro w hSw; (try dsimp only at hSw); go_simp; try with_reducible rfl))
              simp only [PT]
              first | (refine tk 7 (oi := ⟨some 162, _, _, _, _, _⟩) (v := undef) rfl (by kernel_rfl) (.inr ⟨by rfl, rfl⟩) hHeld ?_) | (refine tk 7 (oi := ⟨some 162, _, _, _, _, _⟩) (v := ?_) rfl (by kernel_rfl) (.inl ⟨by rfl, ?_⟩) hHeld ?_; rotate_left; focus (intro w hSw; (try dsimp only at hSw); go_simp; try with_reducible rfl))
              simp only [PT]
              first | (refine tk 8 (oi := ⟨some 163, _, _, _, _, _⟩) (v := undef) rfl (by kernel_rfl) (.inr ⟨by rfl, rfl⟩) hHeld ?_) | (refine tk 8 (oi := ⟨some 163, _, _, _, _, _⟩) (v := ?_) rfl (by kernel_rfl) (.inl ⟨by rfl, ?_⟩) hHeld ?_; rotate_left; focus (intro w hSw; (try dsimp only at hSw); go_simp; try with_reducible rfl))
              simp only [PT]
              first | (refine tk 9 (oi := ⟨some 164, _, _, _, _, _⟩) (v := undef) rfl (by kernel_rfl) (.inr ⟨by rfl, rfl⟩) hHeld ?_) | (refine tk 9 (oi := ⟨some 164, _, _, _, _, _⟩) (v := ?_) rfl (by kernel_rfl) (.inl ⟨by rfl, ?_⟩) hHeld ?_; rotate_left; focus (intro w hSw; (try dsimp only at hSw); go_simp; try with_reducible rfl))
              simp only [PT]
              first | (refine tk 10 (oi := ⟨some 165, _, _, _, _, _⟩) (v := undef) rfl (by kernel_rfl) (.inr ⟨by rfl, rfl⟩) hHeld ?_) | (refine tk 10 (oi := ⟨some 165, _, _, _, _, _⟩) (v := ?_) rfl (by kernel_rfl) (.inl ⟨by rfl, ?_⟩) hHeld ?_; rotate_left; focus (intro w hSw; (try dsimp only at hSw); go_simp; try with_reducible rfl))
              simp only [PT]
              refine wpAnyH_ready (rs := [11]) (by kernel_rfl) (by simp) ?_
              refine (AllReadyH.cons (o := ⟨some 166, _, _, _, _, _⟩) rfl (fun K hK => ?_) AllReadyH.nil)
              (go_simp)
              refine hK.out _ _ ?_ (fun hHeld => ?_)
              focus (exact ⟨range_keep HVR.out bup, hatB HG13 bup, hatB HG19 bup, HXG.out _ (HB.out.trans (Below.mono bup HB.out.size))⟩)
              clear hK K
              try simp only [PT]
              first | (refine tk 12 (oi := ⟨some 167, _, _, _, _, _⟩) (v := undef) rfl (by kernel_rfl) (.inr ⟨by rfl, rfl⟩) hHeld ?_) | (refine tk 12 (oi := ⟨some 167, _, _, _, _, _⟩) (v := ?_) rfl (by kernel_rfl) (.inl ⟨by rfl, ?_⟩) hHeld ?_; rotate_left; focus (intro w hSw; (try dsimp only at hSw); go_simp; try with_reducible rfl))
              simp only [PT]
              refine tk 13 (oi := ⟨some 168, _, _, _, _, _⟩) (v := ?_) rfl (by kernel_rfl) (.inl ⟨by rfl, ?_⟩) hHeld ?_; rotate_left; focus (intro w hSw; (try dsimp only at hSw); go_simp; try with_reducible rfl)
              simp only [PT]
              refine tk 14 (oi := ⟨some 169, _, _, _, _, _⟩) (v := ?_) rfl (by kernel_rfl) (.inl ⟨by rfl, ?_⟩) hHeld ?_; rotate_left; focus (intro w hSw; (try dsimp only at hSw); go_simp; try with_reducible rfl)
              simp only [PT]
              first | (refine tk 15 (oi := ⟨some 170, _, _, _, _, _⟩) (v := undef) rfl (by kernel_rfl) (.inr ⟨by rfl, rfl⟩) hHeld ?_) | (refine tk 15 (oi := ⟨some 170, _, _, _, _, _⟩) (v := ?_) rfl (by kernel_rfl) (.inl ⟨by rfl, ?_⟩) hHeld ?_; rotate_left; focus (intro w hSw; (try dsimp only at hSw); go_simp; try with_reducible rfl))
              simp only [PT]
              first | (refine tk 16 (oi := ⟨some 171, _, _, _, _, _⟩) (v := undef) rfl (by kernel_rfl) (.inr ⟨by rfl, rfl⟩) hHeld ?_) | (refine tk 16 (oi := ⟨some 171, _, _, _, _, _⟩) (v := ?_) rfl (by kernel_rfl) (.inl ⟨by rfl, ?_⟩) hHeld ?_; rotate_left; focus (intro w hSw; (try dsimp only at hSw); go_simp; try with_reducible rfl))
              simp only [PT]
              first | (refine tk 17 (oi := ⟨some 172, _, _, _, _, _⟩) (v := undef) rfl (by kernel_rfl) (.inr ⟨by rfl, rfl⟩) hHeld ?_) | (refine' tk 17 (oi := ⟨some 172, _, _, _, _, _⟩) (v := _) rfl (by kernel_rfl) (yieldsIf_load_mid (by rfl) _ _ rfl _ _ rfl (x.v.cells) _ (fun _ h => range_block h.2.2.1) (Try.underlying28) rfl (one_size x)) hHeld ?_)
              simp only [PT]
              first | (refine tk 18 (oi := ⟨some 173, _, _, _, _, _⟩) (v := undef) rfl (by kernel_rfl) (.inr ⟨by rfl, rfl⟩) hHeld ?_) | (refine tk 18 (oi := ⟨some 173, _, _, _, _, _⟩) (v := ?_) rfl (by kernel_rfl) (.inl ⟨by rfl, ?_⟩) hHeld ?_; rotate_left; focus (intro w hSw; (try dsimp only at hSw); go_simp; try with_reducible rfl))
              simp only [PT]
              first | (refine tk 19 (oi := ⟨some 174, _, _, _, _, _⟩) (v := undef) rfl (by kernel_rfl) (.inr ⟨by rfl, rfl⟩) hHeld ?_) | (refine tk 19 (oi := ⟨some 174, _, _, _, _, _⟩) (v := ?_) rfl (by kernel_rfl) (.inl ⟨by rfl, ?_⟩) hHeld ?_; rotate_left; focus (intro w hSw; (try dsimp only at hSw); go_simp; try with_reducible rfl))
              simp only [PT]
              first | (refine tk 20 (oi := ⟨some 175, _, _, _, _, _⟩) (v := undef) rfl (by kernel_rfl) (.inr ⟨by rfl, rfl⟩) hHeld ?_) | (refine tk 20 (oi := ⟨some 175, _, _, _, _, _⟩) (v := ?_) rfl (by kernel_rfl) (.inl ⟨by rfl, ?_⟩) hHeld ?_; rotate_left; focus (intro w hSw; (try dsimp only at hSw); go_simp; try with_reducible rfl))
              simp only [PT]
              first | (refine tk 21 (oi := ⟨some 176, _, _, _, _, _⟩) (v := undef) rfl (by kernel_rfl) (.inr ⟨by rfl, rfl⟩) hHeld ?_) | (refine' tk 21 (oi := ⟨some 176, _, _, _, _, _⟩) (v := _) rfl (by kernel_rfl) (yieldsIf_load_mid (by rfl) _ _ rfl _ _ rfl (v.v.cells) _ (fun _ h => h.1) (Try.underlying28) rfl (one_size v)) hHeld ?_)
              simp only [PT]
              first | (refine tk 22 (oi := ⟨some 177, _, _, _, _, _⟩) (v := undef) rfl (by kernel_rfl) (.inr ⟨by rfl, rfl⟩) hHeld ?_) | (refine' tk 22 (oi := ⟨some 177, _, _, _, _, _⟩) (v := _) rfl (by kernel_rfl) (yields_neqF_ne x v HNE.out (by rfl) (.tmp 172) (.tmp 176) rfl rfl rfl) hHeld ?_)
              simp only [PT]
              first | (refine tk 23 (oi := ⟨some 178, _, _, _, _, _⟩) (v := undef) rfl (by kernel_rfl) (.inr ⟨by rfl, rfl⟩) hHeld ?_) | (refine tk 23 (oi := ⟨some 178, _, _, _, _, _⟩) (v := ?_) rfl (by kernel_rfl) (.inl ⟨by rfl, ?_⟩) hHeld ?_; rotate_left; focus (intro w hSw; (try dsimp only at hSw); go_simp; try with_reducible rfl))
              simp only [PT]
              first | (refine tk 24 (oi := ⟨some 179, _, _, _, _, _⟩) (v := undef) rfl (by kernel_rfl) (.inr ⟨by rfl, rfl⟩) hHeld ?_) | (refine tk 24 (oi := ⟨some 179, _, _, _, _, _⟩) (v := ?_) rfl (by kernel_rfl) (.inl ⟨by rfl, ?_⟩) hHeld ?_; rotate_left; focus (intro w hSw; (try dsimp only at hSw); go_simp; try with_reducible rfl))
              simp only [PT]
              first | (refine tk 25 (oi := ⟨some 180, _, _, _, _, _⟩) (v := undef) rfl (by kernel_rfl) (.inr ⟨by rfl, rfl⟩) hHeld ?_) | (refine tk 25 (oi := ⟨some 180, _, _, _, _, _⟩) (v := ?_) rfl (by kernel_rfl) (.inl ⟨by rfl, ?_⟩) hHeld ?_; rotate_left; focus (intro w hSw; (try dsimp only at hSw); go_simp; try with_reducible rfl))
              simp only [PT]
              first | (refine tk 26 (oi := ⟨some 181, _, _, _, _, _⟩) (v := undef) rfl (by kernel_rfl) (.inr ⟨by rfl, rfl⟩) hHeld ?_) | (refine tk 26 (oi := ⟨some 181, _, _, _, _, _⟩) (v := ?_) rfl (by kernel_rfl) (.inl ⟨by rfl, ?_⟩) hHeld ?_; rotate_left; focus (intro w hSw; (try dsimp only at hSw); go_simp; try with_reducible rfl))
              simp only [PT]
              first | (refine tk 27 (oi := ⟨some 182, _, _, _, _, _⟩) (v := undef) rfl (by kernel_rfl) (.inr ⟨by rfl, rfl⟩) hHeld ?_) | (refine tk 27 (oi := ⟨some 182, _, _, _, _, _⟩) (v := ?_) rfl (by kernel_rfl) (.inl ⟨by rfl, ?_⟩) hHeld ?_; rotate_left; focus (intro w hSw; (try dsimp only at hSw); go_simp; try with_reducible rfl))
              simp only [PT]
              first | (refine tk 28 (oi := ⟨some 183, _, _, _, _, _⟩) (v := undef) rfl (by kernel_rfl) (.inr ⟨by rfl, rfl⟩) hHeld ?_) | (refine tk 28 (oi := ⟨some 183, _, _, _, _, _⟩) (v := ?_) rfl (by kernel_rfl) (.inl ⟨by rfl, ?_⟩) hHeld ?_; rotate_left; focus (intro w hSw; (try dsimp only at hSw); go_simp; try with_reducible rfl))
              simp only [PT]
              first | (refine tk 29 (oi := ⟨some 184, _, _, _, _, _⟩) (v := undef) rfl (by kernel_rfl) (.inr ⟨by rfl, rfl⟩) hHeld ?_) | (refine' tk 29 (oi := ⟨some 184, _, _, _, _, _⟩) (v := _) rfl (by kernel_rfl) (yieldsIf_load_mid (by rfl) _ _ rfl _ _ rfl (v.v.key.cells) _ (fun _ h => range_key h.1) (Try.underlying26) rfl (tup_len v)) hHeld ?_)
              simp only [PT]
              first | (refine tk 30 (oi := ⟨some 185, _, _, _, _, _⟩) (v := undef) rfl (by kernel_rfl) (.inr ⟨by rfl, rfl⟩) hHeld ?_) | (refine tk 30 (oi := ⟨some 185, _, _, _, _, _⟩) (v := ?_) rfl (by kernel_rfl) (.inl ⟨by rfl, ?_⟩) hHeld ?_; rotate_left; focus (intro w hSw; (try dsimp only at hSw); go_simp; try with_reducible rfl))
              simp only [PT]
              first | (refine tk 31 (oi := ⟨some 186, _, _, _, _, _⟩) (v := undef) rfl (by kernel_rfl) (.inr ⟨by rfl, rfl⟩) hHeld ?_) | (refine tk 31 (oi := ⟨some 186, _, _, _, _, _⟩) (v := ?_) rfl (by kernel_rfl) (.inl ⟨by rfl, ?_⟩) hHeld ?_; rotate_left; focus (intro w hSw; (try dsimp only at hSw); go_simp; try with_reducible rfl))
              simp only [PT]
              first | (refine tk 32 (oi := ⟨some 187, _, _, _, _, _⟩) (v := undef) rfl (by kernel_rfl) (.inr ⟨by rfl, rfl⟩) hHeld ?_) | (refine tk 32 (oi := ⟨some 187, _, _, _, _, _⟩) (v := ?_) rfl (by kernel_rfl) (.inl ⟨by rfl, ?_⟩) hHeld ?_; rotate_left; focus (intro w hSw; (try dsimp only at hSw); go_simp; try with_reducible rfl))
              simp only [PT]
              first | (refine tk 33 (oi := ⟨some 188, _, _, _, _, _⟩) (v := undef) rfl (by kernel_rfl) (.inr ⟨by rfl, rfl⟩) hHeld ?_) | (refine tk 33 (oi := ⟨some 188, _, _, _, _, _⟩) (v := ?_) rfl (by kernel_rfl) (.inl ⟨by rfl, ?_⟩) hHeld ?_; rotate_left; focus (intro w hSw; (try dsimp only at hSw); go_simp; try with_reducible rfl))
              simp only [PT]
              first | (refine tk 34 (oi := ⟨some 189, _, _, _, _, _⟩) (v := undef) rfl (by kernel_rfl) (.inr ⟨by rfl, rfl⟩) hHeld ?_) | (refine' tk 34 (oi := ⟨some 189, _, _, _, _, _⟩) (v := _) rfl (by kernel_rfl) (yieldsIf_load_mid (by rfl) _ _ rfl _ _ rfl (x.v.key.cells) _ (fun _ h => range_key h.2.2.2) (Try.underlying26) rfl (tup_len x)) hHeld ?_)
              simp only [PT]
              first | (refine tk 35 (oi := ⟨some 190, _, _, _, _, _⟩) (v := undef) rfl (by kernel_rfl) (.inr ⟨by rfl, rfl⟩) hHeld ?_) | (refine' tk 35 (oi := ⟨some 190, _, _, _, _, _⟩) (v := _) rfl (by kernel_rfl) (yields_neqT_same v x HKE.out (by rfl) (.tmp 184) (.tmp 189) rfl rfl rfl) hHeld ?_)
              simp only [PT]
              first | (refine tk 36 (oi := ⟨some 191, _, _, _, _, _⟩) (v := undef) rfl (by kernel_rfl) (.inr ⟨by rfl, rfl⟩) hHeld ?_) | (refine tk 36 (oi := ⟨some 191, _, _, _, _, _⟩) (v := ?_) rfl (by kernel_rfl) (.inl ⟨by rfl, ?_⟩) hHeld ?_; rotate_left; focus (intro w hSw; (try dsimp only at hSw); go_simp; try with_reducible rfl))
              simp only [PT]
              first | (refine tk 37 (oi := ⟨some 192, _, _, _, _, _⟩) (v := undef) rfl (by kernel_rfl) (.inr ⟨by rfl, rfl⟩) hHeld ?_) | (refine tk 37 (oi := ⟨some 192, _, _, _, _, _⟩) (v := ?_) rfl (by kernel_rfl) (.inl ⟨by rfl, ?_⟩) hHeld ?_; rotate_left; focus (intro w hSw; (try dsimp only at hSw); go_simp; try with_reducible rfl))
              simp only [PT]
              first | (refine tk 38 (oi := ⟨some 193, _, _, _, _, _⟩) (v := undef) rfl (by kernel_rfl) (.inr ⟨by rfl, rfl⟩) hHeld ?_) | (refine tk 38 (oi := ⟨some 193, _, _, _, _, _⟩) (v := ?_) rfl (by kernel_rfl) (.inl ⟨by rfl, ?_⟩) hHeld ?_; rotate_left; focus (intro w hSw; (try dsimp only at hSw); go_simp; try with_reducible rfl))
              simp only [PT]
              first | (refine tk 39 (oi := ⟨some 194, _, _, _, _, _⟩) (v := undef) rfl (by kernel_rfl) (.inr ⟨by rfl, rfl⟩) hHeld ?_) | (refine tk 39 (oi := ⟨some 194, _, _, _, _, _⟩) (v := ?_) rfl (by kernel_rfl) (.inl ⟨by rfl, ?_⟩) hHeld ?_; rotate_left; focus (intro w hSw; (try dsimp only at hSw); go_simp; try with_reducible rfl))
              simp only [PT]
              first | (refine tk 40 (oi := ⟨some 195, _, _, _, _, _⟩) (v := undef) rfl (by kernel_rfl) (.inr ⟨by rfl, rfl⟩) hHeld ?_) | (refine tk 40 (oi := ⟨some 195, _, _, _, _, _⟩) (v := ?_) rfl (by kernel_rfl) (.inl ⟨by rfl, ?_⟩) hHeld ?_; rotate_left; focus (intro w hSw; (try dsimp only at hSw); go_simp; try with_reducible rfl))
              simp only [PT]
              refine tk 41 (oi := ⟨some 196, _, _, _, _, _⟩) (v := ?_) rfl (by kernel_rfl) (.inl ⟨by rfl, ?_⟩) hHeld ?_; rotate_left; focus (intro w hSw; (try dsimp only at hSw); go_simp; try with_reducible rfl)
              simp only [PT]
              refine wpAnyH_done (by kernel_rfl) ?_ _
              go_wp2_with fail
              go_roundw
              case rel => exact ⟨m + 1, by omega, by go_num, Lib.hid (HB.out.trans (Below.mono bup HB.out.size)), Lib.hid (HR.out.keep bup), Lib.hid (HWS.out.below bup), Lib.hid (hatB HG13 bup)⟩
              case measure => first | (simp [intOf]; done) | (simp [intOf]; omega)
            · cases h
            · cases h
        · as_aux_lemma =>
          have hls : ls.length < roomN nn := by
            rcases hc with ⟨y, hy, hky⟩ | h
            · exact absurd hky (look_none.1 hl1 y hy)
            · omega
          clear hc hp hl1 hz
          refine wp_region_held_drew (S := fun u__ => u__.rangeAt b (off + k * 41) x.v.cells ∧ u__.heap[g16]? = some (.cells x.v.cells.toArray 28 (0, 0))) (by kernel_rfl) ?_ (fun hHeld => ?_)
          focus (exact ⟨HXG.out _ (HB.out.trans (Below.mono bup HB.out.size)), hatB HG16 bup⟩)
          refine tk 0 (oi := ⟨some 77, _, _, _, _, _⟩) (v := ?_) rfl (by kernel_rfl) (.inl ⟨by rfl, ?_⟩) hHeld ?_; rotate_left; focus (intro w hSw; (try dsimp only at hSw); go_simp; try with_reducible rfl)
          simp only [PT]
          refine tk 1 (oi := ⟨some 78, _, _, _, _, _⟩) (v := ?_) rfl (by kernel_rfl) (.inl ⟨by rfl, ?_⟩) hHeld ?_; rotate_left; focus (intro w hSw; (try dsimp only at hSw); go_simp; try with_reducible rfl)
          simp only [PT]
          refine tk 2 (oi := ⟨some 79, _, _, _, _, _⟩) (v := ?_) rfl (by kernel_rfl) (.inl ⟨by rfl, ?_⟩) hHeld ?_; rotate_left; focus (intro w hSw; (try dsimp only at hSw); go_simp; try with_reducible rfl)
          simp only [PT]
          refine tk 3 (oi := ⟨some 80, _, _, _, _, _⟩) (v := ?_) rfl (by kernel_rfl) (.inl ⟨by rfl, ?_⟩) hHeld ?_; rotate_left; focus (intro w hSw; (try dsimp only at hSw); go_simp; try with_reducible rfl)
          simp only [PT]
          refine tk 4 (oi := ⟨some 81, _, _, _, _, _⟩) (v := ?_) rfl (by kernel_rfl) (.inl ⟨by rfl, ?_⟩) hHeld ?_; rotate_left; focus (intro w hSw; (try dsimp only at hSw); go_simp; try with_reducible rfl)
          simp only [PT]
          refine' tk 5 (oi := ⟨some 82, _, _, _, _, _⟩) (v := _) rfl (by kernel_rfl) (yieldsIf_load_mid (by rfl) _ _ rfl _ _ rfl (x.v.cells) _ (fun _ h => h.1) (Try.underlying28) rfl (one_size x)) hHeld ?_
          simp only [PT]
          refine wpAnyH_ready (rs := [6]) (by kernel_rfl) (by simp) ?_
          refine (AllReadyH.cons (o := ⟨some 83, _, _, _, _, _⟩) rfl (fun K hK => ?_) AllReadyH.nil)
          focus (first | (refine skip_step ?_ ?_; focus (rfl)) | (go_simp; go_must (refine (refRight_any x.v x.ok HSZ.out _).mono ?_); rw [hr]; rintro e w5 ⟨rfl, hb__⟩; have hE__ := cU HB bup hb__; replace HB := ck HB hE__; (try replace HR := ck HR hE__); (try replace HWS := ck HWS hE__); (try replace HG13 := ck HG13 hE__); (try replace HG16 := ck HG16 hE__); clear hE__ hb__; go_wp2_with fail))
          refine hK.out _ _ ?_ (fun hHeld => ?_)
          focus (exact ⟨HXG.out _ (HB.out.trans (Below.mono bup HB.out.size)), hatB HG16 bup⟩)
          clear hK K
          try simp only [PT]
          refine tk 7 (oi := ⟨some 84, _, _, _, _, _⟩) (v := ?_) rfl (by kernel_rfl) (.inl ⟨by rfl, ?_⟩) hHeld ?_; rotate_left; focus (intro w hSw; (try dsimp only at hSw); go_simp; try with_reducible rfl)
          simp only [PT]
          refine tk 8 (oi := ⟨some 85, _, _, _, _, _⟩) (v := ?_) rfl (by kernel_rfl) (.inl ⟨by rfl, ?_⟩) hHeld ?_; rotate_left; focus (intro w hSw; (try dsimp only at hSw); go_simp; try with_reducible rfl)
          simp only [PT]
          first | (refine tk 9 (oi := ⟨some 86, _, _, _, _, _⟩) (v := undef) rfl (by kernel_rfl) (.inr ⟨by rfl, rfl⟩) hHeld ?_) | (refine tk 9 (oi := ⟨some 86, _, _, _, _, _⟩) (v := ?_) rfl (by kernel_rfl) (.inl ⟨by rfl, ?_⟩) hHeld ?_; rotate_left; focus (intro w hSw; (try dsimp only at hSw); go_simp; try with_reducible rfl))
          simp only [PT]
          first | (refine tk 10 (oi := ⟨some 87, _, _, _, _, _⟩) (v := undef) rfl (by kernel_rfl) (.inr ⟨by rfl, rfl⟩) hHeld ?_) | (refine tk 10 (oi := ⟨some 87, _, _, _, _, _⟩) (v := ?_) rfl (by kernel_rfl) (.inl ⟨by rfl, ?_⟩) hHeld ?_; rotate_left; focus (intro w hSw; (try dsimp only at hSw); go_simp; try with_reducible rfl))
          simp only [PT]
          first | (refine tk 11 (oi := ⟨some 88, _, _, _, _, _⟩) (v := undef) rfl (by kernel_rfl) (.inr ⟨by rfl, rfl⟩) hHeld ?_) | (refine tk 11 (oi := ⟨some 88, _, _, _, _, _⟩) (v := ?_) rfl (by kernel_rfl) (.inl ⟨by rfl, ?_⟩) hHeld ?_; rotate_left; focus (intro w hSw; (try dsimp only at hSw); go_simp; try with_reducible rfl))
          simp only [PT]
          first | (refine tk 12 (oi := ⟨some 89, _, _, _, _, _⟩) (v := undef) rfl (by kernel_rfl) (.inr ⟨by rfl, rfl⟩) hHeld ?_) | (refine tk 12 (oi := ⟨some 89, _, _, _, _, _⟩) (v := ?_) rfl (by kernel_rfl) (.inl ⟨by rfl, ?_⟩) hHeld ?_; rotate_left; focus (intro w hSw; (try dsimp only at hSw); go_simp; try with_reducible rfl))
          simp only [PT]
          first | (refine tk 13 (oi := ⟨some 90, _, _, _, _, _⟩) (v := undef) rfl (by kernel_rfl) (.inr ⟨by rfl, rfl⟩) hHeld ?_) | (refine tk 13 (oi := ⟨some 90, _, _, _, _, _⟩) (v := ?_) rfl (by kernel_rfl) (.inl ⟨by rfl, ?_⟩) hHeld ?_; rotate_left; focus (intro w hSw; (try dsimp only at hSw); go_simp; try with_reducible rfl))
          simp only [PT]
          first | (refine tk 14 (oi := ⟨some 91, _, _, _, _, _⟩) (v := undef) rfl (by kernel_rfl) (.inr ⟨by rfl, rfl⟩) hHeld ?_) | (refine tk 14 (oi := ⟨some 91, _, _, _, _, _⟩) (v := ?_) rfl (by kernel_rfl) (.inl ⟨by rfl, ?_⟩) hHeld ?_; rotate_left; focus (intro w hSw; (try dsimp only at hSw); go_simp; try with_reducible rfl))
          simp only [PT]
          first | (refine tk 15 (oi := ⟨some 92, _, _, _, _, _⟩) (v := undef) rfl (by kernel_rfl) (.inr ⟨by rfl, rfl⟩) hHeld ?_) | (refine' tk 15 (oi := ⟨some 92, _, _, _, _, _⟩) (v := _) rfl (by kernel_rfl) (yieldsIf_load_mid (by rfl) _ _ rfl _ _ rfl (x.v.cells) _ (fun _ h => range_block h.2) (Try.underlying28) rfl (one_size x)) hHeld ?_)
          simp only [PT]
          first | (refine tk 16 (oi := ⟨some 93, _, _, _, _, _⟩) (v := undef) rfl (by kernel_rfl) (.inr ⟨by rfl, rfl⟩) hHeld ?_) | (refine tk 16 (oi := ⟨some 93, _, _, _, _, _⟩) (v := ?_) rfl (by kernel_rfl) (.inl ⟨by rfl, ?_⟩) hHeld ?_; rotate_left; focus (intro w hSw; (try dsimp only at hSw); go_simp; try with_reducible rfl))
          simp only [PT]
          first | (refine tk 17 (oi := ⟨some 94, _, _, _, _, _⟩) (v := undef) rfl (by kernel_rfl) (.inr ⟨by rfl, rfl⟩) hHeld ?_) | (refine tk 17 (oi := ⟨some 94, _, _, _, _, _⟩) (v := ?_) rfl (by kernel_rfl) (.inl ⟨by rfl, ?_⟩) hHeld ?_; rotate_left; focus (intro w hSw; (try dsimp only at hSw); go_simp; try with_reducible rfl))
          simp only [PT]
          first | (refine tk 18 (oi := ⟨some 95, _, _, _, _, _⟩) (v := undef) rfl (by kernel_rfl) (.inr ⟨by rfl, rfl⟩) hHeld ?_) | (refine tk 18 (oi := ⟨some 95, _, _, _, _, _⟩) (v := ?_) rfl (by kernel_rfl) (.inl ⟨by rfl, ?_⟩) hHeld ?_; rotate_left; focus (intro w hSw; (try dsimp only at hSw); go_simp; try with_reducible rfl))
          simp only [PT]
          first | (refine tk 19 (oi := ⟨some 96, _, _, _, _, _⟩) (v := undef) rfl (by kernel_rfl) (.inr ⟨by rfl, rfl⟩) hHeld ?_) | (refine' tk 19 (oi := ⟨some 96, _, _, _, _, _⟩) (v := _) rfl (by kernel_rfl) (yieldsIf_load_mid (by rfl) _ _ rfl _ _ rfl (x.v.cells) _ (fun _ h => h.1) (Try.underlying28) rfl (one_size x)) hHeld ?_)
          simp only [PT]
          first | (refine tk 20 (oi := ⟨some 97, _, _, _, _, _⟩) (v := undef) rfl (by kernel_rfl) (.inr ⟨by rfl, rfl⟩) hHeld ?_) | (refine' tk 20 (oi := ⟨some 97, _, _, _, _, _⟩) (v := _) rfl (by kernel_rfl) (yields_neqF x x false (by simp) (by rfl) (.tmp 92) (.tmp 96) rfl rfl rfl) hHeld ?_)
          simp only [PT]
          first | (refine tk 21 (oi := ⟨some 98, _, _, _, _, _⟩) (v := undef) rfl (by kernel_rfl) (.inr ⟨by rfl, rfl⟩) hHeld ?_) | (refine tk 21 (oi := ⟨some 98, _, _, _, _, _⟩) (v := ?_) rfl (by kernel_rfl) (.inl ⟨by rfl, ?_⟩) hHeld ?_; rotate_left; focus (intro w hSw; (try dsimp only at hSw); go_simp; try with_reducible rfl))
          simp only [PT]
          first | (refine tk 22 (oi := ⟨some 99, _, _, _, _, _⟩) (v := undef) rfl (by kernel_rfl) (.inr ⟨by rfl, rfl⟩) hHeld ?_) | (refine tk 22 (oi := ⟨some 99, _, _, _, _, _⟩) (v := ?_) rfl (by kernel_rfl) (.inl ⟨by rfl, ?_⟩) hHeld ?_; rotate_left; focus (intro w hSw; (try dsimp only at hSw); go_simp; try with_reducible rfl))
          simp only [PT]
          first | (refine tk 23 (oi := ⟨some 100, _, _, _, _, _⟩) (v := undef) rfl (by kernel_rfl) (.inr ⟨by rfl, rfl⟩) hHeld ?_) | (refine tk 23 (oi := ⟨some 100, _, _, _, _, _⟩) (v := ?_) rfl (by kernel_rfl) (.inl ⟨by rfl, ?_⟩) hHeld ?_; rotate_left; focus (intro w hSw; (try dsimp only at hSw); go_simp; try with_reducible rfl))
          simp only [PT]
          first | (refine tk 24 (oi := ⟨some 101, _, _, _, _, _⟩) (v := undef) rfl (by kernel_rfl) (.inr ⟨by rfl, rfl⟩) hHeld ?_) | (refine tk 24 (oi := ⟨some 101, _, _, _, _, _⟩) (v := ?_) rfl (by kernel_rfl) (.inl ⟨by rfl, ?_⟩) hHeld ?_; rotate_left; focus (intro w hSw; (try dsimp only at hSw); go_simp; try with_reducible rfl))
          simp only [PT]
          first | (refine tk 25 (oi := ⟨some 102, _, _, _, _, _⟩) (v := undef) rfl (by kernel_rfl) (.inr ⟨by rfl, rfl⟩) hHeld ?_) | (refine tk 25 (oi := ⟨some 102, _, _, _, _, _⟩) (v := ?_) rfl (by kernel_rfl) (.inl ⟨by rfl, ?_⟩) hHeld ?_; rotate_left; focus (intro w hSw; (try dsimp only at hSw); go_simp; try with_reducible rfl))
          simp only [PT]
          first | (refine tk 26 (oi := ⟨some 103, _, _, _, _, _⟩) (v := undef) rfl (by kernel_rfl) (.inr ⟨by rfl, rfl⟩) hHeld ?_) | (refine tk 26 (oi := ⟨some 103, _, _, _, _, _⟩) (v := ?_) rfl (by kernel_rfl) (.inl ⟨by rfl, ?_⟩) hHeld ?_; rotate_left; focus (intro w hSw; (try dsimp only at hSw); go_simp; try with_reducible rfl))
          simp only [PT]
          first | (refine tk 27 (oi := ⟨some 104, _, _, _, _, _⟩) (v := undef) rfl (by kernel_rfl) (.inr ⟨by rfl, rfl⟩) hHeld ?_) | (refine tk 27 (oi := ⟨some 104, _, _, _, _, _⟩) (v := ?_) rfl (by kernel_rfl) (.inl ⟨by rfl, ?_⟩) hHeld ?_; rotate_left; focus (intro w hSw; (try dsimp only at hSw); go_simp; try with_reducible rfl))
          simp only [PT]
          first | (refine tk 28 (oi := ⟨some 105, _, _, _, _, _⟩) (v := undef) rfl (by kernel_rfl) (.inr ⟨by rfl, rfl⟩) hHeld ?_) | (refine tk 28 (oi := ⟨some 105, _, _, _, _, _⟩) (v := ?_) rfl (by kernel_rfl) (.inl ⟨by rfl, ?_⟩) hHeld ?_; rotate_left; focus (intro w hSw; (try dsimp only at hSw); go_simp; try with_reducible rfl))
          simp only [PT]
          first | (refine tk 29 (oi := ⟨some 106, _, _, _, _, _⟩) (v := undef) rfl (by kernel_rfl) (.inr ⟨by rfl, rfl⟩) hHeld ?_) | (refine tk 29 (oi := ⟨some 106, _, _, _, _, _⟩) (v := ?_) rfl (by kernel_rfl) (.inl ⟨by rfl, ?_⟩) hHeld ?_; rotate_left; focus (intro w hSw; (try dsimp only at hSw); go_simp; try with_reducible rfl))
          simp only [PT]
          refine wpAnyH_ready (rs := [30]) (by kernel_rfl) (by simp) ?_
          refine (AllReadyH.cons (o := ⟨some 107, _, _, _, _, _⟩) rfl (fun K hK => ?_) AllReadyH.nil)
          focus (first | (refine skip_step ?_ ?_; focus (rfl)) | (go_simp; go_must (refine (room_any nn HNN.out _).mono ?_); rintro e w5 ⟨rfl, hb__⟩; have hE__ := cU HB bup hb__; replace HB := ck HB hE__; (try replace HR := ck HR hE__); (try replace HWS := ck HWS hE__); (try replace HG13 := ck HG13 hE__); (try replace HG16 := ck HG16 hE__); clear hE__ hb__; go_wp2_with fail))
          refine hK.out _ _ ?_ (fun hHeld => ?_)
          focus (exact ⟨HXG.out _ (HB.out.trans (Below.mono bup HB.out.size)), hatB HG16 bup⟩)
          clear hK K
          try simp only [PT]
          first | (refine tk 31 (oi := ⟨some 108, _, _, _, _, _⟩) (v := undef) rfl (by kernel_rfl) (.inr ⟨by rfl, rfl⟩) hHeld ?_) | (refine' tk 31 (oi := ⟨some 108, _, _, _, _, _⟩) (v := (.bool false)) rfl (by kernel_rfl) (.inl ⟨by rfl, ?_⟩) hHeld ?_; focus (intro w hSw; (try dsimp only at hSw); go_simp; first | done | rfl | omega | (simp [*]; done) | (simp [*]; omega)))
          simp only [PT]
          first | (refine tk 32 (oi := ⟨some 109, _, _, _, _, _⟩) (v := undef) rfl (by kernel_rfl) (.inr ⟨by rfl, rfl⟩) hHeld ?_) | (refine tk 32 (oi := ⟨some 109, _, _, _, _, _⟩) (v := ?_) rfl (by kernel_rfl) (.inl ⟨by rfl, ?_⟩) hHeld ?_; rotate_left; focus (intro w hSw; (try dsimp only at hSw); go_simp; try with_reducible rfl))
          simp only [PT]
          first | (refine tk 33 (oi := ⟨some 110, _, _, _, _, _⟩) (v := undef) rfl (by kernel_rfl) (.inr ⟨by rfl, rfl⟩) hHeld ?_) | (refine tk 33 (oi := ⟨some 110, _, _, _, _, _⟩) (v := ?_) rfl (by kernel_rfl) (.inl ⟨by rfl, ?_⟩) hHeld ?_; rotate_left; focus (intro w hSw; (try dsimp only at hSw); go_simp; try with_reducible rfl))
          simp only [PT]
          first | (refine tk 34 (oi := ⟨some 111, _, _, _, _, _⟩) (v := undef) rfl (by kernel_rfl) (.inr ⟨by rfl, rfl⟩) hHeld ?_) | (refine tk 34 (oi := ⟨some 111, _, _, _, _, _⟩) (v := ?_) rfl (by kernel_rfl) (.inl ⟨by rfl, ?_⟩) hHeld ?_; rotate_left; focus (intro w hSw; (try dsimp only at hSw); go_simp; try with_reducible rfl))
          simp only [PT]
          first | (refine tk 35 (oi := ⟨some 112, _, _, _, _, _⟩) (v := undef) rfl (by kernel_rfl) (.inr ⟨by rfl, rfl⟩) hHeld ?_) | (refine tk 35 (oi := ⟨some 112, _, _, _, _, _⟩) (v := ?_) rfl (by kernel_rfl) (.inl ⟨by rfl, ?_⟩) hHeld ?_; rotate_left; focus (intro w hSw; (try dsimp only at hSw); go_simp; try with_reducible rfl))
          simp only [PT]
          refine tk 36 (oi := ⟨some 113, _, _, _, _, _⟩) (v := ?_) rfl (by kernel_rfl) (.inl ⟨by rfl, ?_⟩) hHeld ?_; rotate_left; focus (intro w hSw; (try dsimp only at hSw); go_simp; try with_reducible rfl)
          simp only [PT]
          refine tk 37 (oi := ⟨some 114, _, _, _, _, _⟩) (v := ?_) rfl (by kernel_rfl) (.inl ⟨by rfl, ?_⟩) hHeld ?_; rotate_left; focus (intro w hSw; (try dsimp only at hSw); go_simp; try with_reducible rfl)
          simp only [PT]
          first | (refine tk 38 (oi := ⟨some 115, _, _, _, _, _⟩) (v := undef) rfl (by kernel_rfl) (.inr ⟨by rfl, rfl⟩) hHeld ?_) | (refine tk 38 (oi := ⟨some 115, _, _, _, _, _⟩) (v := ?_) rfl (by kernel_rfl) (.inl ⟨by rfl, ?_⟩) hHeld ?_; rotate_left; focus (intro w hSw; (try dsimp only at hSw); go_simp; try with_reducible rfl))
          simp only [PT]
          first | (refine tk 39 (oi := ⟨some 116, _, _, _, _, _⟩) (v := undef) rfl (by kernel_rfl) (.inr ⟨by rfl, rfl⟩) hHeld ?_) | (refine tk 39 (oi := ⟨some 116, _, _, _, _, _⟩) (v := ?_) rfl (by kernel_rfl) (.inl ⟨by rfl, ?_⟩) hHeld ?_; rotate_left; focus (intro w hSw; (try dsimp only at hSw); go_simp; try with_reducible rfl))
          simp only [PT]
          first | (refine tk 40 (oi := ⟨some 117, _, _, _, _, _⟩) (v := undef) rfl (by kernel_rfl) (.inr ⟨by rfl, rfl⟩) hHeld ?_) | (refine tk 40 (oi := ⟨some 117, _, _, _, _, _⟩) (v := ?_) rfl (by kernel_rfl) (.inl ⟨by rfl, ?_⟩) hHeld ?_; rotate_left; focus (intro w hSw; (try dsimp only at hSw); go_simp; try with_reducible rfl))
          simp only [PT]
          first | (refine tk 41 (oi := ⟨some 118, _, _, _, _, _⟩) (v := undef) rfl (by kernel_rfl) (.inr ⟨by rfl, rfl⟩) hHeld ?_) | (refine tk 41 (oi := ⟨some 118, _, _, _, _, _⟩) (v := ?_) rfl (by kernel_rfl) (.inl ⟨by rfl, ?_⟩) hHeld ?_; rotate_left; focus (intro w hSw; (try dsimp only at hSw); go_simp; try with_reducible rfl))
          simp only [PT]
          first | (refine tk 42 (oi := ⟨some 119, _, _, _, _, _⟩) (v := undef) rfl (by kernel_rfl) (.inr ⟨by rfl, rfl⟩) hHeld ?_) | (refine tk 42 (oi := ⟨some 119, _, _, _, _, _⟩) (v := ?_) rfl (by kernel_rfl) (.inl ⟨by rfl, ?_⟩) hHeld ?_; rotate_left; focus (intro w hSw; (try dsimp only at hSw); go_simp; try with_reducible rfl))
          simp only [PT]
          refine tk 43 (oi := ⟨some 120, _, _, _, _, _⟩) (v := ?_) rfl (by kernel_rfl) (.inl ⟨by rfl, ?_⟩) hHeld ?_; rotate_left; focus (intro w hSw; (try dsimp only at hSw); go_simp; try with_reducible rfl)
          simp only [PT]
          refine tk 44 (oi := ⟨some 121, _, _, _, _, _⟩) (v := ?_) rfl (by kernel_rfl) (.inl ⟨by rfl, ?_⟩) hHeld ?_; rotate_left; focus (intro w hSw; (try dsimp only at hSw); go_simp; try with_reducible rfl)
          simp only [PT]
          first | (refine tk 45 (oi := ⟨some 122, _, _, _, _, _⟩) (v := undef) rfl (by kernel_rfl) (.inr ⟨by rfl, rfl⟩) hHeld ?_) | (refine tk 45 (oi := ⟨some 122, _, _, _, _, _⟩) (v := ?_) rfl (by kernel_rfl) (.inl ⟨by rfl, ?_⟩) hHeld ?_; rotate_left; focus (intro w hSw; (try dsimp only at hSw); go_simp; try with_reducible rfl))
          simp only [PT]
          first | (refine tk 47 (oi := ⟨some 124, _, _, _, _, _⟩) (v := undef) rfl (by kernel_rfl) (.inr ⟨by rfl, rfl⟩) hHeld ?_) | (refine tk 47 (oi := ⟨some 124, _, _, _, _, _⟩) (v := ?_) rfl (by kernel_rfl) (.inl ⟨by rfl, ?_⟩) hHeld ?_; rotate_left; focus (intro w hSw; (try dsimp only at hSw); go_simp; try with_reducible rfl))
          simp only [PT]
          refine wpAnyH_ready (rs := [46]) (by kernel_rfl) (by simp) ?_
          refine (AllReadyH.cons (o := ⟨some 123, _, _, _, _, _⟩) rfl (fun K hK => ?_) AllReadyH.nil)
          focus (first | (refine skip_step ?_ ?_; focus (rfl)) | (go_simp; go_must (refine (len_rep p q kb _ _ _ (HR.out.keep bup)).mono ?_); rintro e w5 ⟨rfl, hb__⟩; have hE__ := cU HB bup hb__; replace HB := ck HB hE__; (try replace HR := ck HR hE__); (try replace HWS := ck HWS hE__); (try replace HG13 := ck HG13 hE__); (try replace HG16 := ck HG16 hE__); clear hE__ hb__; go_wp2_with fail))
          refine hK.out _ _ ?_ (fun hHeld => ?_)
          focus (exact ⟨HXG.out _ (HB.out.trans (Below.mono bup HB.out.size)), hatB HG16 bup⟩)
          clear hK K
          try simp only [PT]
          refine wpAnyH_ready (rs := [48]) (by kernel_rfl) (by simp) ?_
          refine (AllReadyH.cons (o := ⟨some 125, _, _, _, _, _⟩) rfl (fun K hK => ?_) AllReadyH.nil)
          focus (first | (refine skip_step ?_ ?_; focus (rfl)) | (go_simp; go_must (refine (room_any nn HNN.out _).mono ?_); rintro e w5 ⟨rfl, hb__⟩; have hE__ := cU HB bup hb__; replace HB := ck HB hE__; (try replace HR := ck HR hE__); (try replace HWS := ck HWS hE__); (try replace HG13 := ck HG13 hE__); (try replace HG16 := ck HG16 hE__); clear hE__ hb__; go_wp2_with fail))
          refine hK.out _ _ ?_ (fun hHeld => ?_)
          focus (exact ⟨HXG.out _ (HB.out.trans (Below.mono bup HB.out.size)), hatB HG16 bup⟩)
          clear hK K
          try simp only [PT]
          first | (refine tk 49 (oi := ⟨some 126, _, _, _, _, _⟩) (v := undef) rfl (by kernel_rfl) (.inr ⟨by rfl, rfl⟩) hHeld ?_) | (refine' tk 49 (oi := ⟨some 126, _, _, _, _, _⟩) (v := (.bool false)) rfl (by kernel_rfl) (.inl ⟨by rfl, ?_⟩) hHeld ?_; focus (intro w hSw; (try dsimp only at hSw); go_simp; first | done | rfl | (simp [*]; done) | (simp [*]; omega)))
          simp only [PT]
          refine tk 50 (oi := ⟨some 127, _, _, _, _, _⟩) (v := ?_) rfl (by kernel_rfl) (.inl ⟨by rfl, ?_⟩) hHeld ?_; rotate_left; focus (intro w hSw; (try dsimp only at hSw); go_simp; try with_reducible rfl)
          simp only [PT]
          refine wpAnyH_done (by kernel_rfl) ?_ _
          go_wp2_with fail
          go_loopw [18] (fun i wr => ∃ m : Nat, m ≤ ls.length ∧ i = .int .i64 (m : Int) ∧ Hid (Below w.heap.size w wr) ∧ Hid (Rep wr p q kb (roomN nn) S') ∧ Hid (Fls wr adw ls.length cw ls) ∧ Hid (wr.heap[g13]? = some (.cells gone.v.cells.toArray 28 (0, 0)))) (fun i _ => ls.length - (intOf i).toNat)
          case atStart => exact ⟨0, by omega, rfl, Lib.hid (HB.out.trans (Below.mono bup HB.out.size)), Lib.hid (HR.out.keep bup), Lib.hid (HWS.out.below bup), Lib.hid (hatB HG13 bup)⟩
          case round =>
            have HR1 := HR
            clear HB HR HWS HG13 HG16
            obtain ⟨m, hm, rfl, HB, HR, HWS, HG13⟩ := hrel
            by_cases hend2 : m = ls.length
            · subst m
              go_wp2_with fail
              go_roundw
              case rel => exact ⟨k + 1, S', by omega, by go_num, HB, HR⟩
              case measure => first | (simp [intOf]; done) | (simp [intOf]; omega)
            have hlt2 : m < ls.length := by omega
            have hlm := HWS.out.le
            obtain ⟨bw, offw, rfl, hbw, hatw⟩ := HWS.out.at (by omega)
            clear hatw
            obtain ⟨v, hv⟩ : ∃ v, v = ls[m]'hlt2 := ⟨_, rfl⟩
            have HVR := Lib.hid (show _ from hv ▸ HWS.out.get m hlt2)
            have hvS : v ∈ flowsS S := by rw [hv]; exact HPM.out.mem_iff.1 (List.getElem_mem _)
            have HRV := Lib.hid (flows_right HR0.out.good hvS)
            have hcase := oldest_case HR0.out.good HR1.out.good HPW.out hvS
            clear hv hvS HR1
            rcases hcase with ⟨_, hlk⟩ | ⟨_, _, hke, hne, hlk⟩ | ⟨h, _⟩ | ⟨h, _⟩
            · as_aux_lemma =>
              have HLK := Lib.hid hlk
              clear hlk
              go_wp2_with (first
                | ((with_reducible refine sl 140 ?_); go_must (refine wpL_load rfl 26 (.tmp 139) rfl bw (offw + m * 41) rfl v.v.key.cells _ (range_key HVR.out) Try.underlying26 rfl (tup_len v) ?_); simp only [PT])
                | (go_at_call 20; (with_reducible show Calls _ _ #[_, .agg v.v.key.cells.toArray] _ _); go_must (refine (get_yes p q kb _ _ v v HLK.out _ (HR.out.keep bup)).mono ?_); rintro e w5 ⟨rfl, hb__⟩; have hE__ := cU HB bup hb__; replace HB := ck HB hE__; (try replace HR := ck HR hE__); (try replace HWS := ck HWS hE__); (try replace HG13 := ck HG13 hE__); (try replace HVR := ck HVR hE__); clear hE__ hb__)
                | ((with_reducible refine sl 19 ?_); go_must (refine wpL_newG rfl rfl 28 rfl (.tmp 19) (.tmp 142) rfl (v.v.cells).toArray zeroF.cells.toArray (new_info (by first | exact Flo.length zeroF_ok | exact FloW.length _ | exact LEN_19)) (new_size (by first | exact Flo.length zeroF_ok | exact FloW.length _ | exact LEN_19)) (flo_one _) (fun _ => rfl) (fun _ => rfl) ?_); intro wn19 g19 le_19 hg__ hb__; have hE__ := cU HB bup hb__; replace HB := ck HB hE__; (try replace HR := ck HR hE__); (try replace HWS := ck HWS hE__); (try replace HG13 := ck HG13 hE__); (try replace HVR := ck HVR hE__); clear hE__ hb__; have HG19 := Lib.hid hg__; clear hg__; simp only [PT]))
              refine wp_region_held_drew (S := fun u__ => u__.rangeAt bw (offw + m * 41) v.v.cells ∧ u__.heap[g13]? = some (.cells gone.v.cells.toArray 28 (0, 0)) ∧ u__.heap[g19]? = some (.cells v.v.cells.toArray 28 (0, 0)) ∧ u__.rangeAt b (off + k * 41) x.v.cells) (by kernel_rfl) ?_ (fun hHeld => ?_)
              focus (exact ⟨range_keep HVR.out bup, hatB HG13 bup, hatB HG19 bup, HXG.out _ (HB.out.trans (Below.mono bup HB.out.size))⟩)
              refine tk 0 (oi := ⟨some 144, _, _, _, _, _⟩) (v := ?_) rfl (by kernel_rfl) (.inl ⟨by rfl, ?_⟩) hHeld ?_; rotate_left; focus (intro w hSw; (try dsimp only at hSw); go_simp; try with_reducible rfl)
              simp only [PT]
              refine tk 1 (oi := ⟨some 145, _, _, _, _, _⟩) (v := ?_) rfl (by kernel_rfl) (.inl ⟨by rfl, ?_⟩) hHeld ?_; rotate_left; focus (intro w hSw; (try dsimp only at hSw); go_simp; try with_reducible rfl)
              simp only [PT]
              first | (refine tk 2 (oi := ⟨some 146, _, _, _, _, _⟩) (v := undef) rfl (by kernel_rfl) (.inr ⟨by rfl, rfl⟩) hHeld ?_) | (refine tk 2 (oi := ⟨some 146, _, _, _, _, _⟩) (v := ?_) rfl (by kernel_rfl) (.inl ⟨by rfl, ?_⟩) hHeld ?_; rotate_left; focus (intro w hSw; (try dsimp only at hSw); go_simp; try with_reducible rfl))
              simp only [PT]
              first | (refine tk 3 (oi := ⟨some 147, _, _, _, _, _⟩) (v := undef) rfl (by kernel_rfl) (.inr ⟨by rfl, rfl⟩) hHeld ?_) | (refine tk 3 (oi := ⟨some 147, _, _, _, _, _⟩) (v := ?_) rfl (by kernel_rfl) (.inl ⟨by rfl, ?_⟩) hHeld ?_; rotate_left; focus (intro w hSw; (try dsimp only at hSw); go_simp; try with_reducible rfl))
              simp only [PT]
              first | (refine tk 4 (oi := ⟨some 148, _, _, _, _, _⟩) (v := undef) rfl (by kernel_rfl) (.inr ⟨by rfl, rfl⟩) hHeld ?_) | (refine tk 4 (oi := ⟨some 148, _, _, _, _, _⟩) (v := ?_) rfl (by kernel_rfl) (.inl ⟨by rfl, ?_⟩) hHeld ?_; rotate_left; focus (intro w hSw; (try dsimp only at hSw); go_simp; try with_reducible rfl))
              simp only [PT]
              first | (refine tk 5 (oi := ⟨some 149, _, _, _, _, _⟩) (v := undef) rfl (by kernel_rfl) (.inr ⟨by rfl, rfl⟩) hHeld ?_) | (refine tk 5 (oi := ⟨some 149, _, _, _, _, _⟩) (v := ?_) rfl (by kernel_rfl) (.inl ⟨by rfl, ?_⟩) hHeld ?_; rotate_left; focus (intro w hSw; (try dsimp only at hSw); go_simp; try with_reducible rfl))
              simp only [PT]
              first | (refine tk 6 (oi := ⟨some 150, _, _, _, _, _⟩) (v := undef) rfl (by kernel_rfl) (.inr ⟨by rfl, rfl⟩) hHeld ?_) | (refine tk 6 (oi := ⟨some 150, _, _, _, _, _⟩) (v := ?_) rfl (by kernel_rfl) (.inl ⟨by rfl, ?_⟩) hHeld ?_; rotate_left; focus (intro w hSw; (try dsimp only at hSw); go_simp; try with_reducible rfl))
              simp only [PT]
              first | (refine tk 7 (oi := ⟨some 151, _, _, _, _, _⟩) (v := undef) rfl (by kernel_rfl) (.inr ⟨by rfl, rfl⟩) hHeld ?_) | (refine tk 7 (oi := ⟨some 151, _, _, _, _, _⟩) (v := ?_) rfl (by kernel_rfl) (.inl ⟨by rfl, ?_⟩) hHeld ?_; rotate_left; focus (intro w hSw; (try dsimp only at hSw); go_simp; try with_reducible rfl))
              simp only [PT]
              first | (refine tk 8 (oi := ⟨some 152, _, _, _, _, _⟩) (v := undef) rfl (by kernel_rfl) (.inr ⟨by rfl, rfl⟩) hHeld ?_) | (refine tk 8 (oi := ⟨some 152, _, _, _, _, _⟩) (v := ?_) rfl (by kernel_rfl) (.inl ⟨by rfl, ?_⟩) hHeld ?_; rotate_left; focus (intro w hSw; (try dsimp only at hSw); go_simp; try with_reducible rfl))
              simp only [PT]
              first | (refine tk 9 (oi := ⟨some 153, _, _, _, _, _⟩) (v := undef) rfl (by kernel_rfl) (.inr ⟨by rfl, rfl⟩) hHeld ?_) | (refine tk 9 (oi := ⟨some 153, _, _, _, _, _⟩) (v := ?_) rfl (by kernel_rfl) (.inl ⟨by rfl, ?_⟩) hHeld ?_; rotate_left; focus (intro w hSw; (try dsimp only at hSw); go_simp; try with_reducible rfl))
              simp only [PT]
              refine tk 10 (oi := ⟨some 154, _, _, _, _, _⟩) (v := ?_) rfl (by kernel_rfl) (.inl ⟨by rfl, ?_⟩) hHeld ?_; rotate_left; focus (intro w hSw; (try dsimp only at hSw); go_simp; try with_reducible rfl)
              simp only [PT]
              refine tk 11 (oi := ⟨some 21, _, _, _, _, _⟩) (v := ?_) rfl (by kernel_rfl) (.inl ⟨by rfl, ?_⟩) hHeld ?_; rotate_left; focus (intro w hSw; (try dsimp only at hSw); go_simp; try with_reducible rfl)
              simp only [PT]
              refine wpAnyH_done (by kernel_rfl) ?_ _
              go_wp2_with fail
              refine wp_region_held_drew (S := fun u__ => u__.rangeAt bw (offw + m * 41) v.v.cells ∧ u__.heap[g13]? = some (.cells gone.v.cells.toArray 28 (0, 0)) ∧ u__.heap[g19]? = some (.cells v.v.cells.toArray 28 (0, 0)) ∧ u__.rangeAt b (off + k * 41) x.v.cells) (by kernel_rfl) ?_ (fun hHeld => ?_)
              focus (exact ⟨range_keep HVR.out bup, hatB HG13 bup, hatB HG19 bup, HXG.out _ (HB.out.trans (Below.mono bup HB.out.size))⟩)
              refine tk 0 (oi := ⟨some 155, _, _, _, _, _⟩) (v := ?_) rfl (by kernel_rfl) (.inl ⟨by rfl, ?_⟩) hHeld ?_; rotate_left; focus (intro w hSw; (try dsimp only at hSw); go_simp; try with_reducible rfl)
              simp only [PT]
              refine tk 1 (oi := ⟨some 156, _, _, _, _, _⟩) (v := ?_) rfl (by kernel_rfl) (.inl ⟨by rfl, ?_⟩) hHeld ?_; rotate_left; focus (intro w hSw; (try dsimp only at hSw); go_simp; try with_reducible rfl)
              simp only [PT]
              refine tk 2 (oi := ⟨some 157, _, _, _, _, _⟩) (v := ?_) rfl (by kernel_rfl) (.inl ⟨by rfl, ?_⟩) hHeld ?_; rotate_left; focus (intro w hSw; (try dsimp only at hSw); go_simp; try with_reducible rfl)
              simp only [PT]
              refine tk 3 (oi := ⟨some 158, _, _, _, _, _⟩) (v := ?_) rfl (by kernel_rfl) (.inl ⟨by rfl, ?_⟩) hHeld ?_; rotate_left; focus (intro w hSw; (try dsimp only at hSw); go_simp; try with_reducible rfl)
              simp only [PT]
              first | (refine tk 4 (oi := ⟨some 159, _, _, _, _, _⟩) (v := undef) rfl (by kernel_rfl) (.inr ⟨by rfl, rfl⟩) hHeld ?_) | (refine tk 4 (oi := ⟨some 159, _, _, _, _, _⟩) (v := ?_) rfl (by kernel_rfl) (.inl ⟨by rfl, ?_⟩) hHeld ?_; rotate_left; focus (intro w hSw; (try dsimp only at hSw); go_simp; try with_reducible rfl))
              simp only [PT]
              first | (refine tk 5 (oi := ⟨some 160, _, _, _, _, _⟩) (v := undef) rfl (by kernel_rfl) (.inr ⟨by rfl, rfl⟩) hHeld ?_) | (refine tk 5 (oi := ⟨some 160, _, _, _, _, _⟩) (v := ?_) rfl (by kernel_rfl) (.inl ⟨by rfl, ?_⟩) hHeld ?_; rotate_left; focus (intro w hSw; (try dsimp only at hSw); go_simp; try with_reducible rfl))
              simp only [PT]
              first | (refine tk 6 (oi := ⟨some 161, _, _, _, _, _⟩) (v := undef) rfl (by kernel_rfl) (.inr ⟨by rfl, rfl⟩) hHeld ?_) | (refine tk 6 (oi := ⟨some 161, _, _, _, _, _⟩) (v := ?_) rfl (by kernel_rfl) (.inl ⟨by rfl, ?_⟩) hHeld ?_; rotate_left; focus (intro w hSw; (try dsimp only at hSw); go_simp; try with_reducible rfl))
              simp only [PT]
              first | (refine tk 7 (oi := ⟨some 162, _, _, _, _, _⟩) (v := undef) rfl (by kernel_rfl) (.inr ⟨by rfl, rfl⟩) hHeld ?_) | (refine tk 7 (oi := ⟨some 162, _, _, _, _, _⟩) (v := ?_) rfl (by kernel_rfl) (.inl ⟨by rfl, ?_⟩) hHeld ?_; rotate_left; focus (intro w hSw; (try dsimp only at hSw); go_simp; try with_reducible rfl))
              simp only [PT]
              first | (refine tk 8 (oi := ⟨some 163, _, _, _, _, _⟩) (v := undef) rfl (by kernel_rfl) (.inr ⟨by rfl, rfl⟩) hHeld ?_) | (refine tk 8 (oi := ⟨some 163, _, _, _, _, _⟩) (v := ?_) rfl (by kernel_rfl) (.inl ⟨by rfl, ?_⟩) hHeld ?_; rotate_left; focus (intro w hSw; (try dsimp only at hSw); go_simp; try with_reducible rfl))
              simp only [PT]
              first | (refine tk 9 (oi := ⟨some 164, _, _, _, _, _⟩) (v := undef) rfl (by kernel_rfl) (.inr ⟨by rfl, rfl⟩) hHeld ?_) | (refine tk 9 (oi := ⟨some 164, _, _, _, _, _⟩) (v := ?_) rfl (by kernel_rfl) (.inl ⟨by rfl, ?_⟩) hHeld ?_; rotate_left; focus (intro w hSw; (try dsimp only at hSw); go_simp; try with_reducible rfl))
              simp only [PT]
              first | (refine tk 10 (oi := ⟨some 165, _, _, _, _, _⟩) (v := undef) rfl (by kernel_rfl) (.inr ⟨by rfl, rfl⟩) hHeld ?_) | (refine tk 10 (oi := ⟨some 165, _, _, _, _, _⟩) (v := ?_) rfl (by kernel_rfl) (.inl ⟨by rfl, ?_⟩) hHeld ?_; rotate_left; focus (intro w hSw; (try dsimp only at hSw); go_simp; try with_reducible rfl))
              simp only [PT]
              refine wpAnyH_ready (rs := [11]) (by kernel_rfl) (by simp) ?_
              refine (AllReadyH.cons (o := ⟨some 166, _, _, _, _, _⟩) rfl (fun K hK => ?_) AllReadyH.nil)
              (go_simp)
              refine hK.out _ _ ?_ (fun hHeld => ?_)
              focus (exact ⟨range_keep HVR.out bup, hatB HG13 bup, hatB HG19 bup, HXG.out _ (HB.out.trans (Below.mono bup HB.out.size))⟩)
              clear hK K
              try simp only [PT]
              first | (refine tk 12 (oi := ⟨some 167, _, _, _, _, _⟩) (v := undef) rfl (by kernel_rfl) (.inr ⟨by rfl, rfl⟩) hHeld ?_) | (refine tk 12 (oi := ⟨some 167, _, _, _, _, _⟩) (v := ?_) rfl (by kernel_rfl) (.inl ⟨by rfl, ?_⟩) hHeld ?_; rotate_left; focus (intro w hSw; (try dsimp only at hSw); go_simp; try with_reducible rfl))
              simp only [PT]
              refine tk 13 (oi := ⟨some 168, _, _, _, _, _⟩) (v := ?_) rfl (by kernel_rfl) (.inl ⟨by rfl, ?_⟩) hHeld ?_; rotate_left; focus (intro w hSw; (try dsimp only at hSw); go_simp; try with_reducible rfl)
              simp only [PT]
              refine tk 14 (oi := ⟨some 169, _, _, _, _, _⟩) (v := ?_) rfl (by kernel_rfl) (.inl ⟨by rfl, ?_⟩) hHeld ?_; rotate_left; focus (intro w hSw; (try dsimp only at hSw); go_simp; try with_reducible rfl)
              simp only [PT]
              first | (refine tk 15 (oi := ⟨some 170, _, _, _, _, _⟩) (v := undef) rfl (by kernel_rfl) (.inr ⟨by rfl, rfl⟩) hHeld ?_) | (refine tk 15 (oi := ⟨some 170, _, _, _, _, _⟩) (v := ?_) rfl (by kernel_rfl) (.inl ⟨by rfl, ?_⟩) hHeld ?_; rotate_left; focus (intro w hSw; (try dsimp only at hSw); go_simp; try with_reducible rfl))
              simp only [PT]
              first | (refine tk 16 (oi := ⟨some 171, _, _, _, _, _⟩) (v := undef) rfl (by kernel_rfl) (.inr ⟨by rfl, rfl⟩) hHeld ?_) | (refine tk 16 (oi := ⟨some 171, _, _, _, _, _⟩) (v := ?_) rfl (by kernel_rfl) (.inl ⟨by rfl, ?_⟩) hHeld ?_; rotate_left; focus (intro w hSw; (try dsimp only at hSw); go_simp; try with_reducible rfl))
              simp only [PT]
              first | (refine tk 17 (oi := ⟨some 172, _, _, _, _, _⟩) (v := undef) rfl (by kernel_rfl) (.inr ⟨by rfl, rfl⟩) hHeld ?_) | (refine' tk 17 (oi := ⟨some 172, _, _, _, _, _⟩) (v := _) rfl (by kernel_rfl) (yieldsIf_load_mid (by rfl) _ _ rfl _ _ rfl (v.v.cells) _ (fun _ h => range_block h.2.2.1) (Try.underlying28) rfl (one_size v)) hHeld ?_)
              simp only [PT]
              first | (refine tk 18 (oi := ⟨some 173, _, _, _, _, _⟩) (v := undef) rfl (by kernel_rfl) (.inr ⟨by rfl, rfl⟩) hHeld ?_) | (refine tk 18 (oi := ⟨some 173, _, _, _, _, _⟩) (v := ?_) rfl (by kernel_rfl) (.inl ⟨by rfl, ?_⟩) hHeld ?_; rotate_left; focus (intro w hSw; (try dsimp only at hSw); go_simp; try with_reducible rfl))
              simp only [PT]
              first | (refine tk 19 (oi := ⟨some 174, _, _, _, _, _⟩) (v := undef) rfl (by kernel_rfl) (.inr ⟨by rfl, rfl⟩) hHeld ?_) | (refine tk 19 (oi := ⟨some 174, _, _, _, _, _⟩) (v := ?_) rfl (by kernel_rfl) (.inl ⟨by rfl, ?_⟩) hHeld ?_; rotate_left; focus (intro w hSw; (try dsimp only at hSw); go_simp; try with_reducible rfl))
              simp only [PT]
              first | (refine tk 20 (oi := ⟨some 175, _, _, _, _, _⟩) (v := undef) rfl (by kernel_rfl) (.inr ⟨by rfl, rfl⟩) hHeld ?_) | (refine tk 20 (oi := ⟨some 175, _, _, _, _, _⟩) (v := ?_) rfl (by kernel_rfl) (.inl ⟨by rfl, ?_⟩) hHeld ?_; rotate_left; focus (intro w hSw; (try dsimp only at hSw); go_simp; try with_reducible rfl))
              simp only [PT]
              first | (refine tk 21 (oi := ⟨some 176, _, _, _, _, _⟩) (v := undef) rfl (by kernel_rfl) (.inr ⟨by rfl, rfl⟩) hHeld ?_) | (refine' tk 21 (oi := ⟨some 176, _, _, _, _, _⟩) (v := _) rfl (by kernel_rfl) (yieldsIf_load_mid (by rfl) _ _ rfl _ _ rfl (v.v.cells) _ (fun _ h => h.1) (Try.underlying28) rfl (one_size v)) hHeld ?_)
              simp only [PT]
              first | (refine tk 22 (oi := ⟨some 177, _, _, _, _, _⟩) (v := undef) rfl (by kernel_rfl) (.inr ⟨by rfl, rfl⟩) hHeld ?_) | (refine' tk 22 (oi := ⟨some 177, _, _, _, _, _⟩) (v := _) rfl (by kernel_rfl) (yields_neqF v v false (by simp) (by rfl) (.tmp 172) (.tmp 176) rfl rfl rfl) hHeld ?_)
              simp only [PT]
              first | (refine tk 23 (oi := ⟨some 178, _, _, _, _, _⟩) (v := undef) rfl (by kernel_rfl) (.inr ⟨by rfl, rfl⟩) hHeld ?_) | (refine tk 23 (oi := ⟨some 178, _, _, _, _, _⟩) (v := ?_) rfl (by kernel_rfl) (.inl ⟨by rfl, ?_⟩) hHeld ?_; rotate_left; focus (intro w hSw; (try dsimp only at hSw); go_simp; try with_reducible rfl))
              simp only [PT]
              first | (refine tk 24 (oi := ⟨some 179, _, _, _, _, _⟩) (v := undef) rfl (by kernel_rfl) (.inr ⟨by rfl, rfl⟩) hHeld ?_) | (refine tk 24 (oi := ⟨some 179, _, _, _, _, _⟩) (v := ?_) rfl (by kernel_rfl) (.inl ⟨by rfl, ?_⟩) hHeld ?_; rotate_left; focus (intro w hSw; (try dsimp only at hSw); go_simp; try with_reducible rfl))
              simp only [PT]
              first | (refine tk 25 (oi := ⟨some 180, _, _, _, _, _⟩) (v := undef) rfl (by kernel_rfl) (.inr ⟨by rfl, rfl⟩) hHeld ?_) | (refine tk 25 (oi := ⟨some 180, _, _, _, _, _⟩) (v := ?_) rfl (by kernel_rfl) (.inl ⟨by rfl, ?_⟩) hHeld ?_; rotate_left; focus (intro w hSw; (try dsimp only at hSw); go_simp; try with_reducible rfl))
              simp only [PT]
              first | (refine tk 26 (oi := ⟨some 181, _, _, _, _, _⟩) (v := undef) rfl (by kernel_rfl) (.inr ⟨by rfl, rfl⟩) hHeld ?_) | (refine tk 26 (oi := ⟨some 181, _, _, _, _, _⟩) (v := ?_) rfl (by kernel_rfl) (.inl ⟨by rfl, ?_⟩) hHeld ?_; rotate_left; focus (intro w hSw; (try dsimp only at hSw); go_simp; try with_reducible rfl))
              simp only [PT]
              first | (refine tk 27 (oi := ⟨some 182, _, _, _, _, _⟩) (v := undef) rfl (by kernel_rfl) (.inr ⟨by rfl, rfl⟩) hHeld ?_) | (refine tk 27 (oi := ⟨some 182, _, _, _, _, _⟩) (v := ?_) rfl (by kernel_rfl) (.inl ⟨by rfl, ?_⟩) hHeld ?_; rotate_left; focus (intro w hSw; (try dsimp only at hSw); go_simp; try with_reducible rfl))
              simp only [PT]
              first | (refine tk 28 (oi := ⟨some 183, _, _, _, _, _⟩) (v := undef) rfl (by kernel_rfl) (.inr ⟨by rfl, rfl⟩) hHeld ?_) | (refine tk 28 (oi := ⟨some 183, _, _, _, _, _⟩) (v := ?_) rfl (by kernel_rfl) (.inl ⟨by rfl, ?_⟩) hHeld ?_; rotate_left; focus (intro w hSw; (try dsimp only at hSw); go_simp; try with_reducible rfl))
              simp only [PT]
              first | (refine tk 29 (oi := ⟨some 184, _, _, _, _, _⟩) (v := undef) rfl (by kernel_rfl) (.inr ⟨by rfl, rfl⟩) hHeld ?_) | (refine tk 29 (oi := ⟨some 184, _, _, _, _, _⟩) (v := ?_) rfl (by kernel_rfl) (.inl ⟨by rfl, ?_⟩) hHeld ?_; rotate_left; focus (intro w hSw; (try dsimp only at hSw); go_simp; try with_reducible rfl))
              simp only [PT]
              first | (refine tk 30 (oi := ⟨some 185, _, _, _, _, _⟩) (v := undef) rfl (by kernel_rfl) (.inr ⟨by rfl, rfl⟩) hHeld ?_) | (refine tk 30 (oi := ⟨some 185, _, _, _, _, _⟩) (v := ?_) rfl (by kernel_rfl) (.inl ⟨by rfl, ?_⟩) hHeld ?_; rotate_left; focus (intro w hSw; (try dsimp only at hSw); go_simp; try with_reducible rfl))
              simp only [PT]
              first | (refine tk 31 (oi := ⟨some 186, _, _, _, _, _⟩) (v := undef) rfl (by kernel_rfl) (.inr ⟨by rfl, rfl⟩) hHeld ?_) | (refine tk 31 (oi := ⟨some 186, _, _, _, _, _⟩) (v := ?_) rfl (by kernel_rfl) (.inl ⟨by rfl, ?_⟩) hHeld ?_; rotate_left; focus (intro w hSw; (try dsimp only at hSw); go_simp; try with_reducible rfl))
              simp only [PT]
              first | (refine tk 32 (oi := ⟨some 187, _, _, _, _, _⟩) (v := undef) rfl (by kernel_rfl) (.inr ⟨by rfl, rfl⟩) hHeld ?_) | (refine tk 32 (oi := ⟨some 187, _, _, _, _, _⟩) (v := ?_) rfl (by kernel_rfl) (.inl ⟨by rfl, ?_⟩) hHeld ?_; rotate_left; focus (intro w hSw; (try dsimp only at hSw); go_simp; try with_reducible rfl))
              simp only [PT]
              first | (refine tk 33 (oi := ⟨some 188, _, _, _, _, _⟩) (v := undef) rfl (by kernel_rfl) (.inr ⟨by rfl, rfl⟩) hHeld ?_) | (refine tk 33 (oi := ⟨some 188, _, _, _, _, _⟩) (v := ?_) rfl (by kernel_rfl) (.inl ⟨by rfl, ?_⟩) hHeld ?_; rotate_left; focus (intro w hSw; (try dsimp only at hSw); go_simp; try with_reducible rfl))
              simp only [PT]
              first | (refine tk 34 (oi := ⟨some 189, _, _, _, _, _⟩) (v := undef) rfl (by kernel_rfl) (.inr ⟨by rfl, rfl⟩) hHeld ?_) | (refine tk 34 (oi := ⟨some 189, _, _, _, _, _⟩) (v := ?_) rfl (by kernel_rfl) (.inl ⟨by rfl, ?_⟩) hHeld ?_; rotate_left; focus (intro w hSw; (try dsimp only at hSw); go_simp; try with_reducible rfl))
              simp only [PT]
              first | (refine tk 35 (oi := ⟨some 190, _, _, _, _, _⟩) (v := undef) rfl (by kernel_rfl) (.inr ⟨by rfl, rfl⟩) hHeld ?_) | (refine tk 35 (oi := ⟨some 190, _, _, _, _, _⟩) (v := ?_) rfl (by kernel_rfl) (.inl ⟨by rfl, ?_⟩) hHeld ?_; rotate_left; focus (intro w hSw; (try dsimp only at hSw); go_simp; try with_reducible rfl))
              simp only [PT]
              first | (refine tk 36 (oi := ⟨some 191, _, _, _, _, _⟩) (v := undef) rfl (by kernel_rfl) (.inr ⟨by rfl, rfl⟩) hHeld ?_) | (refine tk 36 (oi := ⟨some 191, _, _, _, _, _⟩) (v := ?_) rfl (by kernel_rfl) (.inl ⟨by rfl, ?_⟩) hHeld ?_; rotate_left; focus (intro w hSw; (try dsimp only at hSw); go_simp; try with_reducible rfl))
              simp only [PT]
              first | (refine tk 37 (oi := ⟨some 192, _, _, _, _, _⟩) (v := undef) rfl (by kernel_rfl) (.inr ⟨by rfl, rfl⟩) hHeld ?_) | (refine tk 37 (oi := ⟨some 192, _, _, _, _, _⟩) (v := ?_) rfl (by kernel_rfl) (.inl ⟨by rfl, ?_⟩) hHeld ?_; rotate_left; focus (intro w hSw; (try dsimp only at hSw); go_simp; try with_reducible rfl))
              simp only [PT]
              first | (refine tk 38 (oi := ⟨some 193, _, _, _, _, _⟩) (v := undef) rfl (by kernel_rfl) (.inr ⟨by rfl, rfl⟩) hHeld ?_) | (refine tk 38 (oi := ⟨some 193, _, _, _, _, _⟩) (v := ?_) rfl (by kernel_rfl) (.inl ⟨by rfl, ?_⟩) hHeld ?_; rotate_left; focus (intro w hSw; (try dsimp only at hSw); go_simp; try with_reducible rfl))
              simp only [PT]
              first | (refine tk 39 (oi := ⟨some 194, _, _, _, _, _⟩) (v := undef) rfl (by kernel_rfl) (.inr ⟨by rfl, rfl⟩) hHeld ?_) | (refine tk 39 (oi := ⟨some 194, _, _, _, _, _⟩) (v := ?_) rfl (by kernel_rfl) (.inl ⟨by rfl, ?_⟩) hHeld ?_; rotate_left; focus (intro w hSw; (try dsimp only at hSw); go_simp; try with_reducible rfl))
              simp only [PT]
              first | (refine tk 40 (oi := ⟨some 195, _, _, _, _, _⟩) (v := undef) rfl (by kernel_rfl) (.inr ⟨by rfl, rfl⟩) hHeld ?_) | (refine tk 40 (oi := ⟨some 195, _, _, _, _, _⟩) (v := ?_) rfl (by kernel_rfl) (.inl ⟨by rfl, ?_⟩) hHeld ?_; rotate_left; focus (intro w hSw; (try dsimp only at hSw); go_simp; try with_reducible rfl))
              simp only [PT]
              refine tk 41 (oi := ⟨some 196, _, _, _, _, _⟩) (v := ?_) rfl (by kernel_rfl) (.inl ⟨by rfl, ?_⟩) hHeld ?_; rotate_left; focus (intro w hSw; (try dsimp only at hSw); go_simp; try with_reducible rfl)
              simp only [PT]
              refine wpAnyH_done (by kernel_rfl) ?_ _
              go_wp2_with fail
              go_roundw
              case rel => exact ⟨m + 1, by omega, by go_num, Lib.hid (HB.out.trans (Below.mono bup HB.out.size)), Lib.hid (HR.out.keep bup), Lib.hid (HWS.out.below bup), Lib.hid (hatB HG13 bup)⟩
              case measure => first | (simp [intOf]; done) | (simp [intOf]; omega)
            · as_aux_lemma =>
              have HLK := Lib.hid hlk
              clear hlk
              have HNE := Lib.hid hne
              have HKE := Lib.hid hke
              clear hne hke
              go_wp2_with (first
                | ((with_reducible refine sl 140 ?_); go_must (refine wpL_load rfl 26 (.tmp 139) rfl bw (offw + m * 41) rfl v.v.key.cells _ (range_key HVR.out) Try.underlying26 rfl (tup_len v) ?_); simp only [PT])
                | (go_at_call 20; (with_reducible show Calls _ _ #[_, .agg v.v.key.cells.toArray] _ _); go_must (refine (get_yes p q kb _ _ v x HLK.out _ (HR.out.keep bup)).mono ?_); rintro e w5 ⟨rfl, hb__⟩; have hE__ := cU HB bup hb__; replace HB := ck HB hE__; (try replace HR := ck HR hE__); (try replace HWS := ck HWS hE__); (try replace HG13 := ck HG13 hE__); (try replace HVR := ck HVR hE__); clear hE__ hb__)
                | ((with_reducible refine sl 19 ?_); go_must (refine wpL_newG rfl rfl 28 rfl (.tmp 19) (.tmp 142) rfl (x.v.cells).toArray zeroF.cells.toArray (new_info (by first | exact Flo.length zeroF_ok | exact FloW.length _ | exact LEN_19)) (new_size (by first | exact Flo.length zeroF_ok | exact FloW.length _ | exact LEN_19)) (flo_one _) (fun _ => rfl) (fun _ => rfl) ?_); intro wn19 g19 le_19 hg__ hb__; have hE__ := cU HB bup hb__; replace HB := ck HB hE__; (try replace HR := ck HR hE__); (try replace HWS := ck HWS hE__); (try replace HG13 := ck HG13 hE__); (try replace HVR := ck HVR hE__); clear hE__ hb__; have HG19 := Lib.hid hg__; clear hg__; simp only [PT]))
              refine wp_region_held_drew (S := fun u__ => u__.rangeAt bw (offw + m * 41) v.v.cells ∧ u__.heap[g13]? = some (.cells gone.v.cells.toArray 28 (0, 0)) ∧ u__.heap[g19]? = some (.cells x.v.cells.toArray 28 (0, 0)) ∧ u__.rangeAt b (off + k * 41) x.v.cells) (by kernel_rfl) ?_ (fun hHeld => ?_)
              focus (exact ⟨range_keep HVR.out bup, hatB HG13 bup, hatB HG19 bup, HXG.out _ (HB.out.trans (Below.mono bup HB.out.size))⟩)
              refine tk 0 (oi := ⟨some 144, _, _, _, _, _⟩) (v := ?_) rfl (by kernel_rfl) (.inl ⟨by rfl, ?_⟩) hHeld ?_; rotate_left; focus (intro w hSw; (try dsimp only at hSw); go_simp; try with_reducible rfl)
              simp only [PT]
              refine tk 1 (oi := ⟨some 145, _, _, _, _, _⟩) (v := ?_) rfl (by kernel_rfl) (.inl ⟨by rfl, ?_⟩) hHeld ?_; rotate_left; focus (intro w hSw; (try dsimp only at hSw); go_simp; try with_reducible rfl)
              simp only [PT]
              first | (refine tk 2 (oi := ⟨some 146, _, _, _, _, _⟩) (v := undef) rfl (by kernel_rfl) (.inr ⟨by rfl, rfl⟩) hHeld ?_) | (refine tk 2 (oi := ⟨some 146, _, _, _, _, _⟩) (v := ?_) rfl (by kernel_rfl) (.inl ⟨by rfl, ?_⟩) hHeld ?_; rotate_left; focus (intro w hSw; (try dsimp only at hSw); go_simp; try with_reducible rfl))
              simp only [PT]
              first | (refine tk 3 (oi := ⟨some 147, _, _, _, _, _⟩) (v := undef) rfl (by kernel_rfl) (.inr ⟨by rfl, rfl⟩) hHeld ?_) | (refine tk 3 (oi := ⟨some 147, _, _, _, _, _⟩) (v := ?_) rfl (by kernel_rfl) (.inl ⟨by rfl, ?_⟩) hHeld ?_; rotate_left; focus (intro w hSw; (try dsimp only at hSw); go_simp; try with_reducible rfl))
              simp only [PT]
              first | (refine tk 4 (oi := ⟨some 148, _, _, _, _, _⟩) (v := undef) rfl (by kernel_rfl) (.inr ⟨by rfl, rfl⟩) hHeld ?_) | (refine tk 4 (oi := ⟨some 148, _, _, _, _, _⟩) (v := ?_) rfl (by kernel_rfl) (.inl ⟨by rfl, ?_⟩) hHeld ?_; rotate_left; focus (intro w hSw; (try dsimp only at hSw); go_simp; try with_reducible rfl))
              simp only [PT]
              first | (refine tk 5 (oi := ⟨some 149, _, _, _, _, _⟩) (v := undef) rfl (by kernel_rfl) (.inr ⟨by rfl, rfl⟩) hHeld ?_) | (refine tk 5 (oi := ⟨some 149, _, _, _, _, _⟩) (v := ?_) rfl (by kernel_rfl) (.inl ⟨by rfl, ?_⟩) hHeld ?_; rotate_left; focus (intro w hSw; (try dsimp only at hSw); go_simp; try with_reducible rfl))
              simp only [PT]
              first | (refine tk 6 (oi := ⟨some 150, _, _, _, _, _⟩) (v := undef) rfl (by kernel_rfl) (.inr ⟨by rfl, rfl⟩) hHeld ?_) | (refine tk 6 (oi := ⟨some 150, _, _, _, _, _⟩) (v := ?_) rfl (by kernel_rfl) (.inl ⟨by rfl, ?_⟩) hHeld ?_; rotate_left; focus (intro w hSw; (try dsimp only at hSw); go_simp; try with_reducible rfl))
              simp only [PT]
              first | (refine tk 7 (oi := ⟨some 151, _, _, _, _, _⟩) (v := undef) rfl (by kernel_rfl) (.inr ⟨by rfl, rfl⟩) hHeld ?_) | (refine tk 7 (oi := ⟨some 151, _, _, _, _, _⟩) (v := ?_) rfl (by kernel_rfl) (.inl ⟨by rfl, ?_⟩) hHeld ?_; rotate_left; focus (intro w hSw; (try dsimp only at hSw); go_simp; try with_reducible rfl))
              simp only [PT]
              first | (refine tk 8 (oi := ⟨some 152, _, _, _, _, _⟩) (v := undef) rfl (by kernel_rfl) (.inr ⟨by rfl, rfl⟩) hHeld ?_) | (refine tk 8 (oi := ⟨some 152, _, _, _, _, _⟩) (v := ?_) rfl (by kernel_rfl) (.inl ⟨by rfl, ?_⟩) hHeld ?_; rotate_left; focus (intro w hSw; (try dsimp only at hSw); go_simp; try with_reducible rfl))
              simp only [PT]
              first | (refine tk 9 (oi := ⟨some 153, _, _, _, _, _⟩) (v := undef) rfl (by kernel_rfl) (.inr ⟨by rfl, rfl⟩) hHeld ?_) | (refine tk 9 (oi := ⟨some 153, _, _, _, _, _⟩) (v := ?_) rfl (by kernel_rfl) (.inl ⟨by rfl, ?_⟩) hHeld ?_; rotate_left; focus (intro w hSw; (try dsimp only at hSw); go_simp; try with_reducible rfl))
              simp only [PT]
              refine tk 10 (oi := ⟨some 154, _, _, _, _, _⟩) (v := ?_) rfl (by kernel_rfl) (.inl ⟨by rfl, ?_⟩) hHeld ?_; rotate_left; focus (intro w hSw; (try dsimp only at hSw); go_simp; try with_reducible rfl)
              simp only [PT]
              refine tk 11 (oi := ⟨some 21, _, _, _, _, _⟩) (v := ?_) rfl (by kernel_rfl) (.inl ⟨by rfl, ?_⟩) hHeld ?_; rotate_left; focus (intro w hSw; (try dsimp only at hSw); go_simp; try with_reducible rfl)
              simp only [PT]
              refine wpAnyH_done (by kernel_rfl) ?_ _
              go_wp2_with fail
              refine wp_region_held_drew (S := fun u__ => u__.rangeAt bw (offw + m * 41) v.v.cells ∧ u__.heap[g13]? = some (.cells gone.v.cells.toArray 28 (0, 0)) ∧ u__.heap[g19]? = some (.cells x.v.cells.toArray 28 (0, 0)) ∧ u__.rangeAt b (off + k * 41) x.v.cells) (by kernel_rfl) ?_ (fun hHeld => ?_)
              focus (exact ⟨range_keep HVR.out bup, hatB HG13 bup, hatB HG19 bup, HXG.out _ (HB.out.trans (Below.mono bup HB.out.size))⟩)
              refine tk 0 (oi := ⟨some 155, _, _, _, _, _⟩) (v := ?_) rfl (by kernel_rfl) (.inl ⟨by rfl, ?_⟩) hHeld ?_; rotate_left; focus (intro w hSw; (try dsimp only at hSw); go_simp; try with_reducible rfl)
              simp only [PT]
              refine tk 1 (oi := ⟨some 156, _, _, _, _, _⟩) (v := ?_) rfl (by kernel_rfl) (.inl ⟨by rfl, ?_⟩) hHeld ?_; rotate_left; focus (intro w hSw; (try dsimp only at hSw); go_simp; try with_reducible rfl)
              simp only [PT]
              refine tk 2 (oi := ⟨some 157, _, _, _, _, _⟩) (v := ?_) rfl (by kernel_rfl) (.inl ⟨by rfl, ?_⟩) hHeld ?_; rotate_left; focus (intro w hSw; (try dsimp only at hSw); go_simp; try with_reducible rfl)
              simp only [PT]
              refine tk 3 (oi := ⟨some 158, _, _, _, _, _⟩) (v := ?_) rfl (by kernel_rfl) (.inl ⟨by rfl, ?_⟩) hHeld ?_; rotate_left; focus (intro w hSw; (try dsimp only at hSw); go_simp; try with_reducible rfl)
              simp only [PT]
              first | (refine tk 4 (oi := ⟨some 159, _, _, _, _, _⟩) (v := undef) rfl (by kernel_rfl) (.inr ⟨by rfl, rfl⟩) hHeld ?_) | (refine tk 4 (oi := ⟨some 159, _, _, _, _, _⟩) (v := ?_) rfl (by kernel_rfl) (.inl ⟨by rfl, ?_⟩) hHeld ?_; rotate_left; focus (intro w hSw; (try dsimp only at hSw); go_simp; try with_reducible rfl))
              simp only [PT]
              first | (refine tk 5 (oi := ⟨some 160, _, _, _, _, _⟩) (v := undef) rfl (by kernel_rfl) (.inr ⟨by rfl, rfl⟩) hHeld ?_) | (refine tk 5 (oi := ⟨some 160, _, _, _, _, _⟩) (v := ?_) rfl (by kernel_rfl) (.inl ⟨by rfl, ?_⟩) hHeld ?_; rotate_left; focus (intro w hSw; (try dsimp only at hSw); go_simp; try with_reducible rfl))
              simp only [PT]
              first | (refine tk 6 (oi := ⟨some 161, _, _, _, _, _⟩) (v := undef) rfl (by kernel_rfl) (.inr ⟨by rfl, rfl⟩) hHeld ?_) | (refine tk 6 (oi := ⟨some 161, _, _, _, _, _⟩) (v := ?_) rfl (by kernel_rfl) (.inl ⟨by rfl, ?_⟩) hHeld ?_; rotate_left; focus (intro w hSw; (try dsimp only at hSw); go_simp; try with_reducible rfl))
              simp only [PT]
              first | (refine tk 7 (oi := ⟨some 162, _, _, _, _, _⟩) (v := undef) rfl (by kernel_rfl) (.inr ⟨by rfl, rfl⟩) hHeld ?_) | (refine tk 7 (oi := ⟨some 162, _, _, _, _, _⟩) (v := ?_) rfl (by kernel_rfl) (.inl ⟨by rfl, ?_⟩) hHeld ?_; rotate_left; focus (intro w hSw; (try dsimp only at hSw); go_simp; try with_reducible rfl))
              simp only [PT]
              first | (refine tk 8 (oi := ⟨some 163, _, _, _, _, _⟩) (v := undef) rfl (by kernel_rfl) (.inr ⟨by rfl, rfl⟩) hHeld ?_) | (refine tk 8 (oi := ⟨some 163, _, _, _, _, _⟩) (v := ?_) rfl (by kernel_rfl) (.inl ⟨by rfl, ?_⟩) hHeld ?_; rotate_left; focus (intro w hSw; (try dsimp only at hSw); go_simp; try with_reducible rfl))
              simp only [PT]
              first | (refine tk 9 (oi := ⟨some 164, _, _, _, _, _⟩) (v := undef) rfl (by kernel_rfl) (.inr ⟨by rfl, rfl⟩) hHeld ?_) | (refine tk 9 (oi := ⟨some 164, _, _, _, _, _⟩) (v := ?_) rfl (by kernel_rfl) (.inl ⟨by rfl, ?_⟩) hHeld ?_; rotate_left; focus (intro w hSw; (try dsimp only at hSw); go_simp; try with_reducible rfl))
              simp only [PT]
              first | (refine tk 10 (oi := ⟨some 165, _, _, _, _, _⟩) (v := undef) rfl (by kernel_rfl) (.inr ⟨by rfl, rfl⟩) hHeld ?_) | (refine tk 10 (oi := ⟨some 165, _, _, _, _, _⟩) (v := ?_) rfl (by kernel_rfl) (.inl ⟨by rfl, ?_⟩) hHeld ?_; rotate_left; focus (intro w hSw; (try dsimp only at hSw); go_simp; try with_reducible rfl))
              simp only [PT]
              refine wpAnyH_ready (rs := [11]) (by kernel_rfl) (by simp) ?_
              refine (AllReadyH.cons (o := ⟨some 166, _, _, _, _, _⟩) rfl (fun K hK => ?_) AllReadyH.nil)
              (go_simp)
              refine hK.out _ _ ?_ (fun hHeld => ?_)
              focus (exact ⟨range_keep HVR.out bup, hatB HG13 bup, hatB HG19 bup, HXG.out _ (HB.out.trans (Below.mono bup HB.out.size))⟩)
              clear hK K
              try simp only [PT]
              first | (refine tk 12 (oi := ⟨some 167, _, _, _, _, _⟩) (v := undef) rfl (by kernel_rfl) (.inr ⟨by rfl, rfl⟩) hHeld ?_) | (refine tk 12 (oi := ⟨some 167, _, _, _, _, _⟩) (v := ?_) rfl (by kernel_rfl) (.inl ⟨by rfl, ?_⟩) hHeld ?_; rotate_left; focus (intro w hSw; (try dsimp only at hSw); go_simp; try with_reducible rfl))
              simp only [PT]
              refine tk 13 (oi := ⟨some 168, _, _, _, _, _⟩) (v := ?_) rfl (by kernel_rfl) (.inl ⟨by rfl, ?_⟩) hHeld ?_; rotate_left; focus (intro w hSw; (try dsimp only at hSw); go_simp; try with_reducible rfl)
              simp only [PT]
              refine tk 14 (oi := ⟨some 169, _, _, _, _, _⟩) (v := ?_) rfl (by kernel_rfl) (.inl ⟨by rfl, ?_⟩) hHeld ?_; rotate_left; focus (intro w hSw; (try dsimp only at hSw); go_simp; try with_reducible rfl)
              simp only [PT]
              first | (refine tk 15 (oi := ⟨some 170, _, _, _, _, _⟩) (v := undef) rfl (by kernel_rfl) (.inr ⟨by rfl, rfl⟩) hHeld ?_) | (refine tk 15 (oi := ⟨some 170, _, _, _, _, _⟩) (v := ?_) rfl (by kernel_rfl) (.inl ⟨by rfl, ?_⟩) hHeld ?_; rotate_left; focus (intro w hSw; (try dsimp only at hSw); go_simp; try with_reducible rfl))
              simp only [PT]
              first | (refine tk 16 (oi := ⟨some 171, _, _, _, _, _⟩) (v := undef) rfl (by kernel_rfl) (.inr ⟨by rfl, rfl⟩) hHeld ?_) | (refine tk 16 (oi := ⟨some 171, _, _, _, _, _⟩) (v := ?_) rfl (by kernel_rfl) (.inl ⟨by rfl, ?_⟩) hHeld ?_; rotate_left; focus (intro w hSw; (try dsimp only at hSw); go_simp; try with_reducible rfl))
              simp only [PT]
              first | (refine tk 17 (oi := ⟨some 172, _, _, _, _, _⟩) (v := undef) rfl (by kernel_rfl) (.inr ⟨by rfl, rfl⟩) hHeld ?_) | (refine' tk 17 (oi := ⟨some 172, _, _, _, _, _⟩) (v := _) rfl (by kernel_rfl) (yieldsIf_load_mid (by rfl) _ _ rfl _ _ rfl (x.v.cells) _ (fun _ h => range_block h.2.2.1) (Try.underlying28) rfl (one_size x)) hHeld ?_)
              simp only [PT]
              first | (refine tk 18 (oi := ⟨some 173, _, _, _, _, _⟩) (v := undef) rfl (by kernel_rfl) (.inr ⟨by rfl, rfl⟩) hHeld ?_) | (refine tk 18 (oi := ⟨some 173, _, _, _, _, _⟩) (v := ?_) rfl (by kernel_rfl) (.inl ⟨by rfl, ?_⟩) hHeld ?_; rotate_left; focus (intro w hSw; (try dsimp only at hSw); go_simp; try with_reducible rfl))
              simp only [PT]
              first | (refine tk 19 (oi := ⟨some 174, _, _, _, _, _⟩) (v := undef) rfl (by kernel_rfl) (.inr ⟨by rfl, rfl⟩) hHeld ?_) | (refine tk 19 (oi := ⟨some 174, _, _, _, _, _⟩) (v := ?_) rfl (by kernel_rfl) (.inl ⟨by rfl, ?_⟩) hHeld ?_; rotate_left; focus (intro w hSw; (try dsimp only at hSw); go_simp; try with_reducible rfl))
              simp only [PT]
              first | (refine tk 20 (oi := ⟨some 175, _, _, _, _, _⟩) (v := undef) rfl (by kernel_rfl) (.inr ⟨by rfl, rfl⟩) hHeld ?_) | (refine tk 20 (oi := ⟨some 175, _, _, _, _, _⟩) (v := ?_) rfl (by kernel_rfl) (.inl ⟨by rfl, ?_⟩) hHeld ?_; rotate_left; focus (intro w hSw; (try dsimp only at hSw); go_simp; try with_reducible rfl))
              simp only [PT]
              first | (refine tk 21 (oi := ⟨some 176, _, _, _, _, _⟩) (v := undef) rfl (by kernel_rfl) (.inr ⟨by rfl, rfl⟩) hHeld ?_) | (refine' tk 21 (oi := ⟨some 176, _, _, _, _, _⟩) (v := _) rfl (by kernel_rfl) (yieldsIf_load_mid (by rfl) _ _ rfl _ _ rfl (v.v.cells) _ (fun _ h => h.1) (Try.underlying28) rfl (one_size v)) hHeld ?_)
              simp only [PT]
              first | (refine tk 22 (oi := ⟨some 177, _, _, _, _, _⟩) (v := undef) rfl (by kernel_rfl) (.inr ⟨by rfl, rfl⟩) hHeld ?_) | (refine' tk 22 (oi := ⟨some 177, _, _, _, _, _⟩) (v := _) rfl (by kernel_rfl) (yields_neqF_ne x v HNE.out (by rfl) (.tmp 172) (.tmp 176) rfl rfl rfl) hHeld ?_)
              simp only [PT]
              first | (refine tk 23 (oi := ⟨some 178, _, _, _, _, _⟩) (v := undef) rfl (by kernel_rfl) (.inr ⟨by rfl, rfl⟩) hHeld ?_) | (refine tk 23 (oi := ⟨some 178, _, _, _, _, _⟩) (v := ?_) rfl (by kernel_rfl) (.inl ⟨by rfl, ?_⟩) hHeld ?_; rotate_left; focus (intro w hSw; (try dsimp only at hSw); go_simp; try with_reducible rfl))
              simp only [PT]
              first | (refine tk 24 (oi := ⟨some 179, _, _, _, _, _⟩) (v := undef) rfl (by kernel_rfl) (.inr ⟨by rfl, rfl⟩) hHeld ?_) | (refine tk 24 (oi := ⟨some 179, _, _, _, _, _⟩) (v := ?_) rfl (by kernel_rfl) (.inl ⟨by rfl, ?_⟩) hHeld ?_; rotate_left; focus (intro w hSw; (try dsimp only at hSw); go_simp; try with_reducible rfl))
              simp only [PT]
              first | (refine tk 25 (oi := ⟨some 180, _, _, _, _, _⟩) (v := undef) rfl (by kernel_rfl) (.inr ⟨by rfl, rfl⟩) hHeld ?_) | (refine tk 25 (oi := ⟨some 180, _, _, _, _, _⟩) (v := ?_) rfl (by kernel_rfl) (.inl ⟨by rfl, ?_⟩) hHeld ?_; rotate_left; focus (intro w hSw; (try dsimp only at hSw); go_simp; try with_reducible rfl))
              simp only [PT]
              first | (refine tk 26 (oi := ⟨some 181, _, _, _, _, _⟩) (v := undef) rfl (by kernel_rfl) (.inr ⟨by rfl, rfl⟩) hHeld ?_) | (refine tk 26 (oi := ⟨some 181, _, _, _, _, _⟩) (v := ?_) rfl (by kernel_rfl) (.inl ⟨by rfl, ?_⟩) hHeld ?_; rotate_left; focus (intro w hSw; (try dsimp only at hSw); go_simp; try with_reducible rfl))
              simp only [PT]
              first | (refine tk 27 (oi := ⟨some 182, _, _, _, _, _⟩) (v := undef) rfl (by kernel_rfl) (.inr ⟨by rfl, rfl⟩) hHeld ?_) | (refine tk 27 (oi := ⟨some 182, _, _, _, _, _⟩) (v := ?_) rfl (by kernel_rfl) (.inl ⟨by rfl, ?_⟩) hHeld ?_; rotate_left; focus (intro w hSw; (try dsimp only at hSw); go_simp; try with_reducible rfl))
              simp only [PT]
              first | (refine tk 28 (oi := ⟨some 183, _, _, _, _, _⟩) (v := undef) rfl (by kernel_rfl) (.inr ⟨by rfl, rfl⟩) hHeld ?_) | (refine tk 28 (oi := ⟨some 183, _, _, _, _, _⟩) (v := ?_) rfl (by kernel_rfl) (.inl ⟨by rfl, ?_⟩) hHeld ?_; rotate_left; focus (intro w hSw; (try dsimp only at hSw); go_simp; try with_reducible rfl))
              simp only [PT]
              first | (refine tk 29 (oi := ⟨some 184, _, _, _, _, _⟩) (v := undef) rfl (by kernel_rfl) (.inr ⟨by rfl, rfl⟩) hHeld ?_) | (refine' tk 29 (oi := ⟨some 184, _, _, _, _, _⟩) (v := _) rfl (by kernel_rfl) (yieldsIf_load_mid (by rfl) _ _ rfl _ _ rfl (v.v.key.cells) _ (fun _ h => range_key h.1) (Try.underlying26) rfl (tup_len v)) hHeld ?_)
              simp only [PT]
              first | (refine tk 30 (oi := ⟨some 185, _, _, _, _, _⟩) (v := undef) rfl (by kernel_rfl) (.inr ⟨by rfl, rfl⟩) hHeld ?_) | (refine tk 30 (oi := ⟨some 185, _, _, _, _, _⟩) (v := ?_) rfl (by kernel_rfl) (.inl ⟨by rfl, ?_⟩) hHeld ?_; rotate_left; focus (intro w hSw; (try dsimp only at hSw); go_simp; try with_reducible rfl))
              simp only [PT]
              first | (refine tk 31 (oi := ⟨some 186, _, _, _, _, _⟩) (v := undef) rfl (by kernel_rfl) (.inr ⟨by rfl, rfl⟩) hHeld ?_) | (refine tk 31 (oi := ⟨some 186, _, _, _, _, _⟩) (v := ?_) rfl (by kernel_rfl) (.inl ⟨by rfl, ?_⟩) hHeld ?_; rotate_left; focus (intro w hSw; (try dsimp only at hSw); go_simp; try with_reducible rfl))
              simp only [PT]
              first | (refine tk 32 (oi := ⟨some 187, _, _, _, _, _⟩) (v := undef) rfl (by kernel_rfl) (.inr ⟨by rfl, rfl⟩) hHeld ?_) | (refine tk 32 (oi := ⟨some 187, _, _, _, _, _⟩) (v := ?_) rfl (by kernel_rfl) (.inl ⟨by rfl, ?_⟩) hHeld ?_; rotate_left; focus (intro w hSw; (try dsimp only at hSw); go_simp; try with_reducible rfl))
              simp only [PT]
              first | (refine tk 33 (oi := ⟨some 188, _, _, _, _, _⟩) (v := undef) rfl (by kernel_rfl) (.inr ⟨by rfl, rfl⟩) hHeld ?_) | (refine tk 33 (oi := ⟨some 188, _, _, _, _, _⟩) (v := ?_) rfl (by kernel_rfl) (.inl ⟨by rfl, ?_⟩) hHeld ?_; rotate_left; focus (intro w hSw; (try dsimp only at hSw); go_simp; try with_reducible rfl))
              simp only [PT]
              first | (refine tk 34 (oi := ⟨some 189, _, _, _, _, _⟩) (v := undef) rfl (by kernel_rfl) (.inr ⟨by rfl, rfl⟩) hHeld ?_) | (refine' tk 34 (oi := ⟨some 189, _, _, _, _, _⟩) (v := _) rfl (by kernel_rfl) (yieldsIf_load_mid (by rfl) _ _ rfl _ _ rfl (x.v.key.cells) _ (fun _ h => range_key h.2.2.2) (Try.underlying26) rfl (tup_len x)) hHeld ?_)
              simp only [PT]
              first | (refine tk 35 (oi := ⟨some 190, _, _, _, _, _⟩) (v := undef) rfl (by kernel_rfl) (.inr ⟨by rfl, rfl⟩) hHeld ?_) | (refine' tk 35 (oi := ⟨some 190, _, _, _, _, _⟩) (v := _) rfl (by kernel_rfl) (yields_neqT_same v x HKE.out (by rfl) (.tmp 184) (.tmp 189) rfl rfl rfl) hHeld ?_)
              simp only [PT]
              first | (refine tk 36 (oi := ⟨some 191, _, _, _, _, _⟩) (v := undef) rfl (by kernel_rfl) (.inr ⟨by rfl, rfl⟩) hHeld ?_) | (refine tk 36 (oi := ⟨some 191, _, _, _, _, _⟩) (v := ?_) rfl (by kernel_rfl) (.inl ⟨by rfl, ?_⟩) hHeld ?_; rotate_left; focus (intro w hSw; (try dsimp only at hSw); go_simp; try with_reducible rfl))
              simp only [PT]
              first | (refine tk 37 (oi := ⟨some 192, _, _, _, _, _⟩) (v := undef) rfl (by kernel_rfl) (.inr ⟨by rfl, rfl⟩) hHeld ?_) | (refine tk 37 (oi := ⟨some 192, _, _, _, _, _⟩) (v := ?_) rfl (by kernel_rfl) (.inl ⟨by rfl, ?_⟩) hHeld ?_; rotate_left; focus (intro w hSw; (try dsimp only at hSw); go_simp; try with_reducible rfl))
              simp only [PT]
              first | (refine tk 38 (oi := ⟨some 193, _, _, _, _, _⟩) (v := undef) rfl (by kernel_rfl) (.inr ⟨by rfl, rfl⟩) hHeld ?_) | (refine tk 38 (oi := ⟨some 193, _, _, _, _, _⟩) (v := ?_) rfl (by kernel_rfl) (.inl ⟨by rfl, ?_⟩) hHeld ?_; rotate_left; focus (intro w hSw; (try dsimp only at hSw); go_simp; try with_reducible rfl))
              simp only [PT]
              first | (refine tk 39 (oi := ⟨some 194, _, _, _, _, _⟩) (v := undef) rfl (by kernel_rfl) (.inr ⟨by rfl, rfl⟩) hHeld ?_) | (refine tk 39 (oi := ⟨some 194, _, _, _, _, _⟩) (v := ?_) rfl (by kernel_rfl) (.inl ⟨by rfl, ?_⟩) hHeld ?_; rotate_left; focus (intro w hSw; (try dsimp only at hSw); go_simp; try with_reducible rfl))
              simp only [PT]
              first | (refine tk 40 (oi := ⟨some 195, _, _, _, _, _⟩) (v := undef) rfl (by kernel_rfl) (.inr ⟨by rfl, rfl⟩) hHeld ?_) | (refine tk 40 (oi := ⟨some 195, _, _, _, _, _⟩) (v := ?_) rfl (by kernel_rfl) (.inl ⟨by rfl, ?_⟩) hHeld ?_; rotate_left; focus (intro w hSw; (try dsimp only at hSw); go_simp; try with_reducible rfl))
              simp only [PT]
              refine tk 41 (oi := ⟨some 196, _, _, _, _, _⟩) (v := ?_) rfl (by kernel_rfl) (.inl ⟨by rfl, ?_⟩) hHeld ?_; rotate_left; focus (intro w hSw; (try dsimp only at hSw); go_simp; try with_reducible rfl)
              simp only [PT]
              refine wpAnyH_done (by kernel_rfl) ?_ _
              go_wp2_with fail
              go_roundw
              case rel => exact ⟨m + 1, by omega, by go_num, Lib.hid (HB.out.trans (Below.mono bup HB.out.size)), Lib.hid (HR.out.keep bup), Lib.hid (HWS.out.below bup), Lib.hid (hatB HG13 bup)⟩
              case measure => first | (simp [intOf]; done) | (simp [intOf]; omega)
            · cases h
            · cases h
      · as_aux_lemma =>
        obtain rfl : th = false := by
          rcases HG1.out with ⟨_, hl1⟩ | ⟨h, _⟩
          · obtain ⟨h4, h5⟩ := look_some hl1
            exact absurd h5 (hno _ h4)
          · exact h
        have hls : ls.length = roomN nn := by omega
        clear hno hge hm hgv h2 h3
        refine wp_region_held_drew (S := fun u__ => u__.rangeAt b (off + k * 41) x.v.cells ∧ u__.heap[g16]? = some (.cells x.v.cells.toArray 28 (0, 0))) (by kernel_rfl) ?_ (fun hHeld => ?_)
        focus (exact ⟨HXG.out _ (HB.out.trans (Below.mono bup HB.out.size)), hatB HG16 bup⟩)
        refine tk 0 (oi := ⟨some 77, _, _, _, _, _⟩) (v := ?_) rfl (by kernel_rfl) (.inl ⟨by rfl, ?_⟩) hHeld ?_; rotate_left; focus (intro w hSw; (try dsimp only at hSw); go_simp; try with_reducible rfl)
        simp only [PT]
        refine tk 1 (oi := ⟨some 78, _, _, _, _, _⟩) (v := ?_) rfl (by kernel_rfl) (.inl ⟨by rfl, ?_⟩) hHeld ?_; rotate_left; focus (intro w hSw; (try dsimp only at hSw); go_simp; try with_reducible rfl)
        simp only [PT]
        refine tk 2 (oi := ⟨some 79, _, _, _, _, _⟩) (v := ?_) rfl (by kernel_rfl) (.inl ⟨by rfl, ?_⟩) hHeld ?_; rotate_left; focus (intro w hSw; (try dsimp only at hSw); go_simp; try with_reducible rfl)
        simp only [PT]
        refine tk 3 (oi := ⟨some 80, _, _, _, _, _⟩) (v := ?_) rfl (by kernel_rfl) (.inl ⟨by rfl, ?_⟩) hHeld ?_; rotate_left; focus (intro w hSw; (try dsimp only at hSw); go_simp; try with_reducible rfl)
        simp only [PT]
        refine tk 4 (oi := ⟨some 81, _, _, _, _, _⟩) (v := ?_) rfl (by kernel_rfl) (.inl ⟨by rfl, ?_⟩) hHeld ?_; rotate_left; focus (intro w hSw; (try dsimp only at hSw); go_simp; try with_reducible rfl)
        simp only [PT]
        refine' tk 5 (oi := ⟨some 82, _, _, _, _, _⟩) (v := _) rfl (by kernel_rfl) (yieldsIf_load_mid (by rfl) _ _ rfl _ _ rfl (x.v.cells) _ (fun _ h => h.1) (Try.underlying28) rfl (one_size x)) hHeld ?_
        simp only [PT]
        refine wpAnyH_ready (rs := [6]) (by kernel_rfl) (by simp) ?_
        refine (AllReadyH.cons (o := ⟨some 83, _, _, _, _, _⟩) rfl (fun K hK => ?_) AllReadyH.nil)
        focus (first | (refine skip_step ?_ ?_; focus (rfl)) | (go_simp; go_must (refine (refRight_any x.v x.ok HSZ.out _).mono ?_); rw [hr]; rintro e w5 ⟨rfl, hb__⟩; have hE__ := cU HB bup hb__; replace HB := ck HB hE__; (try replace HR := ck HR hE__); (try replace HWS := ck HWS hE__); (try replace HG13 := ck HG13 hE__); (try replace HG16 := ck HG16 hE__); clear hE__ hb__; go_wp2_with fail))
        refine hK.out _ _ ?_ (fun hHeld => ?_)
        focus (exact ⟨HXG.out _ (HB.out.trans (Below.mono bup HB.out.size)), hatB HG16 bup⟩)
        clear hK K
        try simp only [PT]
        refine tk 7 (oi := ⟨some 84, _, _, _, _, _⟩) (v := ?_) rfl (by kernel_rfl) (.inl ⟨by rfl, ?_⟩) hHeld ?_; rotate_left; focus (intro w hSw; (try dsimp only at hSw); go_simp; try with_reducible rfl)
        simp only [PT]
        refine tk 8 (oi := ⟨some 85, _, _, _, _, _⟩) (v := ?_) rfl (by kernel_rfl) (.inl ⟨by rfl, ?_⟩) hHeld ?_; rotate_left; focus (intro w hSw; (try dsimp only at hSw); go_simp; try with_reducible rfl)
        simp only [PT]
        first | (refine tk 9 (oi := ⟨some 86, _, _, _, _, _⟩) (v := undef) rfl (by kernel_rfl) (.inr ⟨by rfl, rfl⟩) hHeld ?_) | (refine tk 9 (oi := ⟨some 86, _, _, _, _, _⟩) (v := ?_) rfl (by kernel_rfl) (.inl ⟨by rfl, ?_⟩) hHeld ?_; rotate_left; focus (intro w hSw; (try dsimp only at hSw); go_simp; try with_reducible rfl))
        simp only [PT]
        first | (refine tk 10 (oi := ⟨some 87, _, _, _, _, _⟩) (v := undef) rfl (by kernel_rfl) (.inr ⟨by rfl, rfl⟩) hHeld ?_) | (refine tk 10 (oi := ⟨some 87, _, _, _, _, _⟩) (v := ?_) rfl (by kernel_rfl) (.inl ⟨by rfl, ?_⟩) hHeld ?_; rotate_left; focus (intro w hSw; (try dsimp only at hSw); go_simp; try with_reducible rfl))
        simp only [PT]
        first | (refine tk 11 (oi := ⟨some 88, _, _, _, _, _⟩) (v := undef) rfl (by kernel_rfl) (.inr ⟨by rfl, rfl⟩) hHeld ?_) | (refine tk 11 (oi := ⟨some 88, _, _, _, _, _⟩) (v := ?_) rfl (by kernel_rfl) (.inl ⟨by rfl, ?_⟩) hHeld ?_; rotate_left; focus (intro w hSw; (try dsimp only at hSw); go_simp; try with_reducible rfl))
        simp only [PT]
        first | (refine tk 12 (oi := ⟨some 89, _, _, _, _, _⟩) (v := undef) rfl (by kernel_rfl) (.inr ⟨by rfl, rfl⟩) hHeld ?_) | (refine tk 12 (oi := ⟨some 89, _, _, _, _, _⟩) (v := ?_) rfl (by kernel_rfl) (.inl ⟨by rfl, ?_⟩) hHeld ?_; rotate_left; focus (intro w hSw; (try dsimp only at hSw); go_simp; try with_reducible rfl))
        simp only [PT]
        first | (refine tk 13 (oi := ⟨some 90, _, _, _, _, _⟩) (v := undef) rfl (by kernel_rfl) (.inr ⟨by rfl, rfl⟩) hHeld ?_) | (refine tk 13 (oi := ⟨some 90, _, _, _, _, _⟩) (v := ?_) rfl (by kernel_rfl) (.inl ⟨by rfl, ?_⟩) hHeld ?_; rotate_left; focus (intro w hSw; (try dsimp only at hSw); go_simp; try with_reducible rfl))
        simp only [PT]
        first | (refine tk 14 (oi := ⟨some 91, _, _, _, _, _⟩) (v := undef) rfl (by kernel_rfl) (.inr ⟨by rfl, rfl⟩) hHeld ?_) | (refine tk 14 (oi := ⟨some 91, _, _, _, _, _⟩) (v := ?_) rfl (by kernel_rfl) (.inl ⟨by rfl, ?_⟩) hHeld ?_; rotate_left; focus (intro w hSw; (try dsimp only at hSw); go_simp; try with_reducible rfl))
        simp only [PT]
        first | (refine tk 15 (oi := ⟨some 92, _, _, _, _, _⟩) (v := undef) rfl (by kernel_rfl) (.inr ⟨by rfl, rfl⟩) hHeld ?_) | (refine' tk 15 (oi := ⟨some 92, _, _, _, _, _⟩) (v := _) rfl (by kernel_rfl) (yieldsIf_load_mid (by rfl) _ _ rfl _ _ rfl (x.v.cells) _ (fun _ h => range_block h.2) (Try.underlying28) rfl (one_size x)) hHeld ?_)
        simp only [PT]
        first | (refine tk 16 (oi := ⟨some 93, _, _, _, _, _⟩) (v := undef) rfl (by kernel_rfl) (.inr ⟨by rfl, rfl⟩) hHeld ?_) | (refine tk 16 (oi := ⟨some 93, _, _, _, _, _⟩) (v := ?_) rfl (by kernel_rfl) (.inl ⟨by rfl, ?_⟩) hHeld ?_; rotate_left; focus (intro w hSw; (try dsimp only at hSw); go_simp; try with_reducible rfl))
        simp only [PT]
        first | (refine tk 17 (oi := ⟨some 94, _, _, _, _, _⟩) (v := undef) rfl (by kernel_rfl) (.inr ⟨by rfl, rfl⟩) hHeld ?_) | (refine tk 17 (oi := ⟨some 94, _, _, _, _, _⟩) (v := ?_) rfl (by kernel_rfl) (.inl ⟨by rfl, ?_⟩) hHeld ?_; rotate_left; focus (intro w hSw; (try dsimp only at hSw); go_simp; try with_reducible rfl))
        simp only [PT]
        first | (refine tk 18 (oi := ⟨some 95, _, _, _, _, _⟩) (v := undef) rfl (by kernel_rfl) (.inr ⟨by rfl, rfl⟩) hHeld ?_) | (refine tk 18 (oi := ⟨some 95, _, _, _, _, _⟩) (v := ?_) rfl (by kernel_rfl) (.inl ⟨by rfl, ?_⟩) hHeld ?_; rotate_left; focus (intro w hSw; (try dsimp only at hSw); go_simp; try with_reducible rfl))
        simp only [PT]
        first | (refine tk 19 (oi := ⟨some 96, _, _, _, _, _⟩) (v := undef) rfl (by kernel_rfl) (.inr ⟨by rfl, rfl⟩) hHeld ?_) | (refine' tk 19 (oi := ⟨some 96, _, _, _, _, _⟩) (v := _) rfl (by kernel_rfl) (yieldsIf_load_mid (by rfl) _ _ rfl _ _ rfl (x.v.cells) _ (fun _ h => h.1) (Try.underlying28) rfl (one_size x)) hHeld ?_)
        simp only [PT]
        first | (refine tk 20 (oi := ⟨some 97, _, _, _, _, _⟩) (v := undef) rfl (by kernel_rfl) (.inr ⟨by rfl, rfl⟩) hHeld ?_) | (refine' tk 20 (oi := ⟨some 97, _, _, _, _, _⟩) (v := _) rfl (by kernel_rfl) (yields_neqF x x false (by simp) (by rfl) (.tmp 92) (.tmp 96) rfl rfl rfl) hHeld ?_)
        simp only [PT]
        first | (refine tk 21 (oi := ⟨some 98, _, _, _, _, _⟩) (v := undef) rfl (by kernel_rfl) (.inr ⟨by rfl, rfl⟩) hHeld ?_) | (refine tk 21 (oi := ⟨some 98, _, _, _, _, _⟩) (v := ?_) rfl (by kernel_rfl) (.inl ⟨by rfl, ?_⟩) hHeld ?_; rotate_left; focus (intro w hSw; (try dsimp only at hSw); go_simp; try with_reducible rfl))
        simp only [PT]
        first | (refine tk 22 (oi := ⟨some 99, _, _, _, _, _⟩) (v := undef) rfl (by kernel_rfl) (.inr ⟨by rfl, rfl⟩) hHeld ?_) | (refine tk 22 (oi := ⟨some 99, _, _, _, _, _⟩) (v := ?_) rfl (by kernel_rfl) (.inl ⟨by rfl, ?_⟩) hHeld ?_; rotate_left; focus (intro w hSw; (try dsimp only at hSw); go_simp; try with_reducible rfl))
        simp only [PT]
        first | (refine tk 23 (oi := ⟨some 100, _, _, _, _, _⟩) (v := undef) rfl (by kernel_rfl) (.inr ⟨by rfl, rfl⟩) hHeld ?_) | (refine tk 23 (oi := ⟨some 100, _, _, _, _, _⟩) (v := ?_) rfl (by kernel_rfl) (.inl ⟨by rfl, ?_⟩) hHeld ?_; rotate_left; focus (intro w hSw; (try dsimp only at hSw); go_simp; try with_reducible rfl))
        simp only [PT]
        first | (refine tk 24 (oi := ⟨some 101, _, _, _, _, _⟩) (v := undef) rfl (by kernel_rfl) (.inr ⟨by rfl, rfl⟩) hHeld ?_) | (refine tk 24 (oi := ⟨some 101, _, _, _, _, _⟩) (v := ?_) rfl (by kernel_rfl) (.inl ⟨by rfl, ?_⟩) hHeld ?_; rotate_left; focus (intro w hSw; (try dsimp only at hSw); go_simp; try with_reducible rfl))
        simp only [PT]
        first | (refine tk 25 (oi := ⟨some 102, _, _, _, _, _⟩) (v := undef) rfl (by kernel_rfl) (.inr ⟨by rfl, rfl⟩) hHeld ?_) | (refine tk 25 (oi := ⟨some 102, _, _, _, _, _⟩) (v := ?_) rfl (by kernel_rfl) (.inl ⟨by rfl, ?_⟩) hHeld ?_; rotate_left; focus (intro w hSw; (try dsimp only at hSw); go_simp; try with_reducible rfl))
        simp only [PT]
        first | (refine tk 26 (oi := ⟨some 103, _, _, _, _, _⟩) (v := undef) rfl (by kernel_rfl) (.inr ⟨by rfl, rfl⟩) hHeld ?_) | (refine tk 26 (oi := ⟨some 103, _, _, _, _, _⟩) (v := ?_) rfl (by kernel_rfl) (.inl ⟨by rfl, ?_⟩) hHeld ?_; rotate_left; focus (intro w hSw; (try dsimp only at hSw); go_simp; try with_reducible rfl))
        simp only [PT]
        first | (refine tk 27 (oi := ⟨some 104, _, _, _, _, _⟩) (v := undef) rfl (by kernel_rfl) (.inr ⟨by rfl, rfl⟩) hHeld ?_) | (refine tk 27 (oi := ⟨some 104, _, _, _, _, _⟩) (v := ?_) rfl (by kernel_rfl) (.inl ⟨by rfl, ?_⟩) hHeld ?_; rotate_left; focus (intro w hSw; (try dsimp only at hSw); go_simp; try with_reducible rfl))
        simp only [PT]
        first | (refine tk 28 (oi := ⟨some 105, _, _, _, _, _⟩) (v := undef) rfl (by kernel_rfl) (.inr ⟨by rfl, rfl⟩) hHeld ?_) | (refine tk 28 (oi := ⟨some 105, _, _, _, _, _⟩) (v := ?_) rfl (by kernel_rfl) (.inl ⟨by rfl, ?_⟩) hHeld ?_; rotate_left; focus (intro w hSw; (try dsimp only at hSw); go_simp; try with_reducible rfl))
        simp only [PT]
        first | (refine tk 29 (oi := ⟨some 106, _, _, _, _, _⟩) (v := undef) rfl (by kernel_rfl) (.inr ⟨by rfl, rfl⟩) hHeld ?_) | (refine tk 29 (oi := ⟨some 106, _, _, _, _, _⟩) (v := ?_) rfl (by kernel_rfl) (.inl ⟨by rfl, ?_⟩) hHeld ?_; rotate_left; focus (intro w hSw; (try dsimp only at hSw); go_simp; try with_reducible rfl))
        simp only [PT]
        refine wpAnyH_ready (rs := [30]) (by kernel_rfl) (by simp) ?_
        refine (AllReadyH.cons (o := ⟨some 107, _, _, _, _, _⟩) rfl (fun K hK => ?_) AllReadyH.nil)
        focus (first | (refine skip_step ?_ ?_; focus (rfl)) | (go_simp; go_must (refine (room_any nn HNN.out _).mono ?_); rintro e w5 ⟨rfl, hb__⟩; have hE__ := cU HB bup hb__; replace HB := ck HB hE__; (try replace HR := ck HR hE__); (try replace HWS := ck HWS hE__); (try replace HG13 := ck HG13 hE__); (try replace HG16 := ck HG16 hE__); clear hE__ hb__; go_wp2_with fail))
        refine hK.out _ _ ?_ (fun hHeld => ?_)
        focus (exact ⟨HXG.out _ (HB.out.trans (Below.mono bup HB.out.size)), hatB HG16 bup⟩)
        clear hK K
        try simp only [PT]
        first | (refine tk 31 (oi := ⟨some 108, _, _, _, _, _⟩) (v := undef) rfl (by kernel_rfl) (.inr ⟨by rfl, rfl⟩) hHeld ?_) | (refine' tk 31 (oi := ⟨some 108, _, _, _, _, _⟩) (v := (.bool true)) rfl (by kernel_rfl) (.inl ⟨by rfl, ?_⟩) hHeld ?_; focus (intro w hSw; (try dsimp only at hSw); go_simp; first | done | rfl | omega | (simp [*]; done) | (simp [*]; omega)))
        simp only [PT]
        first | (refine tk 32 (oi := ⟨some 109, _, _, _, _, _⟩) (v := undef) rfl (by kernel_rfl) (.inr ⟨by rfl, rfl⟩) hHeld ?_) | (refine tk 32 (oi := ⟨some 109, _, _, _, _, _⟩) (v := ?_) rfl (by kernel_rfl) (.inl ⟨by rfl, ?_⟩) hHeld ?_; rotate_left; focus (intro w hSw; (try dsimp only at hSw); go_simp; try with_reducible rfl))
        simp only [PT]
        first | (refine tk 33 (oi := ⟨some 110, _, _, _, _, _⟩) (v := undef) rfl (by kernel_rfl) (.inr ⟨by rfl, rfl⟩) hHeld ?_) | (refine tk 33 (oi := ⟨some 110, _, _, _, _, _⟩) (v := ?_) rfl (by kernel_rfl) (.inl ⟨by rfl, ?_⟩) hHeld ?_; rotate_left; focus (intro w hSw; (try dsimp only at hSw); go_simp; try with_reducible rfl))
        simp only [PT]
        first | (refine tk 34 (oi := ⟨some 111, _, _, _, _, _⟩) (v := undef) rfl (by kernel_rfl) (.inr ⟨by rfl, rfl⟩) hHeld ?_) | (refine tk 34 (oi := ⟨some 111, _, _, _, _, _⟩) (v := ?_) rfl (by kernel_rfl) (.inl ⟨by rfl, ?_⟩) hHeld ?_; rotate_left; focus (intro w hSw; (try dsimp only at hSw); go_simp; try with_reducible rfl))
        simp only [PT]
        first | (refine tk 35 (oi := ⟨some 112, _, _, _, _, _⟩) (v := undef) rfl (by kernel_rfl) (.inr ⟨by rfl, rfl⟩) hHeld ?_) | (refine tk 35 (oi := ⟨some 112, _, _, _, _, _⟩) (v := ?_) rfl (by kernel_rfl) (.inl ⟨by rfl, ?_⟩) hHeld ?_; rotate_left; focus (intro w hSw; (try dsimp only at hSw); go_simp; try with_reducible rfl))
        simp only [PT]
        refine tk 36 (oi := ⟨some 113, _, _, _, _, _⟩) (v := ?_) rfl (by kernel_rfl) (.inl ⟨by rfl, ?_⟩) hHeld ?_; rotate_left; focus (intro w hSw; (try dsimp only at hSw); go_simp; try with_reducible rfl)
        simp only [PT]
        refine tk 37 (oi := ⟨some 114, _, _, _, _, _⟩) (v := ?_) rfl (by kernel_rfl) (.inl ⟨by rfl, ?_⟩) hHeld ?_; rotate_left; focus (intro w hSw; (try dsimp only at hSw); go_simp; try with_reducible rfl)
        simp only [PT]
        first | (refine tk 38 (oi := ⟨some 115, _, _, _, _, _⟩) (v := undef) rfl (by kernel_rfl) (.inr ⟨by rfl, rfl⟩) hHeld ?_) | (refine tk 38 (oi := ⟨some 115, _, _, _, _, _⟩) (v := ?_) rfl (by kernel_rfl) (.inl ⟨by rfl, ?_⟩) hHeld ?_; rotate_left; focus (intro w hSw; (try dsimp only at hSw); go_simp; try with_reducible rfl))
        simp only [PT]
        first | (refine tk 39 (oi := ⟨some 116, _, _, _, _, _⟩) (v := undef) rfl (by kernel_rfl) (.inr ⟨by rfl, rfl⟩) hHeld ?_) | (refine tk 39 (oi := ⟨some 116, _, _, _, _, _⟩) (v := ?_) rfl (by kernel_rfl) (.inl ⟨by rfl, ?_⟩) hHeld ?_; rotate_left; focus (intro w hSw; (try dsimp only at hSw); go_simp; try with_reducible rfl))
        simp only [PT]
        first | (refine tk 40 (oi := ⟨some 117, _, _, _, _, _⟩) (v := undef) rfl (by kernel_rfl) (.inr ⟨by rfl, rfl⟩) hHeld ?_) | (refine tk 40 (oi := ⟨some 117, _, _, _, _, _⟩) (v := ?_) rfl (by kernel_rfl) (.inl ⟨by rfl, ?_⟩) hHeld ?_; rotate_left; focus (intro w hSw; (try dsimp only at hSw); go_simp; try with_reducible rfl))
        simp only [PT]
        first | (refine tk 41 (oi := ⟨some 118, _, _, _, _, _⟩) (v := undef) rfl (by kernel_rfl) (.inr ⟨by rfl, rfl⟩) hHeld ?_) | (refine tk 41 (oi := ⟨some 118, _, _, _, _, _⟩) (v := ?_) rfl (by kernel_rfl) (.inl ⟨by rfl, ?_⟩) hHeld ?_; rotate_left; focus (intro w hSw; (try dsimp only at hSw); go_simp; try with_reducible rfl))
        simp only [PT]
        first | (refine tk 42 (oi := ⟨some 119, _, _, _, _, _⟩) (v := undef) rfl (by kernel_rfl) (.inr ⟨by rfl, rfl⟩) hHeld ?_) | (refine tk 42 (oi := ⟨some 119, _, _, _, _, _⟩) (v := ?_) rfl (by kernel_rfl) (.inl ⟨by rfl, ?_⟩) hHeld ?_; rotate_left; focus (intro w hSw; (try dsimp only at hSw); go_simp; try with_reducible rfl))
        simp only [PT]
        refine tk 43 (oi := ⟨some 120, _, _, _, _, _⟩) (v := ?_) rfl (by kernel_rfl) (.inl ⟨by rfl, ?_⟩) hHeld ?_; rotate_left; focus (intro w hSw; (try dsimp only at hSw); go_simp; try with_reducible rfl)
        simp only [PT]
        refine tk 44 (oi := ⟨some 121, _, _, _, _, _⟩) (v := ?_) rfl (by kernel_rfl) (.inl ⟨by rfl, ?_⟩) hHeld ?_; rotate_left; focus (intro w hSw; (try dsimp only at hSw); go_simp; try with_reducible rfl)
        simp only [PT]
        first | (refine tk 45 (oi := ⟨some 122, _, _, _, _, _⟩) (v := undef) rfl (by kernel_rfl) (.inr ⟨by rfl, rfl⟩) hHeld ?_) | (refine tk 45 (oi := ⟨some 122, _, _, _, _, _⟩) (v := ?_) rfl (by kernel_rfl) (.inl ⟨by rfl, ?_⟩) hHeld ?_; rotate_left; focus (intro w hSw; (try dsimp only at hSw); go_simp; try with_reducible rfl))
        simp only [PT]
        first | (refine tk 47 (oi := ⟨some 124, _, _, _, _, _⟩) (v := undef) rfl (by kernel_rfl) (.inr ⟨by rfl, rfl⟩) hHeld ?_) | (refine tk 47 (oi := ⟨some 124, _, _, _, _, _⟩) (v := ?_) rfl (by kernel_rfl) (.inl ⟨by rfl, ?_⟩) hHeld ?_; rotate_left; focus (intro w hSw; (try dsimp only at hSw); go_simp; try with_reducible rfl))
        simp only [PT]
        refine wpAnyH_ready (rs := [46]) (by kernel_rfl) (by simp) ?_
        refine (AllReadyH.cons (o := ⟨some 123, _, _, _, _, _⟩) rfl (fun K hK => ?_) AllReadyH.nil)
        focus (first | (refine skip_step ?_ ?_; focus (rfl)) | (go_simp; go_must (refine (len_rep p q kb _ _ _ (HR.out.keep bup)).mono ?_); rintro e w5 ⟨rfl, hb__⟩; have hE__ := cU HB bup hb__; replace HB := ck HB hE__; (try replace HR := ck HR hE__); (try replace HWS := ck HWS hE__); (try replace HG13 := ck HG13 hE__); (try replace HG16 := ck HG16 hE__); clear hE__ hb__; go_wp2_with fail))
        refine hK.out _ _ ?_ (fun hHeld => ?_)
        focus (exact ⟨HXG.out _ (HB.out.trans (Below.mono bup HB.out.size)), hatB HG16 bup⟩)
        clear hK K
        try simp only [PT]
        refine wpAnyH_ready (rs := [48]) (by kernel_rfl) (by simp) ?_
        refine (AllReadyH.cons (o := ⟨some 125, _, _, _, _, _⟩) rfl (fun K hK => ?_) AllReadyH.nil)
        focus (first | (refine skip_step ?_ ?_; focus (rfl)) | (go_simp; go_must (refine (room_any nn HNN.out _).mono ?_); rintro e w5 ⟨rfl, hb__⟩; have hE__ := cU HB bup hb__; replace HB := ck HB hE__; (try replace HR := ck HR hE__); (try replace HWS := ck HWS hE__); (try replace HG13 := ck HG13 hE__); (try replace HG16 := ck HG16 hE__); clear hE__ hb__; go_wp2_with fail))
        refine hK.out _ _ ?_ (fun hHeld => ?_)
        focus (exact ⟨HXG.out _ (HB.out.trans (Below.mono bup HB.out.size)), hatB HG16 bup⟩)
        clear hK K
        try simp only [PT]
        first | (refine tk 49 (oi := ⟨some 126, _, _, _, _, _⟩) (v := undef) rfl (by kernel_rfl) (.inr ⟨by rfl, rfl⟩) hHeld ?_) | (refine' tk 49 (oi := ⟨some 126, _, _, _, _, _⟩) (v := (.bool false)) rfl (by kernel_rfl) (.inl ⟨by rfl, ?_⟩) hHeld ?_; focus (intro w hSw; (try dsimp only at hSw); go_simp; first | done | rfl | (simp [*]; done) | (simp [*]; omega)))
        simp only [PT]
        refine tk 50 (oi := ⟨some 127, _, _, _, _, _⟩) (v := ?_) rfl (by kernel_rfl) (.inl ⟨by rfl, ?_⟩) hHeld ?_; rotate_left; focus (intro w hSw; (try dsimp only at hSw); go_simp; try with_reducible rfl)
        simp only [PT]
        refine wpAnyH_done (by kernel_rfl) ?_ _
        go_wp2_with fail
        go_loopw [18] (fun i wr => ∃ m : Nat, m ≤ ls.length ∧ i = .int .i64 (m : Int) ∧ Hid (Below w.heap.size w wr) ∧ Hid (Rep wr p q kb (roomN nn) S') ∧ Hid (Fls wr adw ls.length cw ls) ∧ Hid (wr.heap[g13]? = some (.cells gone.v.cells.toArray 28 (0, 0)))) (fun i _ => ls.length - (intOf i).toNat)
        case atStart => exact ⟨0, by omega, rfl, Lib.hid (HB.out.trans (Below.mono bup HB.out.size)), Lib.hid (HR.out.keep bup), Lib.hid (HWS.out.below bup), Lib.hid (hatB HG13 bup)⟩
        case round =>
          have HR1 := HR
          clear HB HR HWS HG13 HG16
          obtain ⟨m, hm, rfl, HB, HR, HWS, HG13⟩ := hrel
          by_cases hend2 : m = ls.length
          · subst m
            go_wp2_with fail
            go_roundw
            case rel => exact ⟨k + 1, S', by omega, by go_num, HB, HR⟩
            case measure => first | (simp [intOf]; done) | (simp [intOf]; omega)
          have hlt2 : m < ls.length := by omega
          have hlm := HWS.out.le
          obtain ⟨bw, offw, rfl, hbw, hatw⟩ := HWS.out.at (by omega)
          clear hatw
          obtain ⟨v, hv⟩ : ∃ v, v = ls[m]'hlt2 := ⟨_, rfl⟩
          have HVR := Lib.hid (show _ from hv ▸ HWS.out.get m hlt2)
          have hvS : v ∈ flowsS S := by rw [hv]; exact HPM.out.mem_iff.1 (List.getElem_mem _)
          have HRV := Lib.hid (flows_right HR0.out.good hvS)
          have hcase := oldest_case HR0.out.good HR1.out.good HPW.out hvS
          clear hv hvS HR1
          rcases hcase with ⟨h, _⟩ | ⟨h, _⟩ | ⟨_, hke, hlk, hold, hrg⟩ | ⟨_, hke, hlk, hold, hrg⟩
          · cases h
          · cases h
          · as_aux_lemma =>
            have HLK := Lib.hid hlk
            clear hlk
            have HD := Lib.hid hke
            have HFV := Lib.hid (right_fit HRV.out)
            have HFG := Lib.hid (right_fit hrg)
            clear hke hrg
            go_wp2_with (first
              | ((with_reducible refine sl 140 ?_); go_must (refine wpL_load rfl 26 (.tmp 139) rfl bw (offw + m * 41) rfl v.v.key.cells _ (range_key HVR.out) Try.underlying26 rfl (tup_len v) ?_); simp only [PT])
              | (go_at_call 20; (with_reducible show Calls _ _ #[_, .agg v.v.key.cells.toArray] _ _); go_must (refine (get_no p q kb _ _ v HLK.out _ (HR.out.keep bup)).mono ?_); rintro e w5 ⟨rfl, hb__⟩; have hE__ := cU HB bup hb__; replace HB := ck HB hE__; (try replace HR := ck HR hE__); (try replace HWS := ck HWS hE__); (try replace HG13 := ck HG13 hE__); (try replace HVR := ck HVR hE__); clear hE__ hb__)
              | ((with_reducible refine sl 19 ?_); go_must (refine wpL_newG rfl rfl 28 rfl (.tmp 19) (.tmp 142) rfl (zeroF.cells).toArray zeroF.cells.toArray (new_info (by first | exact Flo.length zeroF_ok | exact FloW.length _ | exact LEN_19)) (new_size (by first | exact Flo.length zeroF_ok | exact FloW.length _ | exact LEN_19)) (flo_one _) (fun _ => rfl) (fun _ => rfl) ?_); intro wn19 g19 le_19 hg__ hb__; have hE__ := cU HB bup hb__; replace HB := ck HB hE__; (try replace HR := ck HR hE__); (try replace HWS := ck HWS hE__); (try replace HG13 := ck HG13 hE__); (try replace HVR := ck HVR hE__); clear hE__ hb__; have HG19 := Lib.hid hg__; clear hg__; simp only [PT]))
            refine wp_region_held_drew (S := fun u__ => u__.rangeAt bw (offw + m * 41) v.v.cells ∧ u__.heap[g13]? = some (.cells gone.v.cells.toArray 28 (0, 0)) ∧ u__.heap[g19]? = some (.cells zeroF.cells.toArray 28 (0, 0)) ∧ u__.rangeAt b (off + k * 41) x.v.cells) (by kernel_rfl) ?_ (fun hHeld => ?_)
            focus (exact ⟨range_keep HVR.out bup, hatB HG13 bup, hatB HG19 bup, HXG.out _ (HB.out.trans (Below.mono bup HB.out.size))⟩)
            refine tk 0 (oi := ⟨some 144, _, _, _, _, _⟩) (v := ?_) rfl (by kernel_rfl) (.inl ⟨by rfl, ?_⟩) hHeld ?_; rotate_left; focus (intro w hSw; (try dsimp only at hSw); go_simp; try with_reducible rfl)
            simp only [PT]
            refine tk 1 (oi := ⟨some 145, _, _, _, _, _⟩) (v := ?_) rfl (by kernel_rfl) (.inl ⟨by rfl, ?_⟩) hHeld ?_; rotate_left; focus (intro w hSw; (try dsimp only at hSw); go_simp; try with_reducible rfl)
            simp only [PT]
            first | (refine tk 2 (oi := ⟨some 146, _, _, _, _, _⟩) (v := undef) rfl (by kernel_rfl) (.inr ⟨by rfl, rfl⟩) hHeld ?_) | (refine tk 2 (oi := ⟨some 146, _, _, _, _, _⟩) (v := ?_) rfl (by kernel_rfl) (.inl ⟨by rfl, ?_⟩) hHeld ?_; rotate_left; focus (intro w hSw; (try dsimp only at hSw); go_simp; try with_reducible rfl))
            simp only [PT]
            first | (refine tk 3 (oi := ⟨some 147, _, _, _, _, _⟩) (v := undef) rfl (by kernel_rfl) (.inr ⟨by rfl, rfl⟩) hHeld ?_) | (refine tk 3 (oi := ⟨some 147, _, _, _, _, _⟩) (v := ?_) rfl (by kernel_rfl) (.inl ⟨by rfl, ?_⟩) hHeld ?_; rotate_left; focus (intro w hSw; (try dsimp only at hSw); go_simp; try with_reducible rfl))
            simp only [PT]
            first | (refine tk 4 (oi := ⟨some 148, _, _, _, _, _⟩) (v := undef) rfl (by kernel_rfl) (.inr ⟨by rfl, rfl⟩) hHeld ?_) | (refine tk 4 (oi := ⟨some 148, _, _, _, _, _⟩) (v := ?_) rfl (by kernel_rfl) (.inl ⟨by rfl, ?_⟩) hHeld ?_; rotate_left; focus (intro w hSw; (try dsimp only at hSw); go_simp; try with_reducible rfl))
            simp only [PT]
            first | (refine tk 5 (oi := ⟨some 149, _, _, _, _, _⟩) (v := undef) rfl (by kernel_rfl) (.inr ⟨by rfl, rfl⟩) hHeld ?_) | (refine tk 5 (oi := ⟨some 149, _, _, _, _, _⟩) (v := ?_) rfl (by kernel_rfl) (.inl ⟨by rfl, ?_⟩) hHeld ?_; rotate_left; focus (intro w hSw; (try dsimp only at hSw); go_simp; try with_reducible rfl))
            simp only [PT]
            first | (refine tk 6 (oi := ⟨some 150, _, _, _, _, _⟩) (v := undef) rfl (by kernel_rfl) (.inr ⟨by rfl, rfl⟩) hHeld ?_) | (refine' tk 6 (oi := ⟨some 150, _, _, _, _, _⟩) (v := _) rfl (by kernel_rfl) (yieldsIf_load_mid (by rfl) _ _ rfl _ _ rfl (v.v.key.cells) _ (fun _ h => range_key h.1) (Try.underlying26) rfl (tup_len v)) hHeld ?_)
            simp only [PT]
            first | (refine tk 7 (oi := ⟨some 151, _, _, _, _, _⟩) (v := undef) rfl (by kernel_rfl) (.inr ⟨by rfl, rfl⟩) hHeld ?_) | (refine tk 7 (oi := ⟨some 151, _, _, _, _, _⟩) (v := ?_) rfl (by kernel_rfl) (.inl ⟨by rfl, ?_⟩) hHeld ?_; rotate_left; focus (intro w hSw; (try dsimp only at hSw); go_simp; try with_reducible rfl))
            simp only [PT]
            first | (refine tk 8 (oi := ⟨some 152, _, _, _, _, _⟩) (v := undef) rfl (by kernel_rfl) (.inr ⟨by rfl, rfl⟩) hHeld ?_) | (refine' tk 8 (oi := ⟨some 152, _, _, _, _, _⟩) (v := _) rfl (by kernel_rfl) (yieldsIf_load_mid (by rfl) _ _ rfl _ _ rfl (gone.v.key.cells) _ (fun _ h => range_key (range_block h.2.1)) (Try.underlying26) rfl (tup_len gone)) hHeld ?_)
            simp only [PT]
            first | (refine tk 9 (oi := ⟨some 153, _, _, _, _, _⟩) (v := undef) rfl (by kernel_rfl) (.inr ⟨by rfl, rfl⟩) hHeld ?_) | (refine' tk 9 (oi := ⟨some 153, _, _, _, _, _⟩) (v := _) rfl (by kernel_rfl) (yields_eqT_same v gone HD.out (by rfl) (.tmp 150) (.tmp 152) rfl rfl rfl) hHeld ?_)
            simp only [PT]
            refine tk 10 (oi := ⟨some 154, _, _, _, _, _⟩) (v := ?_) rfl (by kernel_rfl) (.inl ⟨by rfl, ?_⟩) hHeld ?_; rotate_left; focus (intro w hSw; (try dsimp only at hSw); go_simp; try with_reducible rfl)
            simp only [PT]
            refine tk 11 (oi := ⟨some 21, _, _, _, _, _⟩) (v := ?_) rfl (by kernel_rfl) (.inl ⟨by rfl, ?_⟩) hHeld ?_; rotate_left; focus (intro w hSw; (try dsimp only at hSw); go_simp; try with_reducible rfl)
            simp only [PT]
            refine wpAnyH_done (by kernel_rfl) ?_ _
            go_wp2_with fail
            refine wp_region_held_drew (S := fun u__ => u__.rangeAt bw (offw + m * 41) v.v.cells ∧ u__.heap[g13]? = some (.cells gone.v.cells.toArray 28 (0, 0)) ∧ u__.heap[g19]? = some (.cells zeroF.cells.toArray 28 (0, 0)) ∧ u__.rangeAt b (off + k * 41) x.v.cells) (by kernel_rfl) ?_ (fun hHeld => ?_)
            focus (exact ⟨range_keep HVR.out bup, hatB HG13 bup, hatB HG19 bup, HXG.out _ (HB.out.trans (Below.mono bup HB.out.size))⟩)
            refine tk 0 (oi := ⟨some 155, _, _, _, _, _⟩) (v := ?_) rfl (by kernel_rfl) (.inl ⟨by rfl, ?_⟩) hHeld ?_; rotate_left; focus (intro w hSw; (try dsimp only at hSw); go_simp; try with_reducible rfl)
            simp only [PT]
            refine tk 1 (oi := ⟨some 156, _, _, _, _, _⟩) (v := ?_) rfl (by kernel_rfl) (.inl ⟨by rfl, ?_⟩) hHeld ?_; rotate_left; focus (intro w hSw; (try dsimp only at hSw); go_simp; try with_reducible rfl)
            simp only [PT]
            refine tk 2 (oi := ⟨some 157, _, _, _, _, _⟩) (v := ?_) rfl (by kernel_rfl) (.inl ⟨by rfl, ?_⟩) hHeld ?_; rotate_left; focus (intro w hSw; (try dsimp only at hSw); go_simp; try with_reducible rfl)
            simp only [PT]
            refine tk 3 (oi := ⟨some 158, _, _, _, _, _⟩) (v := ?_) rfl (by kernel_rfl) (.inl ⟨by rfl, ?_⟩) hHeld ?_; rotate_left; focus (intro w hSw; (try dsimp only at hSw); go_simp; try with_reducible rfl)
            simp only [PT]
            first | (refine tk 4 (oi := ⟨some 159, _, _, _, _, _⟩) (v := undef) rfl (by kernel_rfl) (.inr ⟨by rfl, rfl⟩) hHeld ?_) | (refine tk 4 (oi := ⟨some 159, _, _, _, _, _⟩) (v := ?_) rfl (by kernel_rfl) (.inl ⟨by rfl, ?_⟩) hHeld ?_; rotate_left; focus (intro w hSw; (try dsimp only at hSw); go_simp; try with_reducible rfl))
            simp only [PT]
            first | (refine tk 5 (oi := ⟨some 160, _, _, _, _, _⟩) (v := undef) rfl (by kernel_rfl) (.inr ⟨by rfl, rfl⟩) hHeld ?_) | (refine tk 5 (oi := ⟨some 160, _, _, _, _, _⟩) (v := ?_) rfl (by kernel_rfl) (.inl ⟨by rfl, ?_⟩) hHeld ?_; rotate_left; focus (intro w hSw; (try dsimp only at hSw); go_simp; try with_reducible rfl))
            simp only [PT]
            first | (refine tk 6 (oi := ⟨some 161, _, _, _, _, _⟩) (v := undef) rfl (by kernel_rfl) (.inr ⟨by rfl, rfl⟩) hHeld ?_) | (refine tk 6 (oi := ⟨some 161, _, _, _, _, _⟩) (v := ?_) rfl (by kernel_rfl) (.inl ⟨by rfl, ?_⟩) hHeld ?_; rotate_left; focus (intro w hSw; (try dsimp only at hSw); go_simp; try with_reducible rfl))
            simp only [PT]
            first | (refine tk 7 (oi := ⟨some 162, _, _, _, _, _⟩) (v := undef) rfl (by kernel_rfl) (.inr ⟨by rfl, rfl⟩) hHeld ?_) | (refine tk 7 (oi := ⟨some 162, _, _, _, _, _⟩) (v := ?_) rfl (by kernel_rfl) (.inl ⟨by rfl, ?_⟩) hHeld ?_; rotate_left; focus (intro w hSw; (try dsimp only at hSw); go_simp; try with_reducible rfl))
            simp only [PT]
            first | (refine tk 8 (oi := ⟨some 163, _, _, _, _, _⟩) (v := undef) rfl (by kernel_rfl) (.inr ⟨by rfl, rfl⟩) hHeld ?_) | (refine tk 8 (oi := ⟨some 163, _, _, _, _, _⟩) (v := ?_) rfl (by kernel_rfl) (.inl ⟨by rfl, ?_⟩) hHeld ?_; rotate_left; focus (intro w hSw; (try dsimp only at hSw); go_simp; try with_reducible rfl))
            simp only [PT]
            first | (refine tk 9 (oi := ⟨some 164, _, _, _, _, _⟩) (v := undef) rfl (by kernel_rfl) (.inr ⟨by rfl, rfl⟩) hHeld ?_) | (refine' tk 9 (oi := ⟨some 164, _, _, _, _, _⟩) (v := _) rfl (by kernel_rfl) (yieldsIf_load_mid (by rfl) _ _ rfl _ _ rfl (v.v.cells) _ (fun _ h => h.1) (Try.underlying28) rfl (one_size v)) hHeld ?_)
            simp only [PT]
            first | (refine tk 10 (oi := ⟨some 165, _, _, _, _, _⟩) (v := undef) rfl (by kernel_rfl) (.inr ⟨by rfl, rfl⟩) hHeld ?_) | (refine' tk 10 (oi := ⟨some 165, _, _, _, _, _⟩) (v := _) rfl (by kernel_rfl) (yieldsIf_load_mid (by rfl) _ _ rfl _ _ rfl (gone.v.cells) _ (fun _ h => range_block h.2.1) (Try.underlying28) rfl (one_size gone)) hHeld ?_)
            simp only [PT]
            refine wpAnyH_ready (rs := [11]) (by kernel_rfl) (by simp) ?_
            refine (AllReadyH.cons (o := ⟨some 166, _, _, _, _, _⟩) rfl (fun K hK => ?_) AllReadyH.nil)
            focus (first | (refine skip_step ?_ ?_; focus (rfl)) | (go_simp; go_must (refine (refOlder_any v.v gone.v v.ok gone.ok HFV.out HFG.out _).mono ?_); rw [hold]; rintro e w5 ⟨rfl, hb__⟩; have hE__ := cU HB bup hb__; replace HB := ck HB hE__; (try replace HR := ck HR hE__); (try replace HWS := ck HWS hE__); (try replace HG13 := ck HG13 hE__); (try replace HG19 := ck HG19 hE__); (try replace HVR := ck HVR hE__); clear hE__ hb__; go_wp2_with fail))
            refine hK.out _ _ ?_ (fun hHeld => ?_)
            focus (exact ⟨range_keep HVR.out bup, hatB HG13 bup, hatB HG19 bup, HXG.out _ (HB.out.trans (Below.mono bup HB.out.size))⟩)
            clear hK K
            try simp only [PT]
            first | (refine tk 12 (oi := ⟨some 167, _, _, _, _, _⟩) (v := undef) rfl (by kernel_rfl) (.inr ⟨by rfl, rfl⟩) hHeld ?_) | (refine tk 12 (oi := ⟨some 167, _, _, _, _, _⟩) (v := ?_) rfl (by kernel_rfl) (.inl ⟨by rfl, ?_⟩) hHeld ?_; rotate_left; focus (intro w hSw; (try dsimp only at hSw); go_simp; try with_reducible rfl))
            simp only [PT]
            refine tk 13 (oi := ⟨some 168, _, _, _, _, _⟩) (v := ?_) rfl (by kernel_rfl) (.inl ⟨by rfl, ?_⟩) hHeld ?_; rotate_left; focus (intro w hSw; (try dsimp only at hSw); go_simp; try with_reducible rfl)
            simp only [PT]
            refine tk 14 (oi := ⟨some 169, _, _, _, _, _⟩) (v := ?_) rfl (by kernel_rfl) (.inl ⟨by rfl, ?_⟩) hHeld ?_; rotate_left; focus (intro w hSw; (try dsimp only at hSw); go_simp; try with_reducible rfl)
            simp only [PT]
            first | (refine tk 15 (oi := ⟨some 170, _, _, _, _, _⟩) (v := undef) rfl (by kernel_rfl) (.inr ⟨by rfl, rfl⟩) hHeld ?_) | (refine tk 15 (oi := ⟨some 170, _, _, _, _, _⟩) (v := ?_) rfl (by kernel_rfl) (.inl ⟨by rfl, ?_⟩) hHeld ?_; rotate_left; focus (intro w hSw; (try dsimp only at hSw); go_simp; try with_reducible rfl))
            simp only [PT]
            first | (refine tk 16 (oi := ⟨some 171, _, _, _, _, _⟩) (v := undef) rfl (by kernel_rfl) (.inr ⟨by rfl, rfl⟩) hHeld ?_) | (refine tk 16 (oi := ⟨some 171, _, _, _, _, _⟩) (v := ?_) rfl (by kernel_rfl) (.inl ⟨by rfl, ?_⟩) hHeld ?_; rotate_left; focus (intro w hSw; (try dsimp only at hSw); go_simp; try with_reducible rfl))
            simp only [PT]
            first | (refine tk 17 (oi := ⟨some 172, _, _, _, _, _⟩) (v := undef) rfl (by kernel_rfl) (.inr ⟨by rfl, rfl⟩) hHeld ?_) | (refine tk 17 (oi := ⟨some 172, _, _, _, _, _⟩) (v := ?_) rfl (by kernel_rfl) (.inl ⟨by rfl, ?_⟩) hHeld ?_; rotate_left; focus (intro w hSw; (try dsimp only at hSw); go_simp; try with_reducible rfl))
            simp only [PT]
            first | (refine tk 18 (oi := ⟨some 173, _, _, _, _, _⟩) (v := undef) rfl (by kernel_rfl) (.inr ⟨by rfl, rfl⟩) hHeld ?_) | (refine tk 18 (oi := ⟨some 173, _, _, _, _, _⟩) (v := ?_) rfl (by kernel_rfl) (.inl ⟨by rfl, ?_⟩) hHeld ?_; rotate_left; focus (intro w hSw; (try dsimp only at hSw); go_simp; try with_reducible rfl))
            simp only [PT]
            first | (refine tk 19 (oi := ⟨some 174, _, _, _, _, _⟩) (v := undef) rfl (by kernel_rfl) (.inr ⟨by rfl, rfl⟩) hHeld ?_) | (refine tk 19 (oi := ⟨some 174, _, _, _, _, _⟩) (v := ?_) rfl (by kernel_rfl) (.inl ⟨by rfl, ?_⟩) hHeld ?_; rotate_left; focus (intro w hSw; (try dsimp only at hSw); go_simp; try with_reducible rfl))
            simp only [PT]
            first | (refine tk 20 (oi := ⟨some 175, _, _, _, _, _⟩) (v := undef) rfl (by kernel_rfl) (.inr ⟨by rfl, rfl⟩) hHeld ?_) | (refine tk 20 (oi := ⟨some 175, _, _, _, _, _⟩) (v := ?_) rfl (by kernel_rfl) (.inl ⟨by rfl, ?_⟩) hHeld ?_; rotate_left; focus (intro w hSw; (try dsimp only at hSw); go_simp; try with_reducible rfl))
            simp only [PT]
            first | (refine tk 21 (oi := ⟨some 176, _, _, _, _, _⟩) (v := undef) rfl (by kernel_rfl) (.inr ⟨by rfl, rfl⟩) hHeld ?_) | (refine tk 21 (oi := ⟨some 176, _, _, _, _, _⟩) (v := ?_) rfl (by kernel_rfl) (.inl ⟨by rfl, ?_⟩) hHeld ?_; rotate_left; focus (intro w hSw; (try dsimp only at hSw); go_simp; try with_reducible rfl))
            simp only [PT]
            first | (refine tk 22 (oi := ⟨some 177, _, _, _, _, _⟩) (v := undef) rfl (by kernel_rfl) (.inr ⟨by rfl, rfl⟩) hHeld ?_) | (refine tk 22 (oi := ⟨some 177, _, _, _, _, _⟩) (v := ?_) rfl (by kernel_rfl) (.inl ⟨by rfl, ?_⟩) hHeld ?_; rotate_left; focus (intro w hSw; (try dsimp only at hSw); go_simp; try with_reducible rfl))
            simp only [PT]
            first | (refine tk 23 (oi := ⟨some 178, _, _, _, _, _⟩) (v := undef) rfl (by kernel_rfl) (.inr ⟨by rfl, rfl⟩) hHeld ?_) | (refine tk 23 (oi := ⟨some 178, _, _, _, _, _⟩) (v := ?_) rfl (by kernel_rfl) (.inl ⟨by rfl, ?_⟩) hHeld ?_; rotate_left; focus (intro w hSw; (try dsimp only at hSw); go_simp; try with_reducible rfl))
            simp only [PT]
            first | (refine tk 24 (oi := ⟨some 179, _, _, _, _, _⟩) (v := undef) rfl (by kernel_rfl) (.inr ⟨by rfl, rfl⟩) hHeld ?_) | (refine tk 24 (oi := ⟨some 179, _, _, _, _, _⟩) (v := ?_) rfl (by kernel_rfl) (.inl ⟨by rfl, ?_⟩) hHeld ?_; rotate_left; focus (intro w hSw; (try dsimp only at hSw); go_simp; try with_reducible rfl))
            simp only [PT]
            first | (refine tk 25 (oi := ⟨some 180, _, _, _, _, _⟩) (v := undef) rfl (by kernel_rfl) (.inr ⟨by rfl, rfl⟩) hHeld ?_) | (refine tk 25 (oi := ⟨some 180, _, _, _, _, _⟩) (v := ?_) rfl (by kernel_rfl) (.inl ⟨by rfl, ?_⟩) hHeld ?_; rotate_left; focus (intro w hSw; (try dsimp only at hSw); go_simp; try with_reducible rfl))
            simp only [PT]
            first | (refine tk 26 (oi := ⟨some 181, _, _, _, _, _⟩) (v := undef) rfl (by kernel_rfl) (.inr ⟨by rfl, rfl⟩) hHeld ?_) | (refine tk 26 (oi := ⟨some 181, _, _, _, _, _⟩) (v := ?_) rfl (by kernel_rfl) (.inl ⟨by rfl, ?_⟩) hHeld ?_; rotate_left; focus (intro w hSw; (try dsimp only at hSw); go_simp; try with_reducible rfl))
            simp only [PT]
            first | (refine tk 27 (oi := ⟨some 182, _, _, _, _, _⟩) (v := undef) rfl (by kernel_rfl) (.inr ⟨by rfl, rfl⟩) hHeld ?_) | (refine tk 27 (oi := ⟨some 182, _, _, _, _, _⟩) (v := ?_) rfl (by kernel_rfl) (.inl ⟨by rfl, ?_⟩) hHeld ?_; rotate_left; focus (intro w hSw; (try dsimp only at hSw); go_simp; try with_reducible rfl))
            simp only [PT]
            first | (refine tk 28 (oi := ⟨some 183, _, _, _, _, _⟩) (v := undef) rfl (by kernel_rfl) (.inr ⟨by rfl, rfl⟩) hHeld ?_) | (refine tk 28 (oi := ⟨some 183, _, _, _, _, _⟩) (v := ?_) rfl (by kernel_rfl) (.inl ⟨by rfl, ?_⟩) hHeld ?_; rotate_left; focus (intro w hSw; (try dsimp only at hSw); go_simp; try with_reducible rfl))
            simp only [PT]
            first | (refine tk 29 (oi := ⟨some 184, _, _, _, _, _⟩) (v := undef) rfl (by kernel_rfl) (.inr ⟨by rfl, rfl⟩) hHeld ?_) | (refine tk 29 (oi := ⟨some 184, _, _, _, _, _⟩) (v := ?_) rfl (by kernel_rfl) (.inl ⟨by rfl, ?_⟩) hHeld ?_; rotate_left; focus (intro w hSw; (try dsimp only at hSw); go_simp; try with_reducible rfl))
            simp only [PT]
            first | (refine tk 30 (oi := ⟨some 185, _, _, _, _, _⟩) (v := undef) rfl (by kernel_rfl) (.inr ⟨by rfl, rfl⟩) hHeld ?_) | (refine tk 30 (oi := ⟨some 185, _, _, _, _, _⟩) (v := ?_) rfl (by kernel_rfl) (.inl ⟨by rfl, ?_⟩) hHeld ?_; rotate_left; focus (intro w hSw; (try dsimp only at hSw); go_simp; try with_reducible rfl))
            simp only [PT]
            first | (refine tk 31 (oi := ⟨some 186, _, _, _, _, _⟩) (v := undef) rfl (by kernel_rfl) (.inr ⟨by rfl, rfl⟩) hHeld ?_) | (refine tk 31 (oi := ⟨some 186, _, _, _, _, _⟩) (v := ?_) rfl (by kernel_rfl) (.inl ⟨by rfl, ?_⟩) hHeld ?_; rotate_left; focus (intro w hSw; (try dsimp only at hSw); go_simp; try with_reducible rfl))
            simp only [PT]
            first | (refine tk 32 (oi := ⟨some 187, _, _, _, _, _⟩) (v := undef) rfl (by kernel_rfl) (.inr ⟨by rfl, rfl⟩) hHeld ?_) | (refine tk 32 (oi := ⟨some 187, _, _, _, _, _⟩) (v := ?_) rfl (by kernel_rfl) (.inl ⟨by rfl, ?_⟩) hHeld ?_; rotate_left; focus (intro w hSw; (try dsimp only at hSw); go_simp; try with_reducible rfl))
            simp only [PT]
            first | (refine tk 33 (oi := ⟨some 188, _, _, _, _, _⟩) (v := undef) rfl (by kernel_rfl) (.inr ⟨by rfl, rfl⟩) hHeld ?_) | (refine tk 33 (oi := ⟨some 188, _, _, _, _, _⟩) (v := ?_) rfl (by kernel_rfl) (.inl ⟨by rfl, ?_⟩) hHeld ?_; rotate_left; focus (intro w hSw; (try dsimp only at hSw); go_simp; try with_reducible rfl))
            simp only [PT]
            first | (refine tk 34 (oi := ⟨some 189, _, _, _, _, _⟩) (v := undef) rfl (by kernel_rfl) (.inr ⟨by rfl, rfl⟩) hHeld ?_) | (refine tk 34 (oi := ⟨some 189, _, _, _, _, _⟩) (v := ?_) rfl (by kernel_rfl) (.inl ⟨by rfl, ?_⟩) hHeld ?_; rotate_left; focus (intro w hSw; (try dsimp only at hSw); go_simp; try with_reducible rfl))
            simp only [PT]
            first | (refine tk 35 (oi := ⟨some 190, _, _, _, _, _⟩) (v := undef) rfl (by kernel_rfl) (.inr ⟨by rfl, rfl⟩) hHeld ?_) | (refine tk 35 (oi := ⟨some 190, _, _, _, _, _⟩) (v := ?_) rfl (by kernel_rfl) (.inl ⟨by rfl, ?_⟩) hHeld ?_; rotate_left; focus (intro w hSw; (try dsimp only at hSw); go_simp; try with_reducible rfl))
            simp only [PT]
            first | (refine tk 36 (oi := ⟨some 191, _, _, _, _, _⟩) (v := undef) rfl (by kernel_rfl) (.inr ⟨by rfl, rfl⟩) hHeld ?_) | (refine tk 36 (oi := ⟨some 191, _, _, _, _, _⟩) (v := ?_) rfl (by kernel_rfl) (.inl ⟨by rfl, ?_⟩) hHeld ?_; rotate_left; focus (intro w hSw; (try dsimp only at hSw); go_simp; try with_reducible rfl))
            simp only [PT]
            first | (refine tk 37 (oi := ⟨some 192, _, _, _, _, _⟩) (v := undef) rfl (by kernel_rfl) (.inr ⟨by rfl, rfl⟩) hHeld ?_) | (refine tk 37 (oi := ⟨some 192, _, _, _, _, _⟩) (v := ?_) rfl (by kernel_rfl) (.inl ⟨by rfl, ?_⟩) hHeld ?_; rotate_left; focus (intro w hSw; (try dsimp only at hSw); go_simp; try with_reducible rfl))
            simp only [PT]
            first | (refine tk 38 (oi := ⟨some 193, _, _, _, _, _⟩) (v := undef) rfl (by kernel_rfl) (.inr ⟨by rfl, rfl⟩) hHeld ?_) | (refine tk 38 (oi := ⟨some 193, _, _, _, _, _⟩) (v := ?_) rfl (by kernel_rfl) (.inl ⟨by rfl, ?_⟩) hHeld ?_; rotate_left; focus (intro w hSw; (try dsimp only at hSw); go_simp; try with_reducible rfl))
            simp only [PT]
            first | (refine tk 39 (oi := ⟨some 194, _, _, _, _, _⟩) (v := undef) rfl (by kernel_rfl) (.inr ⟨by rfl, rfl⟩) hHeld ?_) | (refine tk 39 (oi := ⟨some 194, _, _, _, _, _⟩) (v := ?_) rfl (by kernel_rfl) (.inl ⟨by rfl, ?_⟩) hHeld ?_; rotate_left; focus (intro w hSw; (try dsimp only at hSw); go_simp; try with_reducible rfl))
            simp only [PT]
            first | (refine tk 40 (oi := ⟨some 195, _, _, _, _, _⟩) (v := undef) rfl (by kernel_rfl) (.inr ⟨by rfl, rfl⟩) hHeld ?_) | (refine tk 40 (oi := ⟨some 195, _, _, _, _, _⟩) (v := ?_) rfl (by kernel_rfl) (.inl ⟨by rfl, ?_⟩) hHeld ?_; rotate_left; focus (intro w hSw; (try dsimp only at hSw); go_simp; try with_reducible rfl))
            simp only [PT]
            refine tk 41 (oi := ⟨some 196, _, _, _, _, _⟩) (v := ?_) rfl (by kernel_rfl) (.inl ⟨by rfl, ?_⟩) hHeld ?_; rotate_left; focus (intro w hSw; (try dsimp only at hSw); go_simp; try with_reducible rfl)
            simp only [PT]
            refine wpAnyH_done (by kernel_rfl) ?_ _
            go_wp2_with fail
            go_roundw
            case rel => exact ⟨m + 1, by omega, by go_num, Lib.hid (HB.out.trans (Below.mono bup HB.out.size)), Lib.hid (HR.out.keep bup), Lib.hid (HWS.out.below bup), Lib.hid (hatB HG13 bup)⟩
            case measure => first | (simp [intOf]; done) | (simp [intOf]; omega)
          · as_aux_lemma =>
            have HLK := Lib.hid hlk
            clear hlk
            have HD := Lib.hid hke
            have HFV := Lib.hid (right_fit HRV.out)
            have HFG := Lib.hid (right_fit hrg)
            clear hke hrg
            go_wp2_with (first
              | ((with_reducible refine sl 140 ?_); go_must (refine wpL_load rfl 26 (.tmp 139) rfl bw (offw + m * 41) rfl v.v.key.cells _ (range_key HVR.out) Try.underlying26 rfl (tup_len v) ?_); simp only [PT])
              | (go_at_call 20; (with_reducible show Calls _ _ #[_, .agg v.v.key.cells.toArray] _ _); go_must (refine (get_yes p q kb _ _ v v HLK.out _ (HR.out.keep bup)).mono ?_); rintro e w5 ⟨rfl, hb__⟩; have hE__ := cU HB bup hb__; replace HB := ck HB hE__; (try replace HR := ck HR hE__); (try replace HWS := ck HWS hE__); (try replace HG13 := ck HG13 hE__); (try replace HVR := ck HVR hE__); clear hE__ hb__)
              | ((with_reducible refine sl 19 ?_); go_must (refine wpL_newG rfl rfl 28 rfl (.tmp 19) (.tmp 142) rfl (v.v.cells).toArray zeroF.cells.toArray (new_info (by first | exact Flo.length zeroF_ok | exact FloW.length _ | exact LEN_19)) (new_size (by first | exact Flo.length zeroF_ok | exact FloW.length _ | exact LEN_19)) (flo_one _) (fun _ => rfl) (fun _ => rfl) ?_); intro wn19 g19 le_19 hg__ hb__; have hE__ := cU HB bup hb__; replace HB := ck HB hE__; (try replace HR := ck HR hE__); (try replace HWS := ck HWS hE__); (try replace HG13 := ck HG13 hE__); (try replace HVR := ck HVR hE__); clear hE__ hb__; have HG19 := Lib.hid hg__; clear hg__; simp only [PT]))
            refine wp_region_held_drew (S := fun u__ => u__.rangeAt bw (offw + m * 41) v.v.cells ∧ u__.heap[g13]? = some (.cells gone.v.cells.toArray 28 (0, 0)) ∧ u__.heap[g19]? = some (.cells v.v.cells.toArray 28 (0, 0)) ∧ u__.rangeAt b (off + k * 41) x.v.cells) (by kernel_rfl) ?_ (fun hHeld => ?_)
            focus (exact ⟨range_keep HVR.out bup, hatB HG13 bup, hatB HG19 bup, HXG.out _ (HB.out.trans (Below.mono bup HB.out.size))⟩)
            refine tk 0 (oi := ⟨some 144, _, _, _, _, _⟩) (v := ?_) rfl (by kernel_rfl) (.inl ⟨by rfl, ?_⟩) hHeld ?_; rotate_left; focus (intro w hSw; (try dsimp only at hSw); go_simp; try with_reducible rfl)
            simp only [PT]
            refine tk 1 (oi := ⟨some 145, _, _, _, _, _⟩) (v := ?_) rfl (by kernel_rfl) (.inl ⟨by rfl, ?_⟩) hHeld ?_; rotate_left; focus (intro w hSw; (try dsimp only at hSw); go_simp; try with_reducible rfl)
            simp only [PT]
            first | (refine tk 2 (oi := ⟨some 146, _, _, _, _, _⟩) (v := undef) rfl (by kernel_rfl) (.inr ⟨by rfl, rfl⟩) hHeld ?_) | (refine tk 2 (oi := ⟨some 146, _, _, _, _, _⟩) (v := ?_) rfl (by kernel_rfl) (.inl ⟨by rfl, ?_⟩) hHeld ?_; rotate_left; focus (intro w hSw; (try dsimp only at hSw); go_simp; try with_reducible rfl))
            simp only [PT]
            first | (refine tk 3 (oi := ⟨some 147, _, _, _, _, _⟩) (v := undef) rfl (by kernel_rfl) (.inr ⟨by rfl, rfl⟩) hHeld ?_) | (refine tk 3 (oi := ⟨some 147, _, _, _, _, _⟩) (v := ?_) rfl (by kernel_rfl) (.inl ⟨by rfl, ?_⟩) hHeld ?_; rotate_left; focus (intro w hSw; (try dsimp only at hSw); go_simp; try with_reducible rfl))
            simp only [PT]
            first | (refine tk 4 (oi := ⟨some 148, _, _, _, _, _⟩) (v := undef) rfl (by kernel_rfl) (.inr ⟨by rfl, rfl⟩) hHeld ?_) | (refine tk 4 (oi := ⟨some 148, _, _, _, _, _⟩) (v := ?_) rfl (by kernel_rfl) (.inl ⟨by rfl, ?_⟩) hHeld ?_; rotate_left; focus (intro w hSw; (try dsimp only at hSw); go_simp; try with_reducible rfl))
            simp only [PT]
            first | (refine tk 5 (oi := ⟨some 149, _, _, _, _, _⟩) (v := undef) rfl (by kernel_rfl) (.inr ⟨by rfl, rfl⟩) hHeld ?_) | (refine tk 5 (oi := ⟨some 149, _, _, _, _, _⟩) (v := ?_) rfl (by kernel_rfl) (.inl ⟨by rfl, ?_⟩) hHeld ?_; rotate_left; focus (intro w hSw; (try dsimp only at hSw); go_simp; try with_reducible rfl))
            simp only [PT]
            first | (refine tk 6 (oi := ⟨some 150, _, _, _, _, _⟩) (v := undef) rfl (by kernel_rfl) (.inr ⟨by rfl, rfl⟩) hHeld ?_) | (refine' tk 6 (oi := ⟨some 150, _, _, _, _, _⟩) (v := _) rfl (by kernel_rfl) (yieldsIf_load_mid (by rfl) _ _ rfl _ _ rfl (v.v.key.cells) _ (fun _ h => range_key h.1) (Try.underlying26) rfl (tup_len v)) hHeld ?_)
            simp only [PT]
            first | (refine tk 7 (oi := ⟨some 151, _, _, _, _, _⟩) (v := undef) rfl (by kernel_rfl) (.inr ⟨by rfl, rfl⟩) hHeld ?_) | (refine tk 7 (oi := ⟨some 151, _, _, _, _, _⟩) (v := ?_) rfl (by kernel_rfl) (.inl ⟨by rfl, ?_⟩) hHeld ?_; rotate_left; focus (intro w hSw; (try dsimp only at hSw); go_simp; try with_reducible rfl))
            simp only [PT]
            first | (refine tk 8 (oi := ⟨some 152, _, _, _, _, _⟩) (v := undef) rfl (by kernel_rfl) (.inr ⟨by rfl, rfl⟩) hHeld ?_) | (refine' tk 8 (oi := ⟨some 152, _, _, _, _, _⟩) (v := _) rfl (by kernel_rfl) (yieldsIf_load_mid (by rfl) _ _ rfl _ _ rfl (gone.v.key.cells) _ (fun _ h => range_key (range_block h.2.1)) (Try.underlying26) rfl (tup_len gone)) hHeld ?_)
            simp only [PT]
            first | (refine tk 9 (oi := ⟨some 153, _, _, _, _, _⟩) (v := undef) rfl (by kernel_rfl) (.inr ⟨by rfl, rfl⟩) hHeld ?_) | (refine' tk 9 (oi := ⟨some 153, _, _, _, _, _⟩) (v := _) rfl (by kernel_rfl) (yields_eqT_ne v gone HD.out (by rfl) (.tmp 150) (.tmp 152) rfl rfl rfl) hHeld ?_)
            simp only [PT]
            refine tk 10 (oi := ⟨some 154, _, _, _, _, _⟩) (v := ?_) rfl (by kernel_rfl) (.inl ⟨by rfl, ?_⟩) hHeld ?_; rotate_left; focus (intro w hSw; (try dsimp only at hSw); go_simp; try with_reducible rfl)
            simp only [PT]
            refine tk 11 (oi := ⟨some 21, _, _, _, _, _⟩) (v := ?_) rfl (by kernel_rfl) (.inl ⟨by rfl, ?_⟩) hHeld ?_; rotate_left; focus (intro w hSw; (try dsimp only at hSw); go_simp; try with_reducible rfl)
            simp only [PT]
            refine wpAnyH_done (by kernel_rfl) ?_ _
            go_wp2_with fail
            refine wp_region_held_drew (S := fun u__ => u__.rangeAt bw (offw + m * 41) v.v.cells ∧ u__.heap[g13]? = some (.cells gone.v.cells.toArray 28 (0, 0)) ∧ u__.heap[g19]? = some (.cells v.v.cells.toArray 28 (0, 0)) ∧ u__.rangeAt b (off + k * 41) x.v.cells) (by kernel_rfl) ?_ (fun hHeld => ?_)
            focus (exact ⟨range_keep HVR.out bup, hatB HG13 bup, hatB HG19 bup, HXG.out _ (HB.out.trans (Below.mono bup HB.out.size))⟩)
            refine tk 0 (oi := ⟨some 155, _, _, _, _, _⟩) (v := ?_) rfl (by kernel_rfl) (.inl ⟨by rfl, ?_⟩) hHeld ?_; rotate_left; focus (intro w hSw; (try dsimp only at hSw); go_simp; try with_reducible rfl)
            simp only [PT]
            refine tk 1 (oi := ⟨some 156, _, _, _, _, _⟩) (v := ?_) rfl (by kernel_rfl) (.inl ⟨by rfl, ?_⟩) hHeld ?_; rotate_left; focus (intro w hSw; (try dsimp only at hSw); go_simp; try with_reducible rfl)
            simp only [PT]
            refine tk 2 (oi := ⟨some 157, _, _, _, _, _⟩) (v := ?_) rfl (by kernel_rfl) (.inl ⟨by rfl, ?_⟩) hHeld ?_; rotate_left; focus (intro w hSw; (try dsimp only at hSw); go_simp; try with_reducible rfl)
            simp only [PT]
            refine tk 3 (oi := ⟨some 158, _, _, _, _, _⟩) (v := ?_) rfl (by kernel_rfl) (.inl ⟨by rfl, ?_⟩) hHeld ?_; rotate_left; focus (intro w hSw; (try dsimp only at hSw); go_simp; try with_reducible rfl)
            simp only [PT]
            first | (refine tk 4 (oi := ⟨some 159, _, _, _, _, _⟩) (v := undef) rfl (by kernel_rfl) (.inr ⟨by rfl, rfl⟩) hHeld ?_) | (refine tk 4 (oi := ⟨some 159, _, _, _, _, _⟩) (v := ?_) rfl (by kernel_rfl) (.inl ⟨by rfl, ?_⟩) hHeld ?_; rotate_left; focus (intro w hSw; (try dsimp only at hSw); go_simp; try with_reducible rfl))
            simp only [PT]
            first | (refine tk 5 (oi := ⟨some 160, _, _, _, _, _⟩) (v := undef) rfl (by kernel_rfl) (.inr ⟨by rfl, rfl⟩) hHeld ?_) | (refine tk 5 (oi := ⟨some 160, _, _, _, _, _⟩) (v := ?_) rfl (by kernel_rfl) (.inl ⟨by rfl, ?_⟩) hHeld ?_; rotate_left; focus (intro w hSw; (try dsimp only at hSw); go_simp; try with_reducible rfl))
            simp only [PT]
            first | (refine tk 6 (oi := ⟨some 161, _, _, _, _, _⟩) (v := undef) rfl (by kernel_rfl) (.inr ⟨by rfl, rfl⟩) hHeld ?_) | (refine tk 6 (oi := ⟨some 161, _, _, _, _, _⟩) (v := ?_) rfl (by kernel_rfl) (.inl ⟨by rfl, ?_⟩) hHeld ?_; rotate_left; focus (intro w hSw; (try dsimp only at hSw); go_simp; try with_reducible rfl))
            simp only [PT]
            first | (refine tk 7 (oi := ⟨some 162, _, _, _, _, _⟩) (v := undef) rfl (by kernel_rfl) (.inr ⟨by rfl, rfl⟩) hHeld ?_) | (refine tk 7 (oi := ⟨some 162, _, _, _, _, _⟩) (v := ?_) rfl (by kernel_rfl) (.inl ⟨by rfl, ?_⟩) hHeld ?_; rotate_left; focus (intro w hSw; (try dsimp only at hSw); go_simp; try with_reducible rfl))
            simp only [PT]
            first | (refine tk 8 (oi := ⟨some 163, _, _, _, _, _⟩) (v := undef) rfl (by kernel_rfl) (.inr ⟨by rfl, rfl⟩) hHeld ?_) | (refine tk 8 (oi := ⟨some 163, _, _, _, _, _⟩) (v := ?_) rfl (by kernel_rfl) (.inl ⟨by rfl, ?_⟩) hHeld ?_; rotate_left; focus (intro w hSw; (try dsimp only at hSw); go_simp; try with_reducible rfl))
            simp only [PT]
            first | (refine tk 9 (oi := ⟨some 164, _, _, _, _, _⟩) (v := undef) rfl (by kernel_rfl) (.inr ⟨by rfl, rfl⟩) hHeld ?_) | (refine' tk 9 (oi := ⟨some 164, _, _, _, _, _⟩) (v := _) rfl (by kernel_rfl) (yieldsIf_load_mid (by rfl) _ _ rfl _ _ rfl (v.v.cells) _ (fun _ h => h.1) (Try.underlying28) rfl (one_size v)) hHeld ?_)
            simp only [PT]
            first | (refine tk 10 (oi := ⟨some 165, _, _, _, _, _⟩) (v := undef) rfl (by kernel_rfl) (.inr ⟨by rfl, rfl⟩) hHeld ?_) | (refine' tk 10 (oi := ⟨some 165, _, _, _, _, _⟩) (v := _) rfl (by kernel_rfl) (yieldsIf_load_mid (by rfl) _ _ rfl _ _ rfl (gone.v.cells) _ (fun _ h => range_block h.2.1) (Try.underlying28) rfl (one_size gone)) hHeld ?_)
            simp only [PT]
            refine wpAnyH_ready (rs := [11]) (by kernel_rfl) (by simp) ?_
            refine (AllReadyH.cons (o := ⟨some 166, _, _, _, _, _⟩) rfl (fun K hK => ?_) AllReadyH.nil)
            focus (first | (refine skip_step ?_ ?_; focus (rfl)) | (go_simp; go_must (refine (refOlder_any v.v gone.v v.ok gone.ok HFV.out HFG.out _).mono ?_); rw [hold]; rintro e w5 ⟨rfl, hb__⟩; have hE__ := cU HB bup hb__; replace HB := ck HB hE__; (try replace HR := ck HR hE__); (try replace HWS := ck HWS hE__); (try replace HG13 := ck HG13 hE__); (try replace HG19 := ck HG19 hE__); (try replace HVR := ck HVR hE__); clear hE__ hb__; go_wp2_with fail))
            refine hK.out _ _ ?_ (fun hHeld => ?_)
            focus (exact ⟨range_keep HVR.out bup, hatB HG13 bup, hatB HG19 bup, HXG.out _ (HB.out.trans (Below.mono bup HB.out.size))⟩)
            clear hK K
            try simp only [PT]
            first | (refine tk 12 (oi := ⟨some 167, _, _, _, _, _⟩) (v := undef) rfl (by kernel_rfl) (.inr ⟨by rfl, rfl⟩) hHeld ?_) | (refine tk 12 (oi := ⟨some 167, _, _, _, _, _⟩) (v := ?_) rfl (by kernel_rfl) (.inl ⟨by rfl, ?_⟩) hHeld ?_; rotate_left; focus (intro w hSw; (try dsimp only at hSw); go_simp; try with_reducible rfl))
            simp only [PT]
            refine tk 13 (oi := ⟨some 168, _, _, _, _, _⟩) (v := ?_) rfl (by kernel_rfl) (.inl ⟨by rfl, ?_⟩) hHeld ?_; rotate_left; focus (intro w hSw; (try dsimp only at hSw); go_simp; try with_reducible rfl)
            simp only [PT]
            refine tk 14 (oi := ⟨some 169, _, _, _, _, _⟩) (v := ?_) rfl (by kernel_rfl) (.inl ⟨by rfl, ?_⟩) hHeld ?_; rotate_left; focus (intro w hSw; (try dsimp only at hSw); go_simp; try with_reducible rfl)
            simp only [PT]
            first | (refine tk 15 (oi := ⟨some 170, _, _, _, _, _⟩) (v := undef) rfl (by kernel_rfl) (.inr ⟨by rfl, rfl⟩) hHeld ?_) | (refine tk 15 (oi := ⟨some 170, _, _, _, _, _⟩) (v := ?_) rfl (by kernel_rfl) (.inl ⟨by rfl, ?_⟩) hHeld ?_; rotate_left; focus (intro w hSw; (try dsimp only at hSw); go_simp; try with_reducible rfl))
            simp only [PT]
            first | (refine tk 16 (oi := ⟨some 171, _, _, _, _, _⟩) (v := undef) rfl (by kernel_rfl) (.inr ⟨by rfl, rfl⟩) hHeld ?_) | (refine tk 16 (oi := ⟨some 171, _, _, _, _, _⟩) (v := ?_) rfl (by kernel_rfl) (.inl ⟨by rfl, ?_⟩) hHeld ?_; rotate_left; focus (intro w hSw; (try dsimp only at hSw); go_simp; try with_reducible rfl))
            simp only [PT]
            first | (refine tk 17 (oi := ⟨some 172, _, _, _, _, _⟩) (v := undef) rfl (by kernel_rfl) (.inr ⟨by rfl, rfl⟩) hHeld ?_) | (refine' tk 17 (oi := ⟨some 172, _, _, _, _, _⟩) (v := _) rfl (by kernel_rfl) (yieldsIf_load_mid (by rfl) _ _ rfl _ _ rfl (v.v.cells) _ (fun _ h => range_block h.2.2.1) (Try.underlying28) rfl (one_size v)) hHeld ?_)
            simp only [PT]
            first | (refine tk 18 (oi := ⟨some 173, _, _, _, _, _⟩) (v := undef) rfl (by kernel_rfl) (.inr ⟨by rfl, rfl⟩) hHeld ?_) | (refine tk 18 (oi := ⟨some 173, _, _, _, _, _⟩) (v := ?_) rfl (by kernel_rfl) (.inl ⟨by rfl, ?_⟩) hHeld ?_; rotate_left; focus (intro w hSw; (try dsimp only at hSw); go_simp; try with_reducible rfl))
            simp only [PT]
            first | (refine tk 19 (oi := ⟨some 174, _, _, _, _, _⟩) (v := undef) rfl (by kernel_rfl) (.inr ⟨by rfl, rfl⟩) hHeld ?_) | (refine tk 19 (oi := ⟨some 174, _, _, _, _, _⟩) (v := ?_) rfl (by kernel_rfl) (.inl ⟨by rfl, ?_⟩) hHeld ?_; rotate_left; focus (intro w hSw; (try dsimp only at hSw); go_simp; try with_reducible rfl))
            simp only [PT]
            first | (refine tk 20 (oi := ⟨some 175, _, _, _, _, _⟩) (v := undef) rfl (by kernel_rfl) (.inr ⟨by rfl, rfl⟩) hHeld ?_) | (refine tk 20 (oi := ⟨some 175, _, _, _, _, _⟩) (v := ?_) rfl (by kernel_rfl) (.inl ⟨by rfl, ?_⟩) hHeld ?_; rotate_left; focus (intro w hSw; (try dsimp only at hSw); go_simp; try with_reducible rfl))
            simp only [PT]
            first | (refine tk 21 (oi := ⟨some 176, _, _, _, _, _⟩) (v := undef) rfl (by kernel_rfl) (.inr ⟨by rfl, rfl⟩) hHeld ?_) | (refine' tk 21 (oi := ⟨some 176, _, _, _, _, _⟩) (v := _) rfl (by kernel_rfl) (yieldsIf_load_mid (by rfl) _ _ rfl _ _ rfl (v.v.cells) _ (fun _ h => h.1) (Try.underlying28) rfl (one_size v)) hHeld ?_)
            simp only [PT]
            first | (refine tk 22 (oi := ⟨some 177, _, _, _, _, _⟩) (v := undef) rfl (by kernel_rfl) (.inr ⟨by rfl, rfl⟩) hHeld ?_) | (refine' tk 22 (oi := ⟨some 177, _, _, _, _, _⟩) (v := _) rfl (by kernel_rfl) (yields_neqF v v false (by simp) (by rfl) (.tmp 172) (.tmp 176) rfl rfl rfl) hHeld ?_)
            simp only [PT]
            first | (refine tk 23 (oi := ⟨some 178, _, _, _, _, _⟩) (v := undef) rfl (by kernel_rfl) (.inr ⟨by rfl, rfl⟩) hHeld ?_) | (refine tk 23 (oi := ⟨some 178, _, _, _, _, _⟩) (v := ?_) rfl (by kernel_rfl) (.inl ⟨by rfl, ?_⟩) hHeld ?_; rotate_left; focus (intro w hSw; (try dsimp only at hSw); go_simp; try with_reducible rfl))
            simp only [PT]
            first | (refine tk 24 (oi := ⟨some 179, _, _, _, _, _⟩) (v := undef) rfl (by kernel_rfl) (.inr ⟨by rfl, rfl⟩) hHeld ?_) | (refine tk 24 (oi := ⟨some 179, _, _, _, _, _⟩) (v := ?_) rfl (by kernel_rfl) (.inl ⟨by rfl, ?_⟩) hHeld ?_; rotate_left; focus (intro w hSw; (try dsimp only at hSw); go_simp; try with_reducible rfl))
            simp only [PT]
            first | (refine tk 25 (oi := ⟨some 180, _, _, _, _, _⟩) (v := undef) rfl (by kernel_rfl) (.inr ⟨by rfl, rfl⟩) hHeld ?_) | (refine tk 25 (oi := ⟨some 180, _, _, _, _, _⟩) (v := ?_) rfl (by kernel_rfl) (.inl ⟨by rfl, ?_⟩) hHeld ?_; rotate_left; focus (intro w hSw; (try dsimp only at hSw); go_simp; try with_reducible rfl))
            simp only [PT]
            first | (refine tk 26 (oi := ⟨some 181, _, _, _, _, _⟩) (v := undef) rfl (by kernel_rfl) (.inr ⟨by rfl, rfl⟩) hHeld ?_) | (refine tk 26 (oi := ⟨some 181, _, _, _, _, _⟩) (v := ?_) rfl (by kernel_rfl) (.inl ⟨by rfl, ?_⟩) hHeld ?_; rotate_left; focus (intro w hSw; (try dsimp only at hSw); go_simp; try with_reducible rfl))
            simp only [PT]
            first | (refine tk 27 (oi := ⟨some 182, _, _, _, _, _⟩) (v := undef) rfl (by kernel_rfl) (.inr ⟨by rfl, rfl⟩) hHeld ?_) | (refine tk 27 (oi := ⟨some 182, _, _, _, _, _⟩) (v := ?_) rfl (by kernel_rfl) (.inl ⟨by rfl, ?_⟩) hHeld ?_; rotate_left; focus (intro w hSw; (try dsimp only at hSw); go_simp; try with_reducible rfl))
            simp only [PT]
            first | (refine tk 28 (oi := ⟨some 183, _, _, _, _, _⟩) (v := undef) rfl (by kernel_rfl) (.inr ⟨by rfl, rfl⟩) hHeld ?_) | (refine tk 28 (oi := ⟨some 183, _, _, _, _, _⟩) (v := ?_) rfl (by kernel_rfl) (.inl ⟨by rfl, ?_⟩) hHeld ?_; rotate_left; focus (intro w hSw; (try dsimp only at hSw); go_simp; try with_reducible rfl))
            simp only [PT]
            first | (refine tk 29 (oi := ⟨some 184, _, _, _, _, _⟩) (v := undef) rfl (by kernel_rfl) (.inr ⟨by rfl, rfl⟩) hHeld ?_) | (refine tk 29 (oi := ⟨some 184, _, _, _, _, _⟩) (v := ?_) rfl (by kernel_rfl) (.inl ⟨by rfl, ?_⟩) hHeld ?_; rotate_left; focus (intro w hSw; (try dsimp only at hSw); go_simp; try with_reducible rfl))
            simp only [PT]
            first | (refine tk 30 (oi := ⟨some 185, _, _, _, _, _⟩) (v := undef) rfl (by kernel_rfl) (.inr ⟨by rfl, rfl⟩) hHeld ?_) | (refine tk 30 (oi := ⟨some 185, _, _, _, _, _⟩) (v := ?_) rfl (by kernel_rfl) (.inl ⟨by rfl, ?_⟩) hHeld ?_; rotate_left; focus (intro w hSw; (try dsimp only at hSw); go_simp; try with_reducible rfl))
            simp only [PT]
            first | (refine tk 31 (oi := ⟨some 186, _, _, _, _, _⟩) (v := undef) rfl (by kernel_rfl) (.inr ⟨by rfl, rfl⟩) hHeld ?_) | (refine tk 31 (oi := ⟨some 186, _, _, _, _, _⟩) (v := ?_) rfl (by kernel_rfl) (.inl ⟨by rfl, ?_⟩) hHeld ?_; rotate_left; focus (intro w hSw; (try dsimp only at hSw); go_simp; try with_reducible rfl))
            simp only [PT]
            first | (refine tk 32 (oi := ⟨some 187, _, _, _, _, _⟩) (v := undef) rfl (by kernel_rfl) (.inr ⟨by rfl, rfl⟩) hHeld ?_) | (refine tk 32 (oi := ⟨some 187, _, _, _, _, _⟩) (v := ?_) rfl (by kernel_rfl) (.inl ⟨by rfl, ?_⟩) hHeld ?_; rotate_left; focus (intro w hSw; (try dsimp only at hSw); go_simp; try with_reducible rfl))
            simp only [PT]
            first | (refine tk 33 (oi := ⟨some 188, _, _, _, _, _⟩) (v := undef) rfl (by kernel_rfl) (.inr ⟨by rfl, rfl⟩) hHeld ?_) | (refine tk 33 (oi := ⟨some 188, _, _, _, _, _⟩) (v := ?_) rfl (by kernel_rfl) (.inl ⟨by rfl, ?_⟩) hHeld ?_; rotate_left; focus (intro w hSw; (try dsimp only at hSw); go_simp; try with_reducible rfl))
            simp only [PT]
            first | (refine tk 34 (oi := ⟨some 189, _, _, _, _, _⟩) (v := undef) rfl (by kernel_rfl) (.inr ⟨by rfl, rfl⟩) hHeld ?_) | (refine tk 34 (oi := ⟨some 189, _, _, _, _, _⟩) (v := ?_) rfl (by kernel_rfl) (.inl ⟨by rfl, ?_⟩) hHeld ?_; rotate_left; focus (intro w hSw; (try dsimp only at hSw); go_simp; try with_reducible rfl))
            simp only [PT]
            first | (refine tk 35 (oi := ⟨some 190, _, _, _, _, _⟩) (v := undef) rfl (by kernel_rfl) (.inr ⟨by rfl, rfl⟩) hHeld ?_) | (refine tk 35 (oi := ⟨some 190, _, _, _, _, _⟩) (v := ?_) rfl (by kernel_rfl) (.inl ⟨by rfl, ?_⟩) hHeld ?_; rotate_left; focus (intro w hSw; (try dsimp only at hSw); go_simp; try with_reducible rfl))
            simp only [PT]
            first | (refine tk 36 (oi := ⟨some 191, _, _, _, _, _⟩) (v := undef) rfl (by kernel_rfl) (.inr ⟨by rfl, rfl⟩) hHeld ?_) | (refine tk 36 (oi := ⟨some 191, _, _, _, _, _⟩) (v := ?_) rfl (by kernel_rfl) (.inl ⟨by rfl, ?_⟩) hHeld ?_; rotate_left; focus (intro w hSw; (try dsimp only at hSw); go_simp; try with_reducible rfl))
            simp only [PT]
            first | (refine tk 37 (oi := ⟨some 192, _, _, _, _, _⟩) (v := undef) rfl (by kernel_rfl) (.inr ⟨by rfl, rfl⟩) hHeld ?_) | (refine tk 37 (oi := ⟨some 192, _, _, _, _, _⟩) (v := ?_) rfl (by kernel_rfl) (.inl ⟨by rfl, ?_⟩) hHeld ?_; rotate_left; focus (intro w hSw; (try dsimp only at hSw); go_simp; try with_reducible rfl))
            simp only [PT]
            first | (refine tk 38 (oi := ⟨some 193, _, _, _, _, _⟩) (v := undef) rfl (by kernel_rfl) (.inr ⟨by rfl, rfl⟩) hHeld ?_) | (refine tk 38 (oi := ⟨some 193, _, _, _, _, _⟩) (v := ?_) rfl (by kernel_rfl) (.inl ⟨by rfl, ?_⟩) hHeld ?_; rotate_left; focus (intro w hSw; (try dsimp only at hSw); go_simp; try with_reducible rfl))
            simp only [PT]
            first | (refine tk 39 (oi := ⟨some 194, _, _, _, _, _⟩) (v := undef) rfl (by kernel_rfl) (.inr ⟨by rfl, rfl⟩) hHeld ?_) | (refine tk 39 (oi := ⟨some 194, _, _, _, _, _⟩) (v := ?_) rfl (by kernel_rfl) (.inl ⟨by rfl, ?_⟩) hHeld ?_; rotate_left; focus (intro w hSw; (try dsimp only at hSw); go_simp; try with_reducible rfl))
            simp only [PT]
            first | (refine tk 40 (oi := ⟨some 195, _, _, _, _, _⟩) (v := undef) rfl (by kernel_rfl) (.inr ⟨by rfl, rfl⟩) hHeld ?_) | (refine tk 40 (oi := ⟨some 195, _, _, _, _, _⟩) (v := ?_) rfl (by kernel_rfl) (.inl ⟨by rfl, ?_⟩) hHeld ?_; rotate_left; focus (intro w hSw; (try dsimp only at hSw); go_simp; try with_reducible rfl))
            simp only [PT]
            refine tk 41 (oi := ⟨some 196, _, _, _, _, _⟩) (v := ?_) rfl (by kernel_rfl) (.inl ⟨by rfl, ?_⟩) hHeld ?_; rotate_left; focus (intro w hSw; (try dsimp only at hSw); go_simp; try with_reducible rfl)
            simp only [PT]
            refine wpAnyH_done (by kernel_rfl) ?_ _
            go_wp2_with fail
            go_roundw
            case rel => exact ⟨m + 1, by omega, by go_num, Lib.hid (HB.out.trans (Below.mono bup HB.out.size)), Lib.hid (HR.out.keep bup), Lib.hid (HWS.out.below bup), Lib.hid (hatB HG13 bup)⟩
            case measure => first | (simp [intOf]; done) | (simp [intOf]; omega)

end Go.Proofs.Ytgpdlhbndoeldaa
