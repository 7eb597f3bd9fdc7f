/-
  Joined by program (merge.py): FloE.
-/
import Derived.Deep.DeepCutAuto
import Derived.Test.YtgpdlhbndoeldaaC9
/-
  Chapter 21: the statement FlowPlays: walked (written by gen/flawe.py).
-/
namespace Go.Proofs.Ytgpdlhbndoeldaa
open Go.RowKit Go.Sort
set_option linter.unusedVariables false
set_option linter.unusedSimpArgs false
set_option maxRecDepth 100000
set_option maxHeartbeats 16000000

theorem plays21_walk (kb : List UInt8) (hk : kb.length = 16) (nn : Nat) (hn : nn < 256) (ad : Option Addr) (n c : Nat) (xs : List ActV) (w : World) (hv : Acts w ad n c xs) :
    Calls Try.prog 8 #[.agg (BV kb).toArray, .int .u8 (nn : Int), .slice ad n c] w fun e w' => e = .returned (.bool true) ∧ Below w.heap.size w w' := by
  have HB := Lib.hid (Below.refl w.heap.size w)
  have HIK : Hid ((Try.prog.info? 22).map (·.size) = some (BV kb).length) := Lib.hid (by rw [BV_length, hk]; kernel_rfl)
  have HK := Lib.hid hk
  have HNN := Lib.hid hn
  have HV := Lib.hid hv
  have hle := hv.le
  have HLN := Lib.hid hv.len
  have hrn := roomN_le nn
  clear hk hv hn
  go_enter Try.func8, Try.ntmps8
  go_wp2_with (first
    | ((with_reducible refine sl 3 ?_); go_must (refine wpL_boxG rfl 22 (.tmp 0) rfl (BV kb).toArray rfl ?_); intro wb3 g3 he__ le_3 lt_3 hg__ hb__; have hE__ := cU HB bup hb__; replace HB := ck HB hE__; clear hE__ hb__; have HG3 := Lib.hid hg__; clear hg__ he__; simp only [PT])
    | (go_at_call 10; go_must (refine (awake_any _).mono ?_); rintro e wa ⟨rfl, hb__⟩; have hE__ := cU HB bup hb__; replace HB := ck HB hE__; (try replace HG3 := ck HG3 hE__); clear hE__ hb__))
  go_at_call 22
  refine (fewA_any ad n c xs _ (HV.out.below HB.out)).mono ?_
  rintro e w3 ⟨⟨bf, rfl, hf⟩, hb__⟩
  have hE__ := cU HB bup hb__; replace HB := ck HB hE__; (try replace HG3 := ck HG3 hE__); clear hE__ hb__
  cases bf with
  | false =>
    clear hf
    go_wp2_with (first
      | (go_at_call 10; go_must (refine (awake_any _).mono ?_); rintro e wa ⟨rfl, hb__⟩; have hE__ := cU HB bup hb__; replace HB := ck HB hE__; (try replace HG3 := ck HG3 hE__); clear hE__ hb__))
    go_ret
    exact ⟨rfl, HB.out⟩
  | true =>
    have HF := Lib.hid (hf rfl)
    clear hf
    go_wp2_with fail
    refine wp_region_held_drew (S := fun u__ => u__.heap[g3]? = some (.cells (BV kb).toArray 22 (0, 0))) (by kernel_rfl) ?_ (fun hHeld => ?_)
    focus (exact hatB HG3 bup)
    refine' tk 0 (oi := ⟨some 30, _, _, _, _, _⟩) (v := _) rfl (by kernel_rfl) (yieldsIf_load_mid (by rfl) _ _ rfl _ _ rfl (BV kb) _ (fun _ h => range_block h) (Try.underlying22) rfl (HIK.out)) hHeld ?_
    simp only [PT]
    refine tk 1 (oi := ⟨some 31, _, _, _, _, _⟩) (v := ?_) rfl (by kernel_rfl) (.inl ⟨by rfl, ?_⟩) hHeld ?_; rotate_left; focus (intro w hSw; (try dsimp only at hSw); go_simp; try with_reducible rfl)
    simp only [PT]
    refine wpAnyH_ready (rs := [2]) (by kernel_rfl) (by simp) ?_
    refine (AllReadyH.cons (o := ⟨some 32, _, _, _, _, _⟩) rfl (fun K hK => ?_) AllReadyH.nil)
    focus (go_simp; go_must (refine (room_any nn HNN.out _).mono ?_); rintro e w5 ⟨rfl, hb__⟩; have hE__ := cU HB bup hb__; replace HB := ck HB hE__; (try replace HG3 := ck HG3 hE__); clear hE__ hb__; go_wp2_with fail)
    refine hK.out _ _ ?_ (fun hHeld => ?_)
    focus (exact hatB HG3 bup)
    clear hK K
    try simp only [PT]
    refine wpAnyH_ready (rs := [3]) (by kernel_rfl) (by simp) ?_
    refine (AllReadyH.cons (o := ⟨some 33, _, _, _, _, _⟩) rfl (fun K hK => ?_) AllReadyH.nil)
    focus (go_simp; go_must (refine (new_rep kb HK.out (roomN nn) (roomN_le nn).1 (by have := (roomN_le nn).2; omega) _).mono ?_); rintro e w1 ⟨p, q, S0, rfl, hr, hS0, lq, lqp, hb__⟩; have HQ : Hid (w.heap.size ≤ q) := Lib.hid (Nat.le_trans HB.out.size (Nat.le_trans (bsz bup) lq)); have HP : Hid (w.heap.size ≤ p) := Lib.hid (by have := HQ.out; omega); have hE__ := cU HB bup hb__; replace HB := ck HB hE__; (try replace HG3 := ck HG3 hE__); clear hE__ hb__; have HR := Lib.hid hr; have HS0 := Lib.hid hS0; clear hr hS0 lq lqp; go_wp2_with fail)
    refine hK.out _ _ ?_ (fun hHeld => ?_)
    focus (exact hatB HG3 bup)
    clear hK K
    try simp only [PT]
    refine tk 4 (oi := ⟨some 29, _, _, _, _, _⟩) (v := ?_) rfl (by kernel_rfl) (.inl ⟨by rfl, ?_⟩) hHeld ?_; rotate_left; focus (intro w hSw; (try dsimp only at hSw); go_simp; try with_reducible rfl)
    simp only [PT]
    refine tk 5 (oi := ⟨some 34, _, _, _, _, _⟩) (v := ?_) rfl (by kernel_rfl) (.inl ⟨by rfl, ?_⟩) hHeld ?_; rotate_left; focus (intro w hSw; (try dsimp only at hSw); go_simp; try with_reducible rfl)
    simp only [PT]
    refine tk 6 (oi := ⟨some 35, _, _, _, _, _⟩) (v := ?_) rfl (by kernel_rfl) (.inl ⟨by rfl, ?_⟩) hHeld ?_; rotate_left; focus (intro w hSw; (try dsimp only at hSw); go_simp; try with_reducible rfl)
    simp only [PT]
    refine tk 7 (oi := ⟨some 7, _, _, _, _, _⟩) (v := ?_) rfl (by kernel_rfl) (.inl ⟨by rfl, ?_⟩) hHeld ?_; rotate_left; focus (intro w hSw; (try dsimp only at hSw); go_simp; try with_reducible rfl)
    simp only [PT]
    refine tk 8 (oi := ⟨some 8, _, _, _, _, _⟩) (v := ?_) rfl (by kernel_rfl) (.inl ⟨by rfl, ?_⟩) hHeld ?_; rotate_left; focus (intro w hSw; (try dsimp only at hSw); go_simp; try with_reducible rfl)
    simp only [PT]
    refine wpAnyH_done (by kernel_rfl) ?_ _
    clear HG3
    go_wp2_with (first
      | (go_at_call 18; go_must (refine (room_any nn HNN.out _).mono ?_); rintro e w5 ⟨rfl, hb__⟩; have hE__ := cU HB bup hb__; replace HB := ck HB hE__; (try replace HR := ck HR hE__); clear hE__ hb__)
      | ((with_reducible refine sl 40 ?_); go_must (refine wpL_build rfl 59 _ rfl [(0, .int .i64 ((roomN nn : Nat) : Int))] rfl #[.int .i64 ((roomN nn : Nat) : Int), .slice none 0 0] (built_rt _) ?_); simp only [PT])
      | ((with_reducible refine sl 41 ?_); go_must (refine wpL_boxG rfl 59 (.tmp 40) rfl #[.int .i64 ((roomN nn : Nat) : Int), .slice none 0 0] rfl ?_); intro wb41 g41 he__ le_41 lt_41 hg__ hb__; go_must (have hpr : p < g41 := Nat.lt_of_lt_of_le (lt_of_block HR.out.tb.hp) le_41); go_must (have hqr : q < g41 := Nat.lt_of_lt_of_le (lt_of_block HR.out.tb.hq) le_41); go_must (have HRr : Hid (w.heap.size ≤ g41) := Lib.hid (Nat.le_trans HB.out.size le_41)); have hE__ := cU HB bup hb__; replace HB := ck HB hE__; (try replace HR := ck HR hE__); clear hE__ hb__; have HG41 := Lib.hid hg__; clear hg__ he__; simp only [PT]))
    obtain ⟨r, hr⟩ : ∃ r, r = g41 := ⟨_, rfl⟩
    subst hr
    have HT := Lib.hid (rt_new HG41.out)
    have HTW := Lib.hid (twin_new HS0.out)
    clear HG41 HS0
    go_loopw [10] (fun i wr => ∃ (k : Nat) (S : List Slt) (ls : List FloW), k ≤ n ∧ i = .int .i64 (k : Int) ∧ Hid (Below w.heap.size w wr) ∧ Hid (Rep wr p q kb (roomN nn) S) ∧ Hid (RT wr r r (roomN nn) ls) ∧ Hid (Twin S ls)) (fun i _ => n - (intOf i).toNat)
    case atStart => exact ⟨0, S0, [], by omega, rfl, HB, HR, HT, HTW⟩
    case round =>
      clear HB HR HT HTW
      obtain ⟨k, S, ls, hk, rfl, HB, HR, HT, HTW⟩ := hrel
      by_cases hend : k = n
      · subst k
        as_aux_lemma =>
        obtain ⟨ad2, c2, h1, h2, _⟩ := HT.out
        have HGT := Lib.hid h1
        have HF2 := Lib.hid h2
        have hle2 := h2.le
        clear h1 h2
        go_wp2_with fail
        refine wp_region_held_drew (S := fun u__ => u__.cell? ⟨r, 1, none⟩ = some (.slice ad2 ls.length c2)) (by kernel_rfl) ?_ (fun hHeld => ?_)
        focus (exact cellV (hatB HGT bup) rfl)
        refine tk 0 (oi := ⟨some 186, _, _, _, _, _⟩) (v := ?_) rfl (by kernel_rfl) (.inl ⟨by rfl, ?_⟩) hHeld ?_; rotate_left; focus (intro w hSw; (try dsimp only at hSw); go_simp; try with_reducible rfl)
        simp only [PT]
        refine tk 2 (oi := ⟨some 188, _, _, _, _, _⟩) (v := ?_) rfl (by kernel_rfl) (.inl ⟨by rfl, ?_⟩) hHeld ?_; rotate_left; focus (intro w hSw; (try dsimp only at hSw); go_simp; try with_reducible rfl)
        simp only [PT]
        refine tk 3 (oi := ⟨some 189, _, _, _, _, _⟩) (v := ?_) rfl (by kernel_rfl) (.inl ⟨by rfl, ?_⟩) hHeld ?_; rotate_left; focus (intro w hSw; (try dsimp only at hSw); go_simp; try with_reducible rfl)
        simp only [PT]
        refine tk 4 (oi := ⟨some 190, _, _, _, _, _⟩) (v := ?_) rfl (by kernel_rfl) (.inl ⟨by rfl, ?_⟩) hHeld ?_; rotate_left; focus (intro w hSw; (try dsimp only at hSw); go_simp; try with_reducible rfl)
        simp only [PT]
        refine tk 5 (oi := ⟨some 191, _, _, _, _, _⟩) (v := ?_) rfl (by kernel_rfl) (.inl ⟨by rfl, ?_⟩) hHeld ?_; rotate_left; focus (intro w hSw; (try dsimp only at hSw); go_simp; try with_reducible rfl)
        simp only [PT]
        refine wpAnyH_ready (rs := [1]) (by kernel_rfl) (by simp) ?_
        refine (AllReadyH.cons (o := ⟨some 187, _, _, _, _, _⟩) rfl (fun K hK => ?_) AllReadyH.nil)
        focus (go_simp; go_must (refine (list_law p q kb _ S _ (HR.out.keep bup)).mono ?_); rintro e w4 ⟨adw, cw, l2, rfl, hpm, hso, ho, hb__⟩; go_must (obtain rfl : ls = l2 := (HTW.out.eq HR.out.good hso hpm).symm); have hE__ := cU HB bup hb__; replace HB := ck HB hE__; (try replace HR := ck HR hE__); (try replace HGT := ck HGT hE__); (try replace HF2 := ck HF2 hE__); clear hE__ hb__; have HWS := Lib.hid (Fls.of_own ho); clear ho hpm hso; go_wp2_with fail)
        refine hK.out _ _ ?_ (fun hHeld => ?_)
        focus (exact cellV (hatB HGT bup) rfl)
        clear hK K
        try simp only [PT]
        refine wpAnyH_ready (rs := [6]) (by kernel_rfl) (by simp) ?_
        refine (AllReadyH.cons (o := ⟨some 192, _, _, _, _, _⟩) rfl (fun K hK => ?_) AllReadyH.nil)
        focus (go_simp; go_must (refine (same_at adw ad2 _ cw _ c2 ls _ (HWS.out.below bup) (HF2.out.below bup)).mono ?_); rintro e w5 ⟨rfl, hb__⟩; have hE__ := cU HB bup hb__; replace HB := ck HB hE__; (try replace HR := ck HR hE__); (try replace HGT := ck HGT hE__); (try replace HF2 := ck HF2 hE__); clear hE__ hb__; go_wp2_with fail)
        refine hK.out _ _ ?_ (fun hHeld => ?_)
        focus (exact cellV (hatB HGT bup) rfl)
        clear hK K
        try simp only [PT]
        refine tk 7 (oi := ⟨some 6, _, _, _, _, _⟩) (v := ?_) rfl (by kernel_rfl) (.inl ⟨by rfl, ?_⟩) hHeld ?_; rotate_left; focus (intro w hSw; (try dsimp only at hSw); go_simp; try with_reducible rfl)
        simp only [PT]
        refine wpAnyH_done (by kernel_rfl) ?_ _
        go_wp2_with fail
        go_ret
        exact ⟨rfl, (HB.out.trans (Below.mono bup HB.out.size))⟩
      have hlt : k < n := by omega
      obtain ⟨b, off, rfl, hbl, hat⟩ := HV.out.at (by have := HLN.out; omega)
      clear hat
      obtain ⟨x, hx⟩ : ∃ x, x = xs[k]'(by have := HLN.out; omega) := ⟨_, rfl⟩
      have HXG : Hid (∀ w', Below w.heap.size w w' → w'.rangeAt b (off + k * 49) x.cells) := Lib.hid (fun w' hb => by rw [hx]; exact (HV.out.below hb).get k _)
      have HSZ : Hid (x.fl.v.name.size ≤ 140737488351232) := Lib.hid (by rw [hx]; have := HF.out.2 _ (List.getElem_mem (show k < xs.length by have := HLN.out; omega)); omega)
      clear hx
      go_upto_if 58 with (first
        | ((with_reducible refine sl 52 ?_); go_must (refine wpL_load rfl 28 (.tmp 51) rfl b (off + k * 49 + 1) rfl x.fl.v.cells _ (act_flow (HXG.out _ (HB.out.trans (Below.mono bup HB.out.size)))) Try.underlying28 rfl (one_size x.fl) ?_); simp only [PT])
        | ((with_reducible refine sl 11 ?_); go_must (refine wpL_newG rfl rfl 28 rfl (.tmp 11) (.tmp 52) rfl (x.fl.v.cells).toArray zeroF.cells.toArray (new_info (by first | exact Flo.length zeroF_ok | exact FloW.length _ | exact LEN_11)) (new_size (by first | exact Flo.length zeroF_ok | exact FloW.length _ | exact LEN_11)) (flo_one _) (fun _ => rfl) (fun _ => rfl) ?_); intro wn11 g11 le_11 hg__ hb__; go_must (have lp11 : p < g11 := Nat.lt_of_lt_of_le (lt_of_block HR.out.tb.hp) le_11); go_must (have lq11 : q < g11 := Nat.lt_of_lt_of_le (lt_of_block HR.out.tb.hq) le_11); go_must (have lr11 : r < g11 := Nat.lt_of_lt_of_le HT.out.lt le_11); have hE__ := cU HB bup hb__; replace HB := ck HB hE__; (try replace HR := ck HR hE__); (try replace HT := ck HT hE__); clear hE__ hb__; have HG11 := Lib.hid hg__; clear hg__; simp only [PT])
        | ((with_reducible refine sl 57 ?_); go_must (refine wpL_loadC rfl 3 (.tmp 56) rfl b (off + k * 49) rfl (.int .i64 x.kind) (act_kind (HXG.out _ (HB.out.trans (Below.mono bup HB.out.size)))) Try.underlying3 rfl ?_); simp only [PT]))
      have HNI := Lib.hid (HTW.out.nice HR.out.good)
      have hl8 : ls.length < 8192 := by have := HTW.out.len; have := HR.out.le; omega
      go_cut [] (fun wx => ∃ (S : List Slt) (ls : List FloW), Hid (Below w.heap.size w wx) ∧ Hid (Rep wx p q kb (roomN nn) S) ∧ Hid (RT wx r r (roomN nn) ls) ∧ Hid (Twin S ls) ∧ Hid (wx.heap[g11]? = some (.cells x.fl.v.cells.toArray 28 (0, 0))))
      case first =>
        as_aux_lemma =>
        by_cases k0 : x.kind = 0
        · have hk0 : (x.kind == 0) = true := by simp [k0]
          go_wp2_with (first
            | ((with_reducible refine sl 61 ?_); go_must (refine wpL_load rfl 28 (.tmp 11) rfl g11 0 rfl x.fl.v.cells _ (range_block (hatB HG11 bup)) Try.underlying28 rfl (one_size (x.fl)) ?_); simp only [PT])
            | (go_at_call 21; (with_reducible show Calls _ _ #[_, .agg x.fl.v.cells.toArray] _ _); go_must (refine (put_law p q kb _ S x.fl HSZ.out _ (HR.out.keep bup)).mono ?_); rintro e w6 ⟨gone, left, err, S', rfl, hr, hb__, hps⟩; have HBn := Lib.hid (But.below (p := p) (q := q) hb__ (HB.out.trans (Below.mono bup HB.out.size)) HP.out HQ.out (Nat.le_refl _)); go_must (have HG11n := Lib.hid (hb__.keep (hatB HG11 bup) (by omega) (by omega))); clear HG11; have HG11 := HG11n; clear HG11n; go_must (have HTn := Lib.hid (RT.but (HT.out.keep bup) hb__ hpr hqr (by omega) (by omega))); clear HT HB hb__; have HT := HTn; have HB := HBn; clear HTn HBn; have HPW := Lib.hid hps; have HR0 := HR; clear HR; have HR := Lib.hid hr; clear hr hps)
            | ((with_reducible refine sl 12 ?_); go_must (refine wpL_newG rfl rfl 28 rfl (.tmp 12) (.tmp 63) rfl (gone.v.cells).toArray zeroF.cells.toArray (new_info (by first | exact Flo.length zeroF_ok | exact FloW.length _ | exact LEN_12)) (new_size (by first | exact Flo.length zeroF_ok | exact FloW.length _ | exact LEN_12)) (flo_one _) (fun _ => rfl) (fun _ => rfl) ?_); intro wn12 g12 le_12 hg__ hb__; go_must (have lr12 : r < g12 := Nat.lt_of_lt_of_le HT.out.lt le_12); have hE__ := cU HB bup hb__; replace HB := ck HB hE__; (try replace HR := ck HR hE__); (try replace HT := ck HT hE__); (try replace HG11 := ck HG11 hE__); clear hE__ hb__; have HG12 := Lib.hid hg__; clear hg__; simp only [PT])
            | ((with_reducible refine sl 68 ?_); go_must (refine wpL_load rfl 28 (.tmp 11) rfl g11 0 rfl x.fl.v.cells _ (range_block (hatB HG11 bup)) Try.underlying28 rfl (one_size (x.fl)) ?_); simp only [PT])
            | (go_at_call 26; (with_reducible show Calls _ _ #[_, .agg x.fl.v.cells.toArray] _ _); go_must (refine (rput_any r r (roomN nn) ls x.fl HSZ.out HNI.out.right HNI.out.one hl8 hrn.1 _ (HT.out.keep bup)).mono ?_); rintro e w7 ⟨gone2, left2, err2, ls', rfl, ht, hb__, hcs⟩; have HBn := Lib.hid (But.below (p := r) (q := r) hb__ (HB.out.trans (Below.mono bup HB.out.size)) HRr.out HRr.out (Nat.le_refl _)); go_must (have HG11n := Lib.hid (hb__.keep (hatB HG11 bup) (by omega) (by omega))); clear HG11; have HG11 := HG11n; clear HG11n; go_must (have HRn := Lib.hid (Rep.but (HR.out.keep bup) hb__ (by omega) (by omega) (by omega) (by omega))); go_must (have HG12n := Lib.hid (hb__.keep (hatB HG12 bup) (by omega) (by omega))); clear HR HB hb__ HG12; have HR := HRn; have HB := HBn; have HG12 := HG12n; clear HRn HBn HG12n; go_must (obtain ⟨rfl, rfl, rfl, htw⟩ := put_both HR0.out.good HTW.out HPW.out hcs); clear HT; have HT := Lib.hid ht; have HTW2 := Lib.hid htw; clear ht htw hcs)
            | ((with_reducible refine sl 15 ?_); go_must (refine wpL_newG rfl rfl 28 rfl (.tmp 15) (.tmp 70) rfl (gone2.v.cells).toArray zeroF.cells.toArray (new_info (by first | exact Flo.length zeroF_ok | exact FloW.length _ | exact LEN_15)) (new_size (by first | exact Flo.length zeroF_ok | exact FloW.length _ | exact LEN_15)) (flo_one _) (fun _ => rfl) (fun _ => rfl) ?_); intro wn15 g15 le_15 hg__ hb__; have hE__ := cU HB bup hb__; replace HB := ck HB hE__; (try replace HR := ck HR hE__); (try replace HT := ck HT hE__); (try replace HG11 := ck HG11 hE__); (try replace HG12 := ck HG12 hE__); clear hE__ hb__; have HG15 := Lib.hid hg__; clear hg__; simp only [PT])
            | ((with_reducible refine sl 73 ?_); go_must (refine wpL_load rfl 28 (.tmp 12) rfl g12 0 rfl gone2.v.cells _ (range_block (hatB HG12 bup)) Try.underlying28 rfl (one_size (gone2)) ?_); simp only [PT])
            | ((with_reducible refine sl 74 ?_); go_must (refine wpL_load rfl 28 (.tmp 15) rfl g15 0 rfl gone2.v.cells _ (range_block (hatB HG15 bup)) Try.underlying28 rfl (one_size (gone2)) ?_); simp only [PT])
            | ((with_reducible refine sl 75 ?_); go_must (refine wpL_neqF rfl (.tmp 73) (.tmp 74) rfl gone2 gone2 false (by simp) rfl rfl ?_); simp only [PT]))
          go_meet
          exact ⟨S', ls', HB, HR, HT, HTW2, HG11⟩
        · have hk0 : (x.kind == 0) = false := by simp [k0]
          go_wp2_with fail
          go_meet
          exact ⟨S, ls, HB, HR, HT, HTW, HG11⟩
      case rest =>
        clear HB HR HT HTW HG11 HNI hl8
        obtain ⟨S, ls, HB, HR, HT, HTW, HG11⟩ := hcut
        go_upto_region 16 with fail
        have HNI := Lib.hid (HTW.out.nice HR.out.good)
        go_cut [102] (fun s102 wx => s102 = .bool false ∧ ∃ (S : List Slt) (ls : List FloW), Hid (Below w.heap.size w wx) ∧ Hid (Rep wx p q kb (roomN nn) S) ∧ Hid (RT wx r r (roomN nn) ls) ∧ Hid (Twin S ls) ∧ Hid (wx.heap[g11]? = some (.cells x.fl.v.cells.toArray 28 (0, 0))))
        case first =>
          as_aux_lemma =>
          by_cases k2 : x.kind = 2
          · have hk2 : (x.kind == 2) = true := by simp [k2]
            refine wp_region_held_drew (S := fun u__ => u__.cell? ⟨b, off + k * 49, none⟩ = some (.int .i64 x.kind) ∧ u__.heap[g11]? = some (.cells x.fl.v.cells.toArray 28 (0, 0))) (by kernel_rfl) ?_ (fun hHeld => ?_)
            focus (exact ⟨act_kind (HXG.out _ (HB.out.trans (Below.mono bup HB.out.size))), hatB HG11 bup⟩)
            refine tk 0 (oi := ⟨some 86, _, _, _, _, _⟩) (v := ?_) rfl (by kernel_rfl) (.inl ⟨by rfl, ?_⟩) hHeld ?_; rotate_left; focus (intro w hSw; (try dsimp only at hSw); go_simp; try with_reducible rfl)
            simp only [PT]
            refine tk 1 (oi := ⟨some 87, _, _, _, _, _⟩) (v := ?_) rfl (by kernel_rfl) (.inl ⟨by rfl, ?_⟩) hHeld ?_; rotate_left; focus (intro w hSw; (try dsimp only at hSw); go_simp; try with_reducible rfl)
            simp only [PT]
            refine tk 2 (oi := ⟨some 88, _, _, _, _, _⟩) (v := ?_) rfl (by kernel_rfl) (.inl ⟨by rfl, ?_⟩) hHeld ?_; rotate_left; focus (intro w hSw; (try dsimp only at hSw); go_simp; try with_reducible rfl)
            simp only [PT]
            refine tk 3 (oi := ⟨some 89, _, _, _, _, _⟩) (v := ?_) rfl (by kernel_rfl) (.inl ⟨by rfl, ?_⟩) hHeld ?_; rotate_left; focus (intro w hSw; (try dsimp only at hSw); go_simp; try with_reducible rfl)
            simp only [PT]
            refine' tk 4 (oi := ⟨some 90, _, _, _, _, _⟩) (v := _) rfl (by kernel_rfl) (yields_loadC (by rfl) 3 (.tmp 89) rfl b (off + k * 49) rfl (.int .i64 x.kind) (fun _ h => h.1) Try.underlying3 rfl) hHeld ?_
            simp only [PT]
            refine' tk 5 (oi := ⟨some 91, _, _, _, _, _⟩) (v := (.bool true)) rfl (by kernel_rfl) (.inl ⟨by rfl, ?_⟩) hHeld ?_; focus (intro w hSw; (try dsimp only at hSw); go_simp; first | done | rfl | omega | (simp [*]; done) | (simp [*]; omega))
            simp only [PT]
            refine tk 6 (oi := ⟨some 92, _, _, _, _, _⟩) (v := ?_) rfl (by kernel_rfl) (.inl ⟨by rfl, ?_⟩) hHeld ?_; rotate_left; focus (intro w hSw; (try dsimp only at hSw); go_simp; try with_reducible rfl)
            simp only [PT]
            first | (refine tk 7 (oi := ⟨some 93, _, _, _, _, _⟩) (v := undef) rfl (by kernel_rfl) (.inr ⟨by rfl, rfl⟩) hHeld ?_) | (refine tk 7 (oi := ⟨some 93, _, _, _, _, _⟩) (v := ?_) rfl (by kernel_rfl) (.inl ⟨by rfl, ?_⟩) hHeld ?_; rotate_left; focus (intro w hSw; (try dsimp only at hSw); go_simp; try with_reducible rfl))
            simp only [PT]
            first | (refine tk 8 (oi := ⟨some 94, _, _, _, _, _⟩) (v := undef) rfl (by kernel_rfl) (.inr ⟨by rfl, rfl⟩) hHeld ?_) | (refine tk 8 (oi := ⟨some 94, _, _, _, _, _⟩) (v := ?_) rfl (by kernel_rfl) (.inl ⟨by rfl, ?_⟩) hHeld ?_; rotate_left; focus (intro w hSw; (try dsimp only at hSw); go_simp; try with_reducible rfl))
            simp only [PT]
            first | (refine tk 9 (oi := ⟨some 95, _, _, _, _, _⟩) (v := undef) rfl (by kernel_rfl) (.inr ⟨by rfl, rfl⟩) hHeld ?_) | (refine' tk 9 (oi := ⟨some 95, _, _, _, _, _⟩) (v := _) rfl (by kernel_rfl) (yieldsIf_load_mid (by rfl) _ _ rfl _ _ rfl (x.fl.v.key.cells) _ (fun _ h => range_key (range_block h.2)) (Try.underlying26) rfl (tup_len x.fl)) hHeld ?_)
            simp only [PT]
            first | (refine tk 11 (oi := ⟨some 97, _, _, _, _, _⟩) (v := undef) rfl (by kernel_rfl) (.inr ⟨by rfl, rfl⟩) hHeld ?_) | (refine tk 11 (oi := ⟨some 97, _, _, _, _, _⟩) (v := ?_) rfl (by kernel_rfl) (.inl ⟨by rfl, ?_⟩) hHeld ?_; rotate_left; focus (intro w hSw; (try dsimp only at hSw); go_simp; try with_reducible rfl))
            simp only [PT]
            first | (refine tk 12 (oi := ⟨some 98, _, _, _, _, _⟩) (v := undef) rfl (by kernel_rfl) (.inr ⟨by rfl, rfl⟩) hHeld ?_) | (refine tk 12 (oi := ⟨some 98, _, _, _, _, _⟩) (v := ?_) rfl (by kernel_rfl) (.inl ⟨by rfl, ?_⟩) hHeld ?_; rotate_left; focus (intro w hSw; (try dsimp only at hSw); go_simp; try with_reducible rfl))
            simp only [PT]
            first | (refine tk 13 (oi := ⟨some 99, _, _, _, _, _⟩) (v := undef) rfl (by kernel_rfl) (.inr ⟨by rfl, rfl⟩) hHeld ?_) | (refine' tk 13 (oi := ⟨some 99, _, _, _, _, _⟩) (v := _) rfl (by kernel_rfl) (yieldsIf_load_mid (by rfl) _ _ rfl _ _ rfl (x.fl.v.key.cells) _ (fun _ h => range_key (range_block h.2)) (Try.underlying26) rfl (tup_len x.fl)) hHeld ?_)
            simp only [PT]
            refine wpAnyH_ready (rs := [10]) (by kernel_rfl) (by simp) ?_
            refine (AllReadyH.cons (o := ⟨some 96, _, _, _, _, _⟩) rfl (fun K hK => ?_) AllReadyH.nil)
            focus (first | (refine skip_step ?_ ?_; focus (rfl)) | (go_simp; go_must (refine (drop_rep p q kb _ S x.fl.v.key x.fl.ok.1 x.fl.ok.2.1 _ (HR.out.keep bup)).mono ?_); rintro e w6 ⟨S', rfl, hr, hs, hb__⟩; have HBn := Lib.hid (But.below (p := p) (q := q) hb__ (HB.out.trans (Below.mono bup HB.out.size)) HP.out HQ.out (Nat.le_refl _)); go_must (have HG11n := Lib.hid (hb__.keep (hatB HG11 bup) (by omega) (by omega))); clear HG11; have HG11 := HG11n; clear HG11n; go_must (have HTn := Lib.hid (RT.but (HT.out.keep bup) hb__ hpr hqr (by omega) (by omega))); clear HT HB hb__; have HT := HTn; have HB := HBn; clear HTn HBn; have HPS := Lib.hid hs; have HR0 := HR; clear HR; have HR := Lib.hid hr; clear hr hs; go_wp2_with fail))
            refine hK.out _ _ ?_ (fun hHeld => ?_)
            focus (exact ⟨act_kind (HXG.out _ (HB.out.trans (Below.mono bup HB.out.size))), hatB HG11 bup⟩)
            clear hK K
            try simp only [PT]
            refine wpAnyH_ready (rs := [14]) (by kernel_rfl) (by simp) ?_
            refine (AllReadyH.cons (o := ⟨some 100, _, _, _, _, _⟩) rfl (fun K hK => ?_) AllReadyH.nil)
            focus (first | (refine skip_step ?_ ?_; focus (rfl)) | (go_simp; go_must (refine (rdrop_any r r (roomN nn) ls x.fl HNI.out.one _ (HT.out.keep bup)).mono ?_); rintro e w7 ⟨t2, rfl, ht, hb__, htt⟩; have HBn := Lib.hid (But.below (p := r) (q := r) hb__ (HB.out.trans (Below.mono bup HB.out.size)) HRr.out HRr.out (Nat.le_refl _)); go_must (have HG11n := Lib.hid (hb__.keep (hatB HG11 bup) (by omega) (by omega))); clear HG11; have HG11 := HG11n; clear HG11n; go_must (have HRn := Lib.hid (Rep.but (HR.out.keep bup) hb__ (by omega) (by omega) (by omega) (by omega))); clear HR HB hb__; have HR := HRn; have HB := HBn; clear HRn HBn; go_must (obtain ⟨rfl, htw⟩ := drop_both HR0.out.good HTW.out HPS.out htt); clear HT; have HT := Lib.hid ht; have HTW2 := Lib.hid htw; clear ht htw htt; go_wp2_with fail))
            refine hK.out _ _ ?_ (fun hHeld => ?_)
            focus (exact ⟨act_kind (HXG.out _ (HB.out.trans (Below.mono bup HB.out.size))), hatB HG11 bup⟩)
            clear hK K
            try simp only [PT]
            first | (refine tk 15 (oi := ⟨some 101, _, _, _, _, _⟩) (v := undef) rfl (by kernel_rfl) (.inr ⟨by rfl, rfl⟩) hHeld ?_) | (refine' tk 15 (oi := ⟨some 101, _, _, _, _, _⟩) (v := (.bool false)) rfl (by kernel_rfl) (.inl ⟨by rfl, ?_⟩) hHeld ?_; focus (intro w hSw; (try dsimp only at hSw); go_simp; first | done | rfl | (simp [*]; done) | (simp [*]; omega)))
            simp only [PT]
            refine tk 16 (oi := ⟨some 102, _, _, _, _, _⟩) (v := ?_) rfl (by kernel_rfl) (.inl ⟨by rfl, ?_⟩) hHeld ?_; rotate_left; focus (intro w hSw; (try dsimp only at hSw); go_simp; try with_reducible rfl)
            simp only [PT]
            refine wpAnyH_done (by kernel_rfl) ?_ _
            go_wp2_with fail
            go_meet
            exact ⟨rfl, S', noK ls x.fl.v.key, Lib.hid (HB.out.trans (Below.mono bup HB.out.size)), Lib.hid (HR.out.keep bup), Lib.hid (HT.out.keep bup), HTW2, Lib.hid (hatB HG11 bup)⟩
          · have hk2 : (x.kind == 2) = false := by simp [k2]
            refine wp_region_held_drew (S := fun u__ => u__.cell? ⟨b, off + k * 49, none⟩ = some (.int .i64 x.kind) ∧ u__.heap[g11]? = some (.cells x.fl.v.cells.toArray 28 (0, 0))) (by kernel_rfl) ?_ (fun hHeld => ?_)
            focus (exact ⟨act_kind (HXG.out _ (HB.out.trans (Below.mono bup HB.out.size))), hatB HG11 bup⟩)
            refine tk 0 (oi := ⟨some 86, _, _, _, _, _⟩) (v := ?_) rfl (by kernel_rfl) (.inl ⟨by rfl, ?_⟩) hHeld ?_; rotate_left; focus (intro w hSw; (try dsimp only at hSw); go_simp; try with_reducible rfl)
            simp only [PT]
            refine tk 1 (oi := ⟨some 87, _, _, _, _, _⟩) (v := ?_) rfl (by kernel_rfl) (.inl ⟨by rfl, ?_⟩) hHeld ?_; rotate_left; focus (intro w hSw; (try dsimp only at hSw); go_simp; try with_reducible rfl)
            simp only [PT]
            refine tk 2 (oi := ⟨some 88, _, _, _, _, _⟩) (v := ?_) rfl (by kernel_rfl) (.inl ⟨by rfl, ?_⟩) hHeld ?_; rotate_left; focus (intro w hSw; (try dsimp only at hSw); go_simp; try with_reducible rfl)
            simp only [PT]
            refine tk 3 (oi := ⟨some 89, _, _, _, _, _⟩) (v := ?_) rfl (by kernel_rfl) (.inl ⟨by rfl, ?_⟩) hHeld ?_; rotate_left; focus (intro w hSw; (try dsimp only at hSw); go_simp; try with_reducible rfl)
            simp only [PT]
            refine' tk 4 (oi := ⟨some 90, _, _, _, _, _⟩) (v := _) rfl (by kernel_rfl) (yields_loadC (by rfl) 3 (.tmp 89) rfl b (off + k * 49) rfl (.int .i64 x.kind) (fun _ h => h.1) Try.underlying3 rfl) hHeld ?_
            simp only [PT]
            refine' tk 5 (oi := ⟨some 91, _, _, _, _, _⟩) (v := (.bool false)) rfl (by kernel_rfl) (.inl ⟨by rfl, ?_⟩) hHeld ?_; focus (intro w hSw; (try dsimp only at hSw); go_simp; first | done | rfl | omega | (simp [*]; done) | (simp [*]; omega))
            simp only [PT]
            refine tk 6 (oi := ⟨some 92, _, _, _, _, _⟩) (v := ?_) rfl (by kernel_rfl) (.inl ⟨by rfl, ?_⟩) hHeld ?_; rotate_left; focus (intro w hSw; (try dsimp only at hSw); go_simp; try with_reducible rfl)
            simp only [PT]
            first | (refine tk 7 (oi := ⟨some 93, _, _, _, _, _⟩) (v := undef) rfl (by kernel_rfl) (.inr ⟨by rfl, rfl⟩) hHeld ?_) | (refine tk 7 (oi := ⟨some 93, _, _, _, _, _⟩) (v := ?_) rfl (by kernel_rfl) (.inl ⟨by rfl, ?_⟩) hHeld ?_; rotate_left; focus (intro w hSw; (try dsimp only at hSw); go_simp; try with_reducible rfl))
            simp only [PT]
            first | (refine tk 8 (oi := ⟨some 94, _, _, _, _, _⟩) (v := undef) rfl (by kernel_rfl) (.inr ⟨by rfl, rfl⟩) hHeld ?_) | (refine tk 8 (oi := ⟨some 94, _, _, _, _, _⟩) (v := ?_) rfl (by kernel_rfl) (.inl ⟨by rfl, ?_⟩) hHeld ?_; rotate_left; focus (intro w hSw; (try dsimp only at hSw); go_simp; try with_reducible rfl))
            simp only [PT]
            first | (refine tk 9 (oi := ⟨some 95, _, _, _, _, _⟩) (v := undef) rfl (by kernel_rfl) (.inr ⟨by rfl, rfl⟩) hHeld ?_) | (refine tk 9 (oi := ⟨some 95, _, _, _, _, _⟩) (v := ?_) rfl (by kernel_rfl) (.inl ⟨by rfl, ?_⟩) hHeld ?_; rotate_left; focus (intro w hSw; (try dsimp only at hSw); go_simp; try with_reducible rfl))
            simp only [PT]
            first | (refine tk 11 (oi := ⟨some 97, _, _, _, _, _⟩) (v := undef) rfl (by kernel_rfl) (.inr ⟨by rfl, rfl⟩) hHeld ?_) | (refine tk 11 (oi := ⟨some 97, _, _, _, _, _⟩) (v := ?_) rfl (by kernel_rfl) (.inl ⟨by rfl, ?_⟩) hHeld ?_; rotate_left; focus (intro w hSw; (try dsimp only at hSw); go_simp; try with_reducible rfl))
            simp only [PT]
            first | (refine tk 12 (oi := ⟨some 98, _, _, _, _, _⟩) (v := undef) rfl (by kernel_rfl) (.inr ⟨by rfl, rfl⟩) hHeld ?_) | (refine tk 12 (oi := ⟨some 98, _, _, _, _, _⟩) (v := ?_) rfl (by kernel_rfl) (.inl ⟨by rfl, ?_⟩) hHeld ?_; rotate_left; focus (intro w hSw; (try dsimp only at hSw); go_simp; try with_reducible rfl))
            simp only [PT]
            first | (refine tk 13 (oi := ⟨some 99, _, _, _, _, _⟩) (v := undef) rfl (by kernel_rfl) (.inr ⟨by rfl, rfl⟩) hHeld ?_) | (refine tk 13 (oi := ⟨some 99, _, _, _, _, _⟩) (v := ?_) rfl (by kernel_rfl) (.inl ⟨by rfl, ?_⟩) hHeld ?_; rotate_left; focus (intro w hSw; (try dsimp only at hSw); go_simp; try with_reducible rfl))
            simp only [PT]
            refine wpAnyH_ready (rs := [10]) (by kernel_rfl) (by simp) ?_
            refine (AllReadyH.cons (o := ⟨some 96, _, _, _, _, _⟩) rfl (fun K hK => ?_) AllReadyH.nil)
            (go_simp)
            refine hK.out _ _ ?_ (fun hHeld => ?_)
            focus (exact ⟨act_kind (HXG.out _ (HB.out.trans (Below.mono bup HB.out.size))), hatB HG11 bup⟩)
            clear hK K
            try simp only [PT]
            refine wpAnyH_ready (rs := [14]) (by kernel_rfl) (by simp) ?_
            refine (AllReadyH.cons (o := ⟨some 100, _, _, _, _, _⟩) rfl (fun K hK => ?_) AllReadyH.nil)
            (go_simp)
            refine hK.out _ _ ?_ (fun hHeld => ?_)
            focus (exact ⟨act_kind (HXG.out _ (HB.out.trans (Below.mono bup HB.out.size))), hatB HG11 bup⟩)
            clear hK K
            try simp only [PT]
            first | (refine tk 15 (oi := ⟨some 101, _, _, _, _, _⟩) (v := undef) rfl (by kernel_rfl) (.inr ⟨by rfl, rfl⟩) hHeld ?_) | (refine tk 15 (oi := ⟨some 101, _, _, _, _, _⟩) (v := ?_) rfl (by kernel_rfl) (.inl ⟨by rfl, ?_⟩) hHeld ?_; rotate_left; focus (intro w hSw; (try dsimp only at hSw); go_simp; try with_reducible rfl))
            simp only [PT]
            refine tk 16 (oi := ⟨some 102, _, _, _, _, _⟩) (v := ?_) rfl (by kernel_rfl) (.inl ⟨by rfl, ?_⟩) hHeld ?_; rotate_left; focus (intro w hSw; (try dsimp only at hSw); go_simp; try with_reducible rfl)
            simp only [PT]
            refine wpAnyH_done (by kernel_rfl) ?_ _
            go_wp2_with fail
            go_meet
            exact ⟨rfl, S, ls, Lib.hid (HB.out.trans (Below.mono bup HB.out.size)), Lib.hid (HR.out.keep bup), Lib.hid (HT.out.keep bup), HTW, Lib.hid (hatB HG11 bup)⟩
        case rest =>
          clear HB HR HT HTW HG11 HNI
          obtain ⟨hs102, S, ls, HB, HR, HT, HTW, HG11⟩ := hcut
          subst hs102
          go_upto_region 18 with fail
          have HNI := Lib.hid (HTW.out.nice HR.out.good)
          go_cut [136] (fun s136 wx => s136 = .bool false ∧ ∃ (S : List Slt) (ls : List FloW), Hid (Below w.heap.size w wx) ∧ Hid (Rep wx p q kb (roomN nn) S) ∧ Hid (RT wx r r (roomN nn) ls) ∧ Hid (Twin S ls) ∧ Hid (wx.heap[g11]? = some (.cells x.fl.v.cells.toArray 28 (0, 0))))
          case first =>
            as_aux_lemma =>
            by_cases k3 : x.kind = 3
            · have hk3 : (x.kind == 3) = true := by simp [k3]
              refine wp_region_held_drew (S := fun u__ => u__.rangeAt b (off + k * 49) x.cells ∧ u__.heap[g11]? = some (.cells x.fl.v.cells.toArray 28 (0, 0))) (by kernel_rfl) ?_ (fun hHeld => ?_)
              focus (exact ⟨HXG.out _ (HB.out.trans (Below.mono bup HB.out.size)), hatB HG11 bup⟩)
              refine tk 0 (oi := ⟨some 103, _, _, _, _, _⟩) (v := ?_) rfl (by kernel_rfl) (.inl ⟨by rfl, ?_⟩) hHeld ?_; rotate_left; focus (intro w hSw; (try dsimp only at hSw); go_simp; try with_reducible rfl)
              simp only [PT]
              refine tk 1 (oi := ⟨some 104, _, _, _, _, _⟩) (v := ?_) rfl (by kernel_rfl) (.inl ⟨by rfl, ?_⟩) hHeld ?_; rotate_left; focus (intro w hSw; (try dsimp only at hSw); go_simp; try with_reducible rfl)
              simp only [PT]
              refine tk 2 (oi := ⟨some 105, _, _, _, _, _⟩) (v := ?_) rfl (by kernel_rfl) (.inl ⟨by rfl, ?_⟩) hHeld ?_; rotate_left; focus (intro w hSw; (try dsimp only at hSw); go_simp; try with_reducible rfl)
              simp only [PT]
              refine tk 3 (oi := ⟨some 106, _, _, _, _, _⟩) (v := ?_) rfl (by kernel_rfl) (.inl ⟨by rfl, ?_⟩) hHeld ?_; rotate_left; focus (intro w hSw; (try dsimp only at hSw); go_simp; try with_reducible rfl)
              simp only [PT]
              refine' tk 4 (oi := ⟨some 107, _, _, _, _, _⟩) (v := _) rfl (by kernel_rfl) (yields_loadC (by rfl) 3 (.tmp 106) rfl b (off + k * 49) rfl (.int .i64 x.kind) (fun _ h => act_kind h.1) Try.underlying3 rfl) hHeld ?_
              simp only [PT]
              refine' tk 5 (oi := ⟨some 108, _, _, _, _, _⟩) (v := (.bool true)) rfl (by kernel_rfl) (.inl ⟨by rfl, ?_⟩) hHeld ?_; focus (intro w hSw; (try dsimp only at hSw); go_simp; first | done | rfl | omega | (simp [*]; done) | (simp [*]; omega))
              simp only [PT]
              refine tk 6 (oi := ⟨some 109, _, _, _, _, _⟩) (v := ?_) rfl (by kernel_rfl) (.inl ⟨by rfl, ?_⟩) hHeld ?_; rotate_left; focus (intro w hSw; (try dsimp only at hSw); go_simp; try with_reducible rfl)
              simp only [PT]
              first | (refine tk 7 (oi := ⟨some 110, _, _, _, _, _⟩) (v := undef) rfl (by kernel_rfl) (.inr ⟨by rfl, rfl⟩) hHeld ?_) | (refine tk 7 (oi := ⟨some 110, _, _, _, _, _⟩) (v := ?_) rfl (by kernel_rfl) (.inl ⟨by rfl, ?_⟩) hHeld ?_; rotate_left; focus (intro w hSw; (try dsimp only at hSw); go_simp; try with_reducible rfl))
              simp only [PT]
              first | (refine tk 8 (oi := ⟨some 111, _, _, _, _, _⟩) (v := undef) rfl (by kernel_rfl) (.inr ⟨by rfl, rfl⟩) hHeld ?_) | (refine tk 8 (oi := ⟨some 111, _, _, _, _, _⟩) (v := ?_) rfl (by kernel_rfl) (.inl ⟨by rfl, ?_⟩) hHeld ?_; rotate_left; focus (intro w hSw; (try dsimp only at hSw); go_simp; try with_reducible rfl))
              simp only [PT]
              first | (refine tk 9 (oi := ⟨some 112, _, _, _, _, _⟩) (v := undef) rfl (by kernel_rfl) (.inr ⟨by rfl, rfl⟩) hHeld ?_) | (refine tk 9 (oi := ⟨some 112, _, _, _, _, _⟩) (v := ?_) rfl (by kernel_rfl) (.inl ⟨by rfl, ?_⟩) hHeld ?_; rotate_left; focus (intro w hSw; (try dsimp only at hSw); go_simp; try with_reducible rfl))
              simp only [PT]
              first | (refine tk 10 (oi := ⟨some 113, _, _, _, _, _⟩) (v := undef) rfl (by kernel_rfl) (.inr ⟨by rfl, rfl⟩) hHeld ?_) | (refine tk 10 (oi := ⟨some 113, _, _, _, _, _⟩) (v := ?_) rfl (by kernel_rfl) (.inl ⟨by rfl, ?_⟩) hHeld ?_; rotate_left; focus (intro w hSw; (try dsimp only at hSw); go_simp; try with_reducible rfl))
              simp only [PT]
              first | (refine tk 11 (oi := ⟨some 114, _, _, _, _, _⟩) (v := undef) rfl (by kernel_rfl) (.inr ⟨by rfl, rfl⟩) hHeld ?_) | (refine tk 11 (oi := ⟨some 114, _, _, _, _, _⟩) (v := ?_) rfl (by kernel_rfl) (.inl ⟨by rfl, ?_⟩) hHeld ?_; rotate_left; focus (intro w hSw; (try dsimp only at hSw); go_simp; try with_reducible rfl))
              simp only [PT]
              first | (refine tk 12 (oi := ⟨some 115, _, _, _, _, _⟩) (v := undef) rfl (by kernel_rfl) (.inr ⟨by rfl, rfl⟩) hHeld ?_) | (refine' tk 12 (oi := ⟨some 115, _, _, _, _, _⟩) (v := _) rfl (by kernel_rfl) (yields_loadC (by rfl) 3 (.tmp 114) rfl b (off + k * 49 + 42) rfl (.int .i64 x.now) (fun _ h => act_now h.1) Try.underlying3 rfl) hHeld ?_)
              simp only [PT]
              first | (refine tk 13 (oi := ⟨some 116, _, _, _, _, _⟩) (v := undef) rfl (by kernel_rfl) (.inr ⟨by rfl, rfl⟩) hHeld ?_) | (refine tk 13 (oi := ⟨some 116, _, _, _, _, _⟩) (v := ?_) rfl (by kernel_rfl) (.inl ⟨by rfl, ?_⟩) hHeld ?_; rotate_left; focus (intro w hSw; (try dsimp only at hSw); go_simp; try with_reducible rfl))
              simp only [PT]
              first | (refine tk 14 (oi := ⟨some 117, _, _, _, _, _⟩) (v := undef) rfl (by kernel_rfl) (.inr ⟨by rfl, rfl⟩) hHeld ?_) | (refine tk 14 (oi := ⟨some 117, _, _, _, _, _⟩) (v := ?_) rfl (by kernel_rfl) (.inl ⟨by rfl, ?_⟩) hHeld ?_; rotate_left; focus (intro w hSw; (try dsimp only at hSw); go_simp; try with_reducible rfl))
              simp only [PT]
              first | (refine tk 15 (oi := ⟨some 118, _, _, _, _, _⟩) (v := undef) rfl (by kernel_rfl) (.inr ⟨by rfl, rfl⟩) hHeld ?_) | (refine tk 15 (oi := ⟨some 118, _, _, _, _, _⟩) (v := ?_) rfl (by kernel_rfl) (.inl ⟨by rfl, ?_⟩) hHeld ?_; rotate_left; focus (intro w hSw; (try dsimp only at hSw); go_simp; try with_reducible rfl))
              simp only [PT]
              first | (refine tk 16 (oi := ⟨some 119, _, _, _, _, _⟩) (v := undef) rfl (by kernel_rfl) (.inr ⟨by rfl, rfl⟩) hHeld ?_) | (refine tk 16 (oi := ⟨some 119, _, _, _, _, _⟩) (v := ?_) rfl (by kernel_rfl) (.inl ⟨by rfl, ?_⟩) hHeld ?_; rotate_left; focus (intro w hSw; (try dsimp only at hSw); go_simp; try with_reducible rfl))
              simp only [PT]
              first | (refine tk 17 (oi := ⟨some 120, _, _, _, _, _⟩) (v := undef) rfl (by kernel_rfl) (.inr ⟨by rfl, rfl⟩) hHeld ?_) | (refine' tk 17 (oi := ⟨some 120, _, _, _, _, _⟩) (v := _) rfl (by kernel_rfl) (yieldsIf_load_mid (by rfl) _ _ rfl _ _ rfl (x.idle.map (Value.int .i64)) _ (fun _ h => act_idle h.1) (Try.underlying49) rfl (six_size x.hl)) hHeld ?_)
              simp only [PT]
              first | (refine tk 19 (oi := ⟨some 122, _, _, _, _, _⟩) (v := undef) rfl (by kernel_rfl) (.inr ⟨by rfl, rfl⟩) hHeld ?_) | (refine tk 19 (oi := ⟨some 122, _, _, _, _, _⟩) (v := ?_) rfl (by kernel_rfl) (.inl ⟨by rfl, ?_⟩) hHeld ?_; rotate_left; focus (intro w hSw; (try dsimp only at hSw); go_simp; try with_reducible rfl))
              simp only [PT]
              first | (refine tk 20 (oi := ⟨some 123, _, _, _, _, _⟩) (v := undef) rfl (by kernel_rfl) (.inr ⟨by rfl, rfl⟩) hHeld ?_) | (refine tk 20 (oi := ⟨some 123, _, _, _, _, _⟩) (v := ?_) rfl (by kernel_rfl) (.inl ⟨by rfl, ?_⟩) hHeld ?_; rotate_left; focus (intro w hSw; (try dsimp only at hSw); go_simp; try with_reducible rfl))
              simp only [PT]
              first | (refine tk 21 (oi := ⟨some 124, _, _, _, _, _⟩) (v := undef) rfl (by kernel_rfl) (.inr ⟨by rfl, rfl⟩) hHeld ?_) | (refine tk 21 (oi := ⟨some 124, _, _, _, _, _⟩) (v := ?_) rfl (by kernel_rfl) (.inl ⟨by rfl, ?_⟩) hHeld ?_; rotate_left; focus (intro w hSw; (try dsimp only at hSw); go_simp; try with_reducible rfl))
              simp only [PT]
              first | (refine tk 22 (oi := ⟨some 125, _, _, _, _, _⟩) (v := undef) rfl (by kernel_rfl) (.inr ⟨by rfl, rfl⟩) hHeld ?_) | (refine tk 22 (oi := ⟨some 125, _, _, _, _, _⟩) (v := ?_) rfl (by kernel_rfl) (.inl ⟨by rfl, ?_⟩) hHeld ?_; rotate_left; focus (intro w hSw; (try dsimp only at hSw); go_simp; try with_reducible rfl))
              simp only [PT]
              first | (refine tk 23 (oi := ⟨some 126, _, _, _, _, _⟩) (v := undef) rfl (by kernel_rfl) (.inr ⟨by rfl, rfl⟩) hHeld ?_) | (refine tk 23 (oi := ⟨some 126, _, _, _, _, _⟩) (v := ?_) rfl (by kernel_rfl) (.inl ⟨by rfl, ?_⟩) hHeld ?_; rotate_left; focus (intro w hSw; (try dsimp only at hSw); go_simp; try with_reducible rfl))
              simp only [PT]
              first | (refine tk 24 (oi := ⟨some 127, _, _, _, _, _⟩) (v := undef) rfl (by kernel_rfl) (.inr ⟨by rfl, rfl⟩) hHeld ?_) | (refine' tk 24 (oi := ⟨some 127, _, _, _, _, _⟩) (v := _) rfl (by kernel_rfl) (yields_loadC (by rfl) 3 (.tmp 126) rfl b (off + k * 49 + 42) rfl (.int .i64 x.now) (fun _ h => act_now h.1) Try.underlying3 rfl) hHeld ?_)
              simp only [PT]
              first | (refine tk 25 (oi := ⟨some 128, _, _, _, _, _⟩) (v := undef) rfl (by kernel_rfl) (.inr ⟨by rfl, rfl⟩) hHeld ?_) | (refine tk 25 (oi := ⟨some 128, _, _, _, _, _⟩) (v := ?_) rfl (by kernel_rfl) (.inl ⟨by rfl, ?_⟩) hHeld ?_; rotate_left; focus (intro w hSw; (try dsimp only at hSw); go_simp; try with_reducible rfl))
              simp only [PT]
              first | (refine tk 26 (oi := ⟨some 129, _, _, _, _, _⟩) (v := undef) rfl (by kernel_rfl) (.inr ⟨by rfl, rfl⟩) hHeld ?_) | (refine tk 26 (oi := ⟨some 129, _, _, _, _, _⟩) (v := ?_) rfl (by kernel_rfl) (.inl ⟨by rfl, ?_⟩) hHeld ?_; rotate_left; focus (intro w hSw; (try dsimp only at hSw); go_simp; try with_reducible rfl))
              simp only [PT]
              first | (refine tk 27 (oi := ⟨some 130, _, _, _, _, _⟩) (v := undef) rfl (by kernel_rfl) (.inr ⟨by rfl, rfl⟩) hHeld ?_) | (refine tk 27 (oi := ⟨some 130, _, _, _, _, _⟩) (v := ?_) rfl (by kernel_rfl) (.inl ⟨by rfl, ?_⟩) hHeld ?_; rotate_left; focus (intro w hSw; (try dsimp only at hSw); go_simp; try with_reducible rfl))
              simp only [PT]
              first | (refine tk 28 (oi := ⟨some 131, _, _, _, _, _⟩) (v := undef) rfl (by kernel_rfl) (.inr ⟨by rfl, rfl⟩) hHeld ?_) | (refine tk 28 (oi := ⟨some 131, _, _, _, _, _⟩) (v := ?_) rfl (by kernel_rfl) (.inl ⟨by rfl, ?_⟩) hHeld ?_; rotate_left; focus (intro w hSw; (try dsimp only at hSw); go_simp; try with_reducible rfl))
              simp only [PT]
              first | (refine tk 29 (oi := ⟨some 132, _, _, _, _, _⟩) (v := undef) rfl (by kernel_rfl) (.inr ⟨by rfl, rfl⟩) hHeld ?_) | (refine' tk 29 (oi := ⟨some 132, _, _, _, _, _⟩) (v := _) rfl (by kernel_rfl) (yieldsIf_load_mid (by rfl) _ _ rfl _ _ rfl (x.idle.map (Value.int .i64)) _ (fun _ h => act_idle h.1) (Try.underlying49) rfl (six_size x.hl)) hHeld ?_)
              simp only [PT]
              refine wpAnyH_ready (rs := [18]) (by kernel_rfl) (by simp) ?_
              refine (AllReadyH.cons (o := ⟨some 121, _, _, _, _, _⟩) rfl (fun K hK => ?_) AllReadyH.nil)
              focus (first | (refine skip_step ?_ ?_; focus (rfl)) | (go_simp; go_must (refine (sweep_any p q kb (roomN nn) S x.now x.idle x.hl _ (HR.out.keep bup)).mono ?_); rintro e w6 ⟨ad1, c1, out, S', rfl, hp, hso, hr, hs, ho, hb__⟩; have HBn := Lib.hid (But.below (p := p) (q := q) hb__ (HB.out.trans (Below.mono bup HB.out.size)) HP.out HQ.out (Nat.le_refl _)); go_must (have HG11n := Lib.hid (hb__.keep (hatB HG11 bup) (by omega) (by omega))); clear HG11; have HG11 := HG11n; clear HG11n; go_must (have HO1 := Lib.hid (own_base ho (show r + 1 ≤ _ from RT.lt (HT.out.keep bup)))); go_must (have HTn := Lib.hid (RT.but (HT.out.keep bup) hb__ hpr hqr (by omega) (by omega))); clear HT HB hb__; have HT := HTn; have HB := HBn; clear HTn HBn; have HPS := Lib.hid (And.intro hp (And.intro hso hs)); have HR0 := HR; clear HR; have HR := Lib.hid hr; clear hr hs hp hso ho; go_wp2_with fail))
              refine hK.out _ _ ?_ (fun hHeld => ?_)
              focus (exact ⟨HXG.out _ (HB.out.trans (Below.mono bup HB.out.size)), hatB HG11 bup⟩)
              clear hK K
              try simp only [PT]
              refine wpAnyH_ready (rs := [30]) (by kernel_rfl) (by simp) ?_
              refine (AllReadyH.cons (o := ⟨some 133, _, _, _, _, _⟩) rfl (fun K hK => ?_) AllReadyH.nil)
              focus (first | (refine skip_step ?_ ?_; focus (rfl)) | (go_simp; go_must (refine (rsweep_any r r (roomN nn) ls x.now x.idle x.hl _ (HT.out.keep bup)).mono ?_); rintro e w7 ⟨ad2, c2, out2, rfl, ho2e, ho2, ht, hb__⟩; have HBn := Lib.hid (But.below (p := r) (q := r) hb__ (HB.out.trans (Below.mono bup HB.out.size)) HRr.out HRr.out (Nat.le_refl _)); go_must (have HG11n := Lib.hid (hb__.keep (hatB HG11 bup) (by omega) (by omega))); clear HG11; have HG11 := HG11n; clear HG11n; go_must (have HO1n := Lib.hid (own_but (own_keep HO1.out bup) hb__ (by omega) (by omega))); clear HO1; have HO1 := HO1n; clear HO1n; go_must (have HRn := Lib.hid (Rep.but (HR.out.keep bup) hb__ (by omega) (by omega) (by omega) (by omega))); clear HR HB hb__; have HR := HRn; have HB := HBn; clear HRn HBn; have HO2 := Lib.hid ho2; go_must (obtain ⟨he1, htw⟩ := sweep_both HR0.out.good HTW.out HPS.out.1 HPS.out.2.1 HPS.out.2.2); go_must (obtain rfl : out2 = out := by rw [ho2e, he1]); clear HT; have HT := Lib.hid ht; have HTW2 := Lib.hid htw; clear ht htw ho2 he1 ho2e; go_wp2_with fail))
              refine hK.out _ _ ?_ (fun hHeld => ?_)
              focus (exact ⟨HXG.out _ (HB.out.trans (Below.mono bup HB.out.size)), hatB HG11 bup⟩)
              clear hK K
              try simp only [PT]
              refine wpAnyH_ready (rs := [31]) (by kernel_rfl) (by simp) ?_
              refine (AllReadyH.cons (o := ⟨some 134, _, _, _, _, _⟩) rfl (fun K hK => ?_) AllReadyH.nil)
              focus (first | (refine skip_step ?_ ?_; focus (rfl)) | (go_simp; go_must (refine (same_at ad1 ad2 _ c1 _ c2 _ _ (Fls.of_own (own_keep HO1.out bup)) (Fls.of_own (own_keep HO2.out bup))).mono ?_); rintro e w5 ⟨rfl, hb__⟩; have hE__ := cU HB bup hb__; replace HB := ck HB hE__; (try replace HR := ck HR hE__); (try replace HT := ck HT hE__); (try replace HG11 := ck HG11 hE__); clear hE__ hb__; clear HO1 HO2; go_wp2_with fail))
              refine hK.out _ _ ?_ (fun hHeld => ?_)
              focus (exact ⟨HXG.out _ (HB.out.trans (Below.mono bup HB.out.size)), hatB HG11 bup⟩)
              clear hK K
              try simp only [PT]
              first | (refine tk 32 (oi := ⟨some 135, _, _, _, _, _⟩) (v := undef) rfl (by kernel_rfl) (.inr ⟨by rfl, rfl⟩) hHeld ?_) | (refine tk 32 (oi := ⟨some 135, _, _, _, _, _⟩) (v := ?_) rfl (by kernel_rfl) (.inl ⟨by rfl, ?_⟩) hHeld ?_; rotate_left; focus (intro w hSw; (try dsimp only at hSw); go_simp; try with_reducible rfl))
              simp only [PT]
              refine tk 33 (oi := ⟨some 136, _, _, _, _, _⟩) (v := ?_) rfl (by kernel_rfl) (.inl ⟨by rfl, ?_⟩) hHeld ?_; rotate_left; focus (intro w hSw; (try dsimp only at hSw); go_simp; try with_reducible rfl)
              simp only [PT]
              refine wpAnyH_done (by kernel_rfl) ?_ _
              go_wp2_with fail
              go_meet
              exact ⟨rfl, S', stF x.now x.idle ls, Lib.hid (HB.out.trans (Below.mono bup HB.out.size)), Lib.hid (HR.out.keep bup), Lib.hid (HT.out.keep bup), HTW2, Lib.hid (hatB HG11 bup)⟩
            · have hk3 : (x.kind == 3) = false := by simp [k3]
              refine wp_region_held_drew (S := fun u__ => u__.rangeAt b (off + k * 49) x.cells ∧ u__.heap[g11]? = some (.cells x.fl.v.cells.toArray 28 (0, 0))) (by kernel_rfl) ?_ (fun hHeld => ?_)
              focus (exact ⟨HXG.out _ (HB.out.trans (Below.mono bup HB.out.size)), hatB HG11 bup⟩)
              refine tk 0 (oi := ⟨some 103, _, _, _, _, _⟩) (v := ?_) rfl (by kernel_rfl) (.inl ⟨by rfl, ?_⟩) hHeld ?_; rotate_left; focus (intro w hSw; (try dsimp only at hSw); go_simp; try with_reducible rfl)
              simp only [PT]
              refine tk 1 (oi := ⟨some 104, _, _, _, _, _⟩) (v := ?_) rfl (by kernel_rfl) (.inl ⟨by rfl, ?_⟩) hHeld ?_; rotate_left; focus (intro w hSw; (try dsimp only at hSw); go_simp; try with_reducible rfl)
              simp only [PT]
              refine tk 2 (oi := ⟨some 105, _, _, _, _, _⟩) (v := ?_) rfl (by kernel_rfl) (.inl ⟨by rfl, ?_⟩) hHeld ?_; rotate_left; focus (intro w hSw; (try dsimp only at hSw); go_simp; try with_reducible rfl)
              simp only [PT]
              refine tk 3 (oi := ⟨some 106, _, _, _, _, _⟩) (v := ?_) rfl (by kernel_rfl) (.inl ⟨by rfl, ?_⟩) hHeld ?_; rotate_left; focus (intro w hSw; (try dsimp only at hSw); go_simp; try with_reducible rfl)
              simp only [PT]
              refine' tk 4 (oi := ⟨some 107, _, _, _, _, _⟩) (v := _) rfl (by kernel_rfl) (yields_loadC (by rfl) 3 (.tmp 106) rfl b (off + k * 49) rfl (.int .i64 x.kind) (fun _ h => act_kind h.1) Try.underlying3 rfl) hHeld ?_
              simp only [PT]
              refine' tk 5 (oi := ⟨some 108, _, _, _, _, _⟩) (v := (.bool false)) rfl (by kernel_rfl) (.inl ⟨by rfl, ?_⟩) hHeld ?_; focus (intro w hSw; (try dsimp only at hSw); go_simp; first | done | rfl | omega | (simp [*]; done) | (simp [*]; omega))
              simp only [PT]
              refine tk 6 (oi := ⟨some 109, _, _, _, _, _⟩) (v := ?_) rfl (by kernel_rfl) (.inl ⟨by rfl, ?_⟩) hHeld ?_; rotate_left; focus (intro w hSw; (try dsimp only at hSw); go_simp; try with_reducible rfl)
              simp only [PT]
              first | (refine tk 7 (oi := ⟨some 110, _, _, _, _, _⟩) (v := undef) rfl (by kernel_rfl) (.inr ⟨by rfl, rfl⟩) hHeld ?_) | (refine tk 7 (oi := ⟨some 110, _, _, _, _, _⟩) (v := ?_) rfl (by kernel_rfl) (.inl ⟨by rfl, ?_⟩) hHeld ?_; rotate_left; focus (intro w hSw; (try dsimp only at hSw); go_simp; try with_reducible rfl))
              simp only [PT]
              first | (refine tk 8 (oi := ⟨some 111, _, _, _, _, _⟩) (v := undef) rfl (by kernel_rfl) (.inr ⟨by rfl, rfl⟩) hHeld ?_) | (refine tk 8 (oi := ⟨some 111, _, _, _, _, _⟩) (v := ?_) rfl (by kernel_rfl) (.inl ⟨by rfl, ?_⟩) hHeld ?_; rotate_left; focus (intro w hSw; (try dsimp only at hSw); go_simp; try with_reducible rfl))
              simp only [PT]
              first | (refine tk 9 (oi := ⟨some 112, _, _, _, _, _⟩) (v := undef) rfl (by kernel_rfl) (.inr ⟨by rfl, rfl⟩) hHeld ?_) | (refine tk 9 (oi := ⟨some 112, _, _, _, _, _⟩) (v := ?_) rfl (by kernel_rfl) (.inl ⟨by rfl, ?_⟩) hHeld ?_; rotate_left; focus (intro w hSw; (try dsimp only at hSw); go_simp; try with_reducible rfl))
              simp only [PT]
              first | (refine tk 10 (oi := ⟨some 113, _, _, _, _, _⟩) (v := undef) rfl (by kernel_rfl) (.inr ⟨by rfl, rfl⟩) hHeld ?_) | (refine tk 10 (oi := ⟨some 113, _, _, _, _, _⟩) (v := ?_) rfl (by kernel_rfl) (.inl ⟨by rfl, ?_⟩) hHeld ?_; rotate_left; focus (intro w hSw; (try dsimp only at hSw); go_simp; try with_reducible rfl))
              simp only [PT]
              first | (refine tk 11 (oi := ⟨some 114, _, _, _, _, _⟩) (v := undef) rfl (by kernel_rfl) (.inr ⟨by rfl, rfl⟩) hHeld ?_) | (refine tk 11 (oi := ⟨some 114, _, _, _, _, _⟩) (v := ?_) rfl (by kernel_rfl) (.inl ⟨by rfl, ?_⟩) hHeld ?_; rotate_left; focus (intro w hSw; (try dsimp only at hSw); go_simp; try with_reducible rfl))
              simp only [PT]
              first | (refine tk 12 (oi := ⟨some 115, _, _, _, _, _⟩) (v := undef) rfl (by kernel_rfl) (.inr ⟨by rfl, rfl⟩) hHeld ?_) | (refine tk 12 (oi := ⟨some 115, _, _, _, _, _⟩) (v := ?_) rfl (by kernel_rfl) (.inl ⟨by rfl, ?_⟩) hHeld ?_; rotate_left; focus (intro w hSw; (try dsimp only at hSw); go_simp; try with_reducible rfl))
              simp only [PT]
              first | (refine tk 13 (oi := ⟨some 116, _, _, _, _, _⟩) (v := undef) rfl (by kernel_rfl) (.inr ⟨by rfl, rfl⟩) hHeld ?_) | (refine tk 13 (oi := ⟨some 116, _, _, _, _, _⟩) (v := ?_) rfl (by kernel_rfl) (.inl ⟨by rfl, ?_⟩) hHeld ?_; rotate_left; focus (intro w hSw; (try dsimp only at hSw); go_simp; try with_reducible rfl))
              simp only [PT]
              first | (refine tk 14 (oi := ⟨some 117, _, _, _, _, _⟩) (v := undef) rfl (by kernel_rfl) (.inr ⟨by rfl, rfl⟩) hHeld ?_) | (refine tk 14 (oi := ⟨some 117, _, _, _, _, _⟩) (v := ?_) rfl (by kernel_rfl) (.inl ⟨by rfl, ?_⟩) hHeld ?_; rotate_left; focus (intro w hSw; (try dsimp only at hSw); go_simp; try with_reducible rfl))
              simp only [PT]
              first | (refine tk 15 (oi := ⟨some 118, _, _, _, _, _⟩) (v := undef) rfl (by kernel_rfl) (.inr ⟨by rfl, rfl⟩) hHeld ?_) | (refine tk 15 (oi := ⟨some 118, _, _, _, _, _⟩) (v := ?_) rfl (by kernel_rfl) (.inl ⟨by rfl, ?_⟩) hHeld ?_; rotate_left; focus (intro w hSw; (try dsimp only at hSw); go_simp; try with_reducible rfl))
              simp only [PT]
              first | (refine tk 16 (oi := ⟨some 119, _, _, _, _, _⟩) (v := undef) rfl (by kernel_rfl) (.inr ⟨by rfl, rfl⟩) hHeld ?_) | (refine tk 16 (oi := ⟨some 119, _, _, _, _, _⟩) (v := ?_) rfl (by kernel_rfl) (.inl ⟨by rfl, ?_⟩) hHeld ?_; rotate_left; focus (intro w hSw; (try dsimp only at hSw); go_simp; try with_reducible rfl))
              simp only [PT]
              first | (refine tk 17 (oi := ⟨some 120, _, _, _, _, _⟩) (v := undef) rfl (by kernel_rfl) (.inr ⟨by rfl, rfl⟩) hHeld ?_) | (refine tk 17 (oi := ⟨some 120, _, _, _, _, _⟩) (v := ?_) rfl (by kernel_rfl) (.inl ⟨by rfl, ?_⟩) hHeld ?_; rotate_left; focus (intro w hSw; (try dsimp only at hSw); go_simp; try with_reducible rfl))
              simp only [PT]
              first | (refine tk 19 (oi := ⟨some 122, _, _, _, _, _⟩) (v := undef) rfl (by kernel_rfl) (.inr ⟨by rfl, rfl⟩) hHeld ?_) | (refine tk 19 (oi := ⟨some 122, _, _, _, _, _⟩) (v := ?_) rfl (by kernel_rfl) (.inl ⟨by rfl, ?_⟩) hHeld ?_; rotate_left; focus (intro w hSw; (try dsimp only at hSw); go_simp; try with_reducible rfl))
              simp only [PT]
              first | (refine tk 20 (oi := ⟨some 123, _, _, _, _, _⟩) (v := undef) rfl (by kernel_rfl) (.inr ⟨by rfl, rfl⟩) hHeld ?_) | (refine tk 20 (oi := ⟨some 123, _, _, _, _, _⟩) (v := ?_) rfl (by kernel_rfl) (.inl ⟨by rfl, ?_⟩) hHeld ?_; rotate_left; focus (intro w hSw; (try dsimp only at hSw); go_simp; try with_reducible rfl))
              simp only [PT]
              first | (refine tk 21 (oi := ⟨some 124, _, _, _, _, _⟩) (v := undef) rfl (by kernel_rfl) (.inr ⟨by rfl, rfl⟩) hHeld ?_) | (refine tk 21 (oi := ⟨some 124, _, _, _, _, _⟩) (v := ?_) rfl (by kernel_rfl) (.inl ⟨by rfl, ?_⟩) hHeld ?_; rotate_left; focus (intro w hSw; (try dsimp only at hSw); go_simp; try with_reducible rfl))
              simp only [PT]
              first | (refine tk 22 (oi := ⟨some 125, _, _, _, _, _⟩) (v := undef) rfl (by kernel_rfl) (.inr ⟨by rfl, rfl⟩) hHeld ?_) | (refine tk 22 (oi := ⟨some 125, _, _, _, _, _⟩) (v := ?_) rfl (by kernel_rfl) (.inl ⟨by rfl, ?_⟩) hHeld ?_; rotate_left; focus (intro w hSw; (try dsimp only at hSw); go_simp; try with_reducible rfl))
              simp only [PT]
              first | (refine tk 23 (oi := ⟨some 126, _, _, _, _, _⟩) (v := undef) rfl (by kernel_rfl) (.inr ⟨by rfl, rfl⟩) hHeld ?_) | (refine tk 23 (oi := ⟨some 126, _, _, _, _, _⟩) (v := ?_) rfl (by kernel_rfl) (.inl ⟨by rfl, ?_⟩) hHeld ?_; rotate_left; focus (intro w hSw; (try dsimp only at hSw); go_simp; try with_reducible rfl))
              simp only [PT]
              first | (refine tk 24 (oi := ⟨some 127, _, _, _, _, _⟩) (v := undef) rfl (by kernel_rfl) (.inr ⟨by rfl, rfl⟩) hHeld ?_) | (refine tk 24 (oi := ⟨some 127, _, _, _, _, _⟩) (v := ?_) rfl (by kernel_rfl) (.inl ⟨by rfl, ?_⟩) hHeld ?_; rotate_left; focus (intro w hSw; (try dsimp only at hSw); go_simp; try with_reducible rfl))
              simp only [PT]
              first | (refine tk 25 (oi := ⟨some 128, _, _, _, _, _⟩) (v := undef) rfl (by kernel_rfl) (.inr ⟨by rfl, rfl⟩) hHeld ?_) | (refine tk 25 (oi := ⟨some 128, _, _, _, _, _⟩) (v := ?_) rfl (by kernel_rfl) (.inl ⟨by rfl, ?_⟩) hHeld ?_; rotate_left; focus (intro w hSw; (try dsimp only at hSw); go_simp; try with_reducible rfl))
              simp only [PT]
              first | (refine tk 26 (oi := ⟨some 129, _, _, _, _, _⟩) (v := undef) rfl (by kernel_rfl) (.inr ⟨by rfl, rfl⟩) hHeld ?_) | (refine tk 26 (oi := ⟨some 129, _, _, _, _, _⟩) (v := ?_) rfl (by kernel_rfl) (.inl ⟨by rfl, ?_⟩) hHeld ?_; rotate_left; focus (intro w hSw; (try dsimp only at hSw); go_simp; try with_reducible rfl))
              simp only [PT]
              first | (refine tk 27 (oi := ⟨some 130, _, _, _, _, _⟩) (v := undef) rfl (by kernel_rfl) (.inr ⟨by rfl, rfl⟩) hHeld ?_) | (refine tk 27 (oi := ⟨some 130, _, _, _, _, _⟩) (v := ?_) rfl (by kernel_rfl) (.inl ⟨by rfl, ?_⟩) hHeld ?_; rotate_left; focus (intro w hSw; (try dsimp only at hSw); go_simp; try with_reducible rfl))
              simp only [PT]
              first | (refine tk 28 (oi := ⟨some 131, _, _, _, _, _⟩) (v := undef) rfl (by kernel_rfl) (.inr ⟨by rfl, rfl⟩) hHeld ?_) | (refine tk 28 (oi := ⟨some 131, _, _, _, _, _⟩) (v := ?_) rfl (by kernel_rfl) (.inl ⟨by rfl, ?_⟩) hHeld ?_; rotate_left; focus (intro w hSw; (try dsimp only at hSw); go_simp; try with_reducible rfl))
              simp only [PT]
              first | (refine tk 29 (oi := ⟨some 132, _, _, _, _, _⟩) (v := undef) rfl (by kernel_rfl) (.inr ⟨by rfl, rfl⟩) hHeld ?_) | (refine tk 29 (oi := ⟨some 132, _, _, _, _, _⟩) (v := ?_) rfl (by kernel_rfl) (.inl ⟨by rfl, ?_⟩) hHeld ?_; rotate_left; focus (intro w hSw; (try dsimp only at hSw); go_simp; try with_reducible rfl))
              simp only [PT]
              refine wpAnyH_ready (rs := [18]) (by kernel_rfl) (by simp) ?_
              refine (AllReadyH.cons (o := ⟨some 121, _, _, _, _, _⟩) rfl (fun K hK => ?_) AllReadyH.nil)
              (go_simp)
              refine hK.out _ _ ?_ (fun hHeld => ?_)
              focus (exact ⟨HXG.out _ (HB.out.trans (Below.mono bup HB.out.size)), hatB HG11 bup⟩)
              clear hK K
              try simp only [PT]
              refine wpAnyH_ready (rs := [30]) (by kernel_rfl) (by simp) ?_
              refine (AllReadyH.cons (o := ⟨some 133, _, _, _, _, _⟩) rfl (fun K hK => ?_) AllReadyH.nil)
              (go_simp)
              refine hK.out _ _ ?_ (fun hHeld => ?_)
              focus (exact ⟨HXG.out _ (HB.out.trans (Below.mono bup HB.out.size)), hatB HG11 bup⟩)
              clear hK K
              try simp only [PT]
              refine wpAnyH_ready (rs := [31]) (by kernel_rfl) (by simp) ?_
              refine (AllReadyH.cons (o := ⟨some 134, _, _, _, _, _⟩) rfl (fun K hK => ?_) AllReadyH.nil)
              (go_simp)
              refine hK.out _ _ ?_ (fun hHeld => ?_)
              focus (exact ⟨HXG.out _ (HB.out.trans (Below.mono bup HB.out.size)), hatB HG11 bup⟩)
              clear hK K
              try simp only [PT]
              first | (refine tk 32 (oi := ⟨some 135, _, _, _, _, _⟩) (v := undef) rfl (by kernel_rfl) (.inr ⟨by rfl, rfl⟩) hHeld ?_) | (refine tk 32 (oi := ⟨some 135, _, _, _, _, _⟩) (v := ?_) rfl (by kernel_rfl) (.inl ⟨by rfl, ?_⟩) hHeld ?_; rotate_left; focus (intro w hSw; (try dsimp only at hSw); go_simp; try with_reducible rfl))
              simp only [PT]
              refine tk 33 (oi := ⟨some 136, _, _, _, _, _⟩) (v := ?_) rfl (by kernel_rfl) (.inl ⟨by rfl, ?_⟩) hHeld ?_; rotate_left; focus (intro w hSw; (try dsimp only at hSw); go_simp; try with_reducible rfl)
              simp only [PT]
              refine wpAnyH_done (by kernel_rfl) ?_ _
              go_wp2_with fail
              go_meet
              exact ⟨rfl, S, ls, Lib.hid (HB.out.trans (Below.mono bup HB.out.size)), Lib.hid (HR.out.keep bup), Lib.hid (HT.out.keep bup), HTW, Lib.hid (hatB HG11 bup)⟩
          case rest =>
            clear HB HR HT HTW HG11 HNI
            obtain ⟨hs136, S, ls, HB, HR, HT, HTW, HG11⟩ := hcut
            subst hs136
            go_wp2_with (first
              | ((with_reducible refine sl 140 ?_); go_must (refine wpL_load rfl 26 (.tmp 139) rfl g11 0 rfl x.fl.v.key.cells _ (range_key (range_block (hatB HG11 bup))) Try.underlying26 rfl (tup_len x.fl) ?_); simp only [PT])
              | (go_at_call 20; (with_reducible show Calls _ _ #[_, .agg x.fl.v.key.cells.toArray] _ _); go_must (refine (get_law p q kb _ S x.fl _ (HR.out.keep bup)).mono ?_); rintro e w5 ⟨⟨g1, ok, rfl, hg⟩, hb__⟩; have HGL := Lib.hid hg; clear hg; have hE__ := cU HB bup hb__; replace HB := ck HB hE__; (try replace HR := ck HR hE__); (try replace HT := ck HT hE__); (try replace HG11 := ck HG11 hE__); clear hE__ hb__)
              | ((with_reducible refine sl 18 ?_); go_must (refine wpL_newG rfl rfl 28 rfl (.tmp 18) (.tmp 142) rfl (g1.v.cells).toArray zeroF.cells.toArray (new_info (by first | exact Flo.length zeroF_ok | exact FloW.length _ | exact LEN_18)) (new_size (by first | exact Flo.length zeroF_ok | exact FloW.length _ | exact LEN_18)) (flo_one _) (fun _ => rfl) (fun _ => rfl) ?_); intro wn18 g18 le_18 hg__ hb__; have hE__ := cU HB bup hb__; replace HB := ck HB hE__; (try replace HR := ck HR hE__); (try replace HT := ck HT hE__); (try replace HG11 := ck HG11 hE__); clear hE__ hb__; have HG18 := Lib.hid hg__; clear hg__; simp only [PT])
              | ((with_reducible refine sl 146 ?_); go_must (refine wpL_load rfl 26 (.tmp 145) rfl g11 0 rfl x.fl.v.key.cells _ (range_key (range_block (hatB HG11 bup))) Try.underlying26 rfl (tup_len x.fl) ?_); simp only [PT])
              | (go_at_call 30; go_must (refine (rfind_any r r (roomN nn) ls x.fl _ (HT.out.keep bup)).mono ?_); rintro e w7 ⟨⟨i, rfl, hi⟩, hb__⟩; have HFI := Lib.hid hi; clear hi; have hE__ := cU HB bup hb__; replace HB := ck HB hE__; (try replace HR := ck HR hE__); (try replace HT := ck HT hE__); (try replace HG18 := ck HG18 hE__); clear hE__ hb__))
            have HNI := Lib.hid (HTW.out.nice HR.out.good)
            have HLE : Hid ((flowsS S).length = ls.length) := Lib.hid HTW.out.len
            have hl40 : ls.length ≤ 40 := by have := HTW.out.len; have := HR.out.le; omega
            clear HG11
            rcases HGL.out with ⟨rfl, hlk⟩ | ⟨rfl, rfl, hlk⟩
            · as_aux_lemma =>
              obtain ⟨kf, rfl, hkf, hkey⟩ : ∃ kf : Nat, i = (kf : Int) ∧ ∃ h : kf < ls.length, ls[kf] = g1 := by
                obtain ⟨hm, hk1⟩ := look_some hlk
                rcases HFI.out with ⟨_, hno⟩ | ⟨kf, rfl, h1, h2⟩
                · exact absurd hk1 (hno _ (HTW.out.perm.mem_iff.1 hm))
                · exact ⟨kf, rfl, h1, HNI.out.one.inj (List.getElem_mem h1) (HTW.out.perm.mem_iff.1 hm) (h2.trans hk1.symm)⟩
              obtain ⟨ad2, c2, h1, h2, _⟩ := HT.out
              have hle2 := h2.le
              obtain ⟨b2, off2, rfl, _, hat2⟩ := h2.at (by omega)
              have HGT := Lib.hid h1
              have HRG := Lib.hid (hkey ▸ hat2 kf hkf)
              clear h1 h2 hat2 hlk hkey HGL HFI
              refine wp_region_held_drew (S := fun u__ => u__.heap[g18]? = some (.cells g1.v.cells.toArray 28 (0, 0)) ∧ u__.cell? ⟨r, 1, none⟩ = some (.slice (some ⟨b2, off2, none⟩) ls.length c2) ∧ u__.rangeAt b2 (off2 + kf * 41) g1.v.cells) (by kernel_rfl) ?_ (fun hHeld => ?_)
              focus (exact ⟨hatB HG18 bup, cellV (hatB HGT bup) rfl, range_keep HRG.out bup⟩)
              refine tk 0 (oi := ⟨some 148, _, _, _, _, _⟩) (v := ?_) rfl (by kernel_rfl) (.inl ⟨by rfl, ?_⟩) hHeld ?_; rotate_left; focus (intro w hSw; (try dsimp only at hSw); go_simp; try with_reducible rfl)
              simp only [PT]
              refine tk 1 (oi := ⟨some 149, _, _, _, _, _⟩) (v := ?_) rfl (by kernel_rfl) (.inl ⟨by rfl, ?_⟩) hHeld ?_; rotate_left; focus (intro w hSw; (try dsimp only at hSw); go_simp; try with_reducible rfl)
              simp only [PT]
              refine' tk 2 (oi := ⟨some 150, _, _, _, _, _⟩) (v := (.bool true)) rfl (by kernel_rfl) (.inl ⟨by rfl, ?_⟩) hHeld ?_; focus (intro w hSw; (try dsimp only at hSw); go_simp; first | done | rfl | omega | (simp [*]; done) | (simp [*]; omega))
              simp only [PT]
              refine tk 3 (oi := ⟨some 151, _, _, _, _, _⟩) (v := ?_) rfl (by kernel_rfl) (.inl ⟨by rfl, ?_⟩) hHeld ?_; rotate_left; focus (intro w hSw; (try dsimp only at hSw); go_simp; try with_reducible rfl)
              simp only [PT]
              refine tk 4 (oi := ⟨some 152, _, _, _, _, _⟩) (v := ?_) rfl (by kernel_rfl) (.inl ⟨by rfl, ?_⟩) hHeld ?_; rotate_left; focus (intro w hSw; (try dsimp only at hSw); go_simp; try with_reducible rfl)
              simp only [PT]
              first | (refine tk 5 (oi := ⟨some 153, _, _, _, _, _⟩) (v := undef) rfl (by kernel_rfl) (.inr ⟨by rfl, rfl⟩) hHeld ?_) | (refine tk 5 (oi := ⟨some 153, _, _, _, _, _⟩) (v := ?_) rfl (by kernel_rfl) (.inl ⟨by rfl, ?_⟩) hHeld ?_; rotate_left; focus (intro w hSw; (try dsimp only at hSw); go_simp; try with_reducible rfl))
              simp only [PT]
              first | (refine tk 6 (oi := ⟨some 154, _, _, _, _, _⟩) (v := undef) rfl (by kernel_rfl) (.inr ⟨by rfl, rfl⟩) hHeld ?_) | (refine' tk 6 (oi := ⟨some 154, _, _, _, _, _⟩) (v := (.bool true)) rfl (by kernel_rfl) (.inl ⟨by rfl, ?_⟩) hHeld ?_; focus (intro w hSw; (try dsimp only at hSw); go_simp; first | done | rfl | omega | (simp [*]; done) | (simp [*]; omega)))
              simp only [PT]
              first | (refine tk 7 (oi := ⟨some 155, _, _, _, _, _⟩) (v := undef) rfl (by kernel_rfl) (.inr ⟨by rfl, rfl⟩) hHeld ?_) | (refine tk 7 (oi := ⟨some 155, _, _, _, _, _⟩) (v := ?_) rfl (by kernel_rfl) (.inl ⟨by rfl, ?_⟩) hHeld ?_; rotate_left; focus (intro w hSw; (try dsimp only at hSw); go_simp; try with_reducible rfl))
              simp only [PT]
              first | (refine tk 8 (oi := ⟨some 156, _, _, _, _, _⟩) (v := undef) rfl (by kernel_rfl) (.inr ⟨by rfl, rfl⟩) hHeld ?_) | (refine' tk 8 (oi := ⟨some 156, _, _, _, _, _⟩) (v := _) rfl (by kernel_rfl) (yieldsIf_load_mid (by rfl) _ _ rfl _ _ rfl (g1.v.cells) _ (fun _ h => range_block h.1) (Try.underlying28) rfl (one_size g1)) hHeld ?_)
              simp only [PT]
              first | (refine tk 9 (oi := ⟨some 157, _, _, _, _, _⟩) (v := undef) rfl (by kernel_rfl) (.inr ⟨by rfl, rfl⟩) hHeld ?_) | (refine tk 9 (oi := ⟨some 157, _, _, _, _, _⟩) (v := ?_) rfl (by kernel_rfl) (.inl ⟨by rfl, ?_⟩) hHeld ?_; rotate_left; focus (intro w hSw; (try dsimp only at hSw); go_simp; try with_reducible rfl))
              simp only [PT]
              first | (refine tk 10 (oi := ⟨some 158, _, _, _, _, _⟩) (v := undef) rfl (by kernel_rfl) (.inr ⟨by rfl, rfl⟩) hHeld ?_) | (refine tk 10 (oi := ⟨some 158, _, _, _, _, _⟩) (v := ?_) rfl (by kernel_rfl) (.inl ⟨by rfl, ?_⟩) hHeld ?_; rotate_left; focus (intro w hSw; (try dsimp only at hSw); go_simp; try with_reducible rfl))
              simp only [PT]
              first | (refine tk 11 (oi := ⟨some 159, _, _, _, _, _⟩) (v := undef) rfl (by kernel_rfl) (.inr ⟨by rfl, rfl⟩) hHeld ?_) | (refine tk 11 (oi := ⟨some 159, _, _, _, _, _⟩) (v := ?_) rfl (by kernel_rfl) (.inl ⟨by rfl, ?_⟩) hHeld ?_; rotate_left; focus (intro w hSw; (try dsimp only at hSw); go_simp; try with_reducible rfl))
              simp only [PT]
              first | (refine tk 12 (oi := ⟨some 160, _, _, _, _, _⟩) (v := undef) rfl (by kernel_rfl) (.inr ⟨by rfl, rfl⟩) hHeld ?_) | (refine tk 12 (oi := ⟨some 160, _, _, _, _, _⟩) (v := ?_) rfl (by kernel_rfl) (.inl ⟨by rfl, ?_⟩) hHeld ?_; rotate_left; focus (intro w hSw; (try dsimp only at hSw); go_simp; try with_reducible rfl))
              simp only [PT]
              first | (refine tk 13 (oi := ⟨some 161, _, _, _, _, _⟩) (v := undef) rfl (by kernel_rfl) (.inr ⟨by rfl, rfl⟩) hHeld ?_) | (refine tk 13 (oi := ⟨some 161, _, _, _, _, _⟩) (v := ?_) rfl (by kernel_rfl) (.inl ⟨by rfl, ?_⟩) hHeld ?_; rotate_left; focus (intro w hSw; (try dsimp only at hSw); go_simp; try with_reducible rfl))
              simp only [PT]
              first | (refine tk 14 (oi := ⟨some 162, _, _, _, _, _⟩) (v := undef) rfl (by kernel_rfl) (.inr ⟨by rfl, rfl⟩) hHeld ?_) | (refine tk 14 (oi := ⟨some 162, _, _, _, _, _⟩) (v := ?_) rfl (by kernel_rfl) (.inl ⟨by rfl, ?_⟩) hHeld ?_; rotate_left; focus (intro w hSw; (try dsimp only at hSw); go_simp; try with_reducible rfl))
              simp only [PT]
              first | (refine tk 15 (oi := ⟨some 163, _, _, _, _, _⟩) (v := undef) rfl (by kernel_rfl) (.inr ⟨by rfl, rfl⟩) hHeld ?_) | (refine' tk 15 (oi := ⟨some 163, _, _, _, _, _⟩) (v := _) rfl (by kernel_rfl) (yieldsIf_load_mid (by rfl) _ _ rfl _ _ rfl (g1.v.cells) _ (fun _ h => h.2.2) (Try.underlying28) rfl (one_size g1)) hHeld ?_)
              simp only [PT]
              first | (refine tk 16 (oi := ⟨some 164, _, _, _, _, _⟩) (v := undef) rfl (by kernel_rfl) (.inr ⟨by rfl, rfl⟩) hHeld ?_) | (refine' tk 16 (oi := ⟨some 164, _, _, _, _, _⟩) (v := _) rfl (by kernel_rfl) (yields_neqF g1 g1 false (by simp) (by rfl) (.tmp 156) (.tmp 163) rfl rfl rfl) hHeld ?_)
              simp only [PT]
              first | (refine tk 17 (oi := ⟨some 165, _, _, _, _, _⟩) (v := undef) rfl (by kernel_rfl) (.inr ⟨by rfl, rfl⟩) hHeld ?_) | (refine tk 17 (oi := ⟨some 165, _, _, _, _, _⟩) (v := ?_) rfl (by kernel_rfl) (.inl ⟨by rfl, ?_⟩) hHeld ?_; rotate_left; focus (intro w hSw; (try dsimp only at hSw); go_simp; try with_reducible rfl))
              simp only [PT]
              refine tk 18 (oi := ⟨some 166, _, _, _, _, _⟩) (v := ?_) rfl (by kernel_rfl) (.inl ⟨by rfl, ?_⟩) hHeld ?_; rotate_left; focus (intro w hSw; (try dsimp only at hSw); go_simp; try with_reducible rfl)
              simp only [PT]
              refine tk 19 (oi := ⟨some 167, _, _, _, _, _⟩) (v := ?_) rfl (by kernel_rfl) (.inl ⟨by rfl, ?_⟩) hHeld ?_; rotate_left; focus (intro w hSw; (try dsimp only at hSw); go_simp; try with_reducible rfl)
              simp only [PT]
              first | (refine tk 20 (oi := ⟨some 168, _, _, _, _, _⟩) (v := undef) rfl (by kernel_rfl) (.inr ⟨by rfl, rfl⟩) hHeld ?_) | (refine tk 20 (oi := ⟨some 168, _, _, _, _, _⟩) (v := ?_) rfl (by kernel_rfl) (.inl ⟨by rfl, ?_⟩) hHeld ?_; rotate_left; focus (intro w hSw; (try dsimp only at hSw); go_simp; try with_reducible rfl))
              simp only [PT]
              first | (refine tk 21 (oi := ⟨some 169, _, _, _, _, _⟩) (v := undef) rfl (by kernel_rfl) (.inr ⟨by rfl, rfl⟩) hHeld ?_) | (refine tk 21 (oi := ⟨some 169, _, _, _, _, _⟩) (v := ?_) rfl (by kernel_rfl) (.inl ⟨by rfl, ?_⟩) hHeld ?_; rotate_left; focus (intro w hSw; (try dsimp only at hSw); go_simp; try with_reducible rfl))
              simp only [PT]
              first | (refine tk 22 (oi := ⟨some 170, _, _, _, _, _⟩) (v := undef) rfl (by kernel_rfl) (.inr ⟨by rfl, rfl⟩) hHeld ?_) | (refine tk 22 (oi := ⟨some 170, _, _, _, _, _⟩) (v := ?_) rfl (by kernel_rfl) (.inl ⟨by rfl, ?_⟩) hHeld ?_; rotate_left; focus (intro w hSw; (try dsimp only at hSw); go_simp; try with_reducible rfl))
              simp only [PT]
              first | (refine tk 23 (oi := ⟨some 171, _, _, _, _, _⟩) (v := undef) rfl (by kernel_rfl) (.inr ⟨by rfl, rfl⟩) hHeld ?_) | (refine tk 23 (oi := ⟨some 171, _, _, _, _, _⟩) (v := ?_) rfl (by kernel_rfl) (.inl ⟨by rfl, ?_⟩) hHeld ?_; rotate_left; focus (intro w hSw; (try dsimp only at hSw); go_simp; try with_reducible rfl))
              simp only [PT]
              first | (refine tk 24 (oi := ⟨some 172, _, _, _, _, _⟩) (v := undef) rfl (by kernel_rfl) (.inr ⟨by rfl, rfl⟩) hHeld ?_) | (refine tk 24 (oi := ⟨some 172, _, _, _, _, _⟩) (v := ?_) rfl (by kernel_rfl) (.inl ⟨by rfl, ?_⟩) hHeld ?_; rotate_left; focus (intro w hSw; (try dsimp only at hSw); go_simp; try with_reducible rfl))
              simp only [PT]
              first | (refine tk 25 (oi := ⟨some 173, _, _, _, _, _⟩) (v := undef) rfl (by kernel_rfl) (.inr ⟨by rfl, rfl⟩) hHeld ?_) | (refine tk 25 (oi := ⟨some 173, _, _, _, _, _⟩) (v := ?_) rfl (by kernel_rfl) (.inl ⟨by rfl, ?_⟩) hHeld ?_; rotate_left; focus (intro w hSw; (try dsimp only at hSw); go_simp; try with_reducible rfl))
              simp only [PT]
              first | (refine tk 26 (oi := ⟨some 174, _, _, _, _, _⟩) (v := undef) rfl (by kernel_rfl) (.inr ⟨by rfl, rfl⟩) hHeld ?_) | (refine tk 26 (oi := ⟨some 174, _, _, _, _, _⟩) (v := ?_) rfl (by kernel_rfl) (.inl ⟨by rfl, ?_⟩) hHeld ?_; rotate_left; focus (intro w hSw; (try dsimp only at hSw); go_simp; try with_reducible rfl))
              simp only [PT]
              refine tk 27 (oi := ⟨some 175, _, _, _, _, _⟩) (v := ?_) rfl (by kernel_rfl) (.inl ⟨by rfl, ?_⟩) hHeld ?_; rotate_left; focus (intro w hSw; (try dsimp only at hSw); go_simp; try with_reducible rfl)
              simp only [PT]
              refine tk 28 (oi := ⟨some 176, _, _, _, _, _⟩) (v := ?_) rfl (by kernel_rfl) (.inl ⟨by rfl, ?_⟩) hHeld ?_; rotate_left; focus (intro w hSw; (try dsimp only at hSw); go_simp; try with_reducible rfl)
              simp only [PT]
              first | (refine tk 29 (oi := ⟨some 177, _, _, _, _, _⟩) (v := undef) rfl (by kernel_rfl) (.inr ⟨by rfl, rfl⟩) hHeld ?_) | (refine tk 29 (oi := ⟨some 177, _, _, _, _, _⟩) (v := ?_) rfl (by kernel_rfl) (.inl ⟨by rfl, ?_⟩) hHeld ?_; rotate_left; focus (intro w hSw; (try dsimp only at hSw); go_simp; try with_reducible rfl))
              simp only [PT]
              first | (refine tk 31 (oi := ⟨some 179, _, _, _, _, _⟩) (v := undef) rfl (by kernel_rfl) (.inr ⟨by rfl, rfl⟩) hHeld ?_) | (refine tk 31 (oi := ⟨some 179, _, _, _, _, _⟩) (v := ?_) rfl (by kernel_rfl) (.inl ⟨by rfl, ?_⟩) hHeld ?_; rotate_left; focus (intro w hSw; (try dsimp only at hSw); go_simp; try with_reducible rfl))
              simp only [PT]
              first | (refine tk 32 (oi := ⟨some 180, _, _, _, _, _⟩) (v := undef) rfl (by kernel_rfl) (.inr ⟨by rfl, rfl⟩) hHeld ?_) | (refine tk 32 (oi := ⟨some 180, _, _, _, _, _⟩) (v := ?_) rfl (by kernel_rfl) (.inl ⟨by rfl, ?_⟩) hHeld ?_; rotate_left; focus (intro w hSw; (try dsimp only at hSw); go_simp; try with_reducible rfl))
              simp only [PT]
              first | (refine tk 33 (oi := ⟨some 181, _, _, _, _, _⟩) (v := undef) rfl (by kernel_rfl) (.inr ⟨by rfl, rfl⟩) hHeld ?_) | (refine tk 33 (oi := ⟨some 181, _, _, _, _, _⟩) (v := ?_) rfl (by kernel_rfl) (.inl ⟨by rfl, ?_⟩) hHeld ?_; rotate_left; focus (intro w hSw; (try dsimp only at hSw); go_simp; try with_reducible rfl))
              simp only [PT]
              first | (refine tk 34 (oi := ⟨some 182, _, _, _, _, _⟩) (v := undef) rfl (by kernel_rfl) (.inr ⟨by rfl, rfl⟩) hHeld ?_) | (refine tk 34 (oi := ⟨some 182, _, _, _, _, _⟩) (v := ?_) rfl (by kernel_rfl) (.inl ⟨by rfl, ?_⟩) hHeld ?_; rotate_left; focus (intro w hSw; (try dsimp only at hSw); go_simp; try with_reducible rfl))
              simp only [PT]
              first | (refine tk 35 (oi := ⟨some 183, _, _, _, _, _⟩) (v := undef) rfl (by kernel_rfl) (.inr ⟨by rfl, rfl⟩) hHeld ?_) | (refine tk 35 (oi := ⟨some 183, _, _, _, _, _⟩) (v := ?_) rfl (by kernel_rfl) (.inl ⟨by rfl, ?_⟩) hHeld ?_; rotate_left; focus (intro w hSw; (try dsimp only at hSw); go_simp; try with_reducible rfl))
              simp only [PT]
              refine wpAnyH_ready (rs := [30]) (by kernel_rfl) (by simp) ?_
              refine (AllReadyH.cons (o := ⟨some 178, _, _, _, _, _⟩) rfl (fun K hK => ?_) AllReadyH.nil)
              focus (first | (refine skip_step ?_ ?_; focus (rfl)) | (go_simp; go_must (refine (len_rep p q kb _ _ _ (HR.out.keep bup)).mono ?_); rw [HLE.out]; rintro e w5 ⟨rfl, hb__⟩; have hE__ := cU HB bup hb__; replace HB := ck HB hE__; (try replace HR := ck HR hE__); (try replace HT := ck HT hE__); (try replace HG18 := ck HG18 hE__); (try replace HGT := ck HGT hE__); (try replace HRG := ck HRG hE__); clear hE__ hb__; go_wp2_with fail))
              refine hK.out _ _ ?_ (fun hHeld => ?_)
              focus (exact ⟨hatB HG18 bup, cellV (hatB HGT bup) rfl, range_keep HRG.out bup⟩)
              clear hK K
              try simp only [PT]
              first | (refine tk 36 (oi := ⟨some 184, _, _, _, _, _⟩) (v := undef) rfl (by kernel_rfl) (.inr ⟨by rfl, rfl⟩) hHeld ?_) | (refine' tk 36 (oi := ⟨some 184, _, _, _, _, _⟩) (v := (.bool false)) rfl (by kernel_rfl) (.inl ⟨by rfl, ?_⟩) hHeld ?_; focus (intro w hSw; (try dsimp only at hSw); go_simp; first | done | rfl | (simp [*]; done) | (simp [*]; omega)))
              simp only [PT]
              refine tk 37 (oi := ⟨some 185, _, _, _, _, _⟩) (v := ?_) rfl (by kernel_rfl) (.inl ⟨by rfl, ?_⟩) hHeld ?_; rotate_left; focus (intro w hSw; (try dsimp only at hSw); go_simp; try with_reducible rfl)
              simp only [PT]
              refine wpAnyH_done (by kernel_rfl) ?_ _
              go_wp2_with fail
              go_roundw
              case rel => exact ⟨k + 1, S, ls, by omega, by go_num, Lib.hid (HB.out.trans (Below.mono bup HB.out.size)), Lib.hid (HR.out.keep bup), Lib.hid (HT.out.keep bup), HTW⟩
              case measure => first | (simp [intOf]; done) | (simp [intOf]; omega)
            · as_aux_lemma =>
              obtain rfl : i = -1 := by
                rcases HFI.out with ⟨h, _⟩ | ⟨kf, rfl, h1, h2⟩
                · exact h
                · exact absurd h2 (look_none.1 hlk _ (HTW.out.perm.mem_iff.2 (List.getElem_mem h1)))
              obtain ⟨ad2, c2, h1, h2, _⟩ := HT.out
              have hle2 := h2.le
              have HGT := Lib.hid h1
              clear h1 h2 hlk HGL HFI
              refine wp_region_held_drew (S := fun u__ => u__.heap[g18]? = some (.cells zeroW.v.cells.toArray 28 (0, 0)) ∧ u__.cell? ⟨r, 1, none⟩ = some (.slice ad2 ls.length c2)) (by kernel_rfl) ?_ (fun hHeld => ?_)
              focus (exact ⟨hatB HG18 bup, cellV (hatB HGT bup) rfl⟩)
              refine tk 0 (oi := ⟨some 148, _, _, _, _, _⟩) (v := ?_) rfl (by kernel_rfl) (.inl ⟨by rfl, ?_⟩) hHeld ?_; rotate_left; focus (intro w hSw; (try dsimp only at hSw); go_simp; try with_reducible rfl)
              simp only [PT]
              refine tk 1 (oi := ⟨some 149, _, _, _, _, _⟩) (v := ?_) rfl (by kernel_rfl) (.inl ⟨by rfl, ?_⟩) hHeld ?_; rotate_left; focus (intro w hSw; (try dsimp only at hSw); go_simp; try with_reducible rfl)
              simp only [PT]
              refine tk 2 (oi := ⟨some 150, _, _, _, _, _⟩) (v := ?_) rfl (by kernel_rfl) (.inl ⟨by rfl, ?_⟩) hHeld ?_; rotate_left; focus (intro w hSw; (try dsimp only at hSw); go_simp; try with_reducible rfl)
              simp only [PT]
              refine tk 3 (oi := ⟨some 151, _, _, _, _, _⟩) (v := ?_) rfl (by kernel_rfl) (.inl ⟨by rfl, ?_⟩) hHeld ?_; rotate_left; focus (intro w hSw; (try dsimp only at hSw); go_simp; try with_reducible rfl)
              simp only [PT]
              refine tk 4 (oi := ⟨some 152, _, _, _, _, _⟩) (v := ?_) rfl (by kernel_rfl) (.inl ⟨by rfl, ?_⟩) hHeld ?_; rotate_left; focus (intro w hSw; (try dsimp only at hSw); go_simp; try with_reducible rfl)
              simp only [PT]
              first | (refine tk 5 (oi := ⟨some 153, _, _, _, _, _⟩) (v := undef) rfl (by kernel_rfl) (.inr ⟨by rfl, rfl⟩) hHeld ?_) | (refine tk 5 (oi := ⟨some 153, _, _, _, _, _⟩) (v := ?_) rfl (by kernel_rfl) (.inl ⟨by rfl, ?_⟩) hHeld ?_; rotate_left; focus (intro w hSw; (try dsimp only at hSw); go_simp; try with_reducible rfl))
              simp only [PT]
              first | (refine tk 6 (oi := ⟨some 154, _, _, _, _, _⟩) (v := undef) rfl (by kernel_rfl) (.inr ⟨by rfl, rfl⟩) hHeld ?_) | (refine tk 6 (oi := ⟨some 154, _, _, _, _, _⟩) (v := ?_) rfl (by kernel_rfl) (.inl ⟨by rfl, ?_⟩) hHeld ?_; rotate_left; focus (intro w hSw; (try dsimp only at hSw); go_simp; try with_reducible rfl))
              simp only [PT]
              first | (refine tk 7 (oi := ⟨some 155, _, _, _, _, _⟩) (v := undef) rfl (by kernel_rfl) (.inr ⟨by rfl, rfl⟩) hHeld ?_) | (refine tk 7 (oi := ⟨some 155, _, _, _, _, _⟩) (v := ?_) rfl (by kernel_rfl) (.inl ⟨by rfl, ?_⟩) hHeld ?_; rotate_left; focus (intro w hSw; (try dsimp only at hSw); go_simp; try with_reducible rfl))
              simp only [PT]
              first | (refine tk 8 (oi := ⟨some 156, _, _, _, _, _⟩) (v := undef) rfl (by kernel_rfl) (.inr ⟨by rfl, rfl⟩) hHeld ?_) | (refine tk 8 (oi := ⟨some 156, _, _, _, _, _⟩) (v := ?_) rfl (by kernel_rfl) (.inl ⟨by rfl, ?_⟩) hHeld ?_; rotate_left; focus (intro w hSw; (try dsimp only at hSw); go_simp; try with_reducible rfl))
              simp only [PT]
              first | (refine tk 9 (oi := ⟨some 157, _, _, _, _, _⟩) (v := undef) rfl (by kernel_rfl) (.inr ⟨by rfl, rfl⟩) hHeld ?_) | (refine tk 9 (oi := ⟨some 157, _, _, _, _, _⟩) (v := ?_) rfl (by kernel_rfl) (.inl ⟨by rfl, ?_⟩) hHeld ?_; rotate_left; focus (intro w hSw; (try dsimp only at hSw); go_simp; try with_reducible rfl))
              simp only [PT]
              first | (refine tk 10 (oi := ⟨some 158, _, _, _, _, _⟩) (v := undef) rfl (by kernel_rfl) (.inr ⟨by rfl, rfl⟩) hHeld ?_) | (refine tk 10 (oi := ⟨some 158, _, _, _, _, _⟩) (v := ?_) rfl (by kernel_rfl) (.inl ⟨by rfl, ?_⟩) hHeld ?_; rotate_left; focus (intro w hSw; (try dsimp only at hSw); go_simp; try with_reducible rfl))
              simp only [PT]
              first | (refine tk 11 (oi := ⟨some 159, _, _, _, _, _⟩) (v := undef) rfl (by kernel_rfl) (.inr ⟨by rfl, rfl⟩) hHeld ?_) | (refine tk 11 (oi := ⟨some 159, _, _, _, _, _⟩) (v := ?_) rfl (by kernel_rfl) (.inl ⟨by rfl, ?_⟩) hHeld ?_; rotate_left; focus (intro w hSw; (try dsimp only at hSw); go_simp; try with_reducible rfl))
              simp only [PT]
              first | (refine tk 12 (oi := ⟨some 160, _, _, _, _, _⟩) (v := undef) rfl (by kernel_rfl) (.inr ⟨by rfl, rfl⟩) hHeld ?_) | (refine tk 12 (oi := ⟨some 160, _, _, _, _, _⟩) (v := ?_) rfl (by kernel_rfl) (.inl ⟨by rfl, ?_⟩) hHeld ?_; rotate_left; focus (intro w hSw; (try dsimp only at hSw); go_simp; try with_reducible rfl))
              simp only [PT]
              first | (refine tk 13 (oi := ⟨some 161, _, _, _, _, _⟩) (v := undef) rfl (by kernel_rfl) (.inr ⟨by rfl, rfl⟩) hHeld ?_) | (refine tk 13 (oi := ⟨some 161, _, _, _, _, _⟩) (v := ?_) rfl (by kernel_rfl) (.inl ⟨by rfl, ?_⟩) hHeld ?_; rotate_left; focus (intro w hSw; (try dsimp only at hSw); go_simp; try with_reducible rfl))
              simp only [PT]
              first | (refine tk 14 (oi := ⟨some 162, _, _, _, _, _⟩) (v := undef) rfl (by kernel_rfl) (.inr ⟨by rfl, rfl⟩) hHeld ?_) | (refine tk 14 (oi := ⟨some 162, _, _, _, _, _⟩) (v := ?_) rfl (by kernel_rfl) (.inl ⟨by rfl, ?_⟩) hHeld ?_; rotate_left; focus (intro w hSw; (try dsimp only at hSw); go_simp; try with_reducible rfl))
              simp only [PT]
              first | (refine tk 15 (oi := ⟨some 163, _, _, _, _, _⟩) (v := undef) rfl (by kernel_rfl) (.inr ⟨by rfl, rfl⟩) hHeld ?_) | (refine tk 15 (oi := ⟨some 163, _, _, _, _, _⟩) (v := ?_) rfl (by kernel_rfl) (.inl ⟨by rfl, ?_⟩) hHeld ?_; rotate_left; focus (intro w hSw; (try dsimp only at hSw); go_simp; try with_reducible rfl))
              simp only [PT]
              first | (refine tk 16 (oi := ⟨some 164, _, _, _, _, _⟩) (v := undef) rfl (by kernel_rfl) (.inr ⟨by rfl, rfl⟩) hHeld ?_) | (refine tk 16 (oi := ⟨some 164, _, _, _, _, _⟩) (v := ?_) rfl (by kernel_rfl) (.inl ⟨by rfl, ?_⟩) hHeld ?_; rotate_left; focus (intro w hSw; (try dsimp only at hSw); go_simp; try with_reducible rfl))
              simp only [PT]
              first | (refine tk 17 (oi := ⟨some 165, _, _, _, _, _⟩) (v := undef) rfl (by kernel_rfl) (.inr ⟨by rfl, rfl⟩) hHeld ?_) | (refine tk 17 (oi := ⟨some 165, _, _, _, _, _⟩) (v := ?_) rfl (by kernel_rfl) (.inl ⟨by rfl, ?_⟩) hHeld ?_; rotate_left; focus (intro w hSw; (try dsimp only at hSw); go_simp; try with_reducible rfl))
              simp only [PT]
              refine tk 18 (oi := ⟨some 166, _, _, _, _, _⟩) (v := ?_) rfl (by kernel_rfl) (.inl ⟨by rfl, ?_⟩) hHeld ?_; rotate_left; focus (intro w hSw; (try dsimp only at hSw); go_simp; try with_reducible rfl)
              simp only [PT]
              refine tk 19 (oi := ⟨some 167, _, _, _, _, _⟩) (v := ?_) rfl (by kernel_rfl) (.inl ⟨by rfl, ?_⟩) hHeld ?_; rotate_left; focus (intro w hSw; (try dsimp only at hSw); go_simp; try with_reducible rfl)
              simp only [PT]
              first | (refine tk 20 (oi := ⟨some 168, _, _, _, _, _⟩) (v := undef) rfl (by kernel_rfl) (.inr ⟨by rfl, rfl⟩) hHeld ?_) | (refine tk 20 (oi := ⟨some 168, _, _, _, _, _⟩) (v := ?_) rfl (by kernel_rfl) (.inl ⟨by rfl, ?_⟩) hHeld ?_; rotate_left; focus (intro w hSw; (try dsimp only at hSw); go_simp; try with_reducible rfl))
              simp only [PT]
              first | (refine tk 21 (oi := ⟨some 169, _, _, _, _, _⟩) (v := undef) rfl (by kernel_rfl) (.inr ⟨by rfl, rfl⟩) hHeld ?_) | (refine tk 21 (oi := ⟨some 169, _, _, _, _, _⟩) (v := ?_) rfl (by kernel_rfl) (.inl ⟨by rfl, ?_⟩) hHeld ?_; rotate_left; focus (intro w hSw; (try dsimp only at hSw); go_simp; try with_reducible rfl))
              simp only [PT]
              first | (refine tk 22 (oi := ⟨some 170, _, _, _, _, _⟩) (v := undef) rfl (by kernel_rfl) (.inr ⟨by rfl, rfl⟩) hHeld ?_) | (refine tk 22 (oi := ⟨some 170, _, _, _, _, _⟩) (v := ?_) rfl (by kernel_rfl) (.inl ⟨by rfl, ?_⟩) hHeld ?_; rotate_left; focus (intro w hSw; (try dsimp only at hSw); go_simp; try with_reducible rfl))
              simp only [PT]
              first | (refine tk 23 (oi := ⟨some 171, _, _, _, _, _⟩) (v := undef) rfl (by kernel_rfl) (.inr ⟨by rfl, rfl⟩) hHeld ?_) | (refine' tk 23 (oi := ⟨some 171, _, _, _, _, _⟩) (v := _) rfl (by kernel_rfl) (yieldsIf_load_mid (by rfl) _ _ rfl _ _ rfl (zeroW.v.cells) _ (fun _ h => range_block h.1) (Try.underlying28) rfl (one_size zeroW)) hHeld ?_)
              simp only [PT]
              first | (refine tk 24 (oi := ⟨some 172, _, _, _, _, _⟩) (v := undef) rfl (by kernel_rfl) (.inr ⟨by rfl, rfl⟩) hHeld ?_) | (refine' tk 24 (oi := ⟨some 172, _, _, _, _, _⟩) (v := _) rfl (by kernel_rfl) (yields_build (by rfl) 28 #[] rfl [] rfl zeroF.cells.toArray zero_flow) hHeld ?_)
              simp only [PT]
              first | (refine tk 25 (oi := ⟨some 173, _, _, _, _, _⟩) (v := undef) rfl (by kernel_rfl) (.inr ⟨by rfl, rfl⟩) hHeld ?_) | (refine' tk 25 (oi := ⟨some 173, _, _, _, _, _⟩) (v := _) rfl (by kernel_rfl) (yields_neqF zeroW zeroW false (by simp) (by rfl) (.tmp 171) (.tmp 172) rfl rfl rfl) hHeld ?_)
              simp only [PT]
              first | (refine tk 26 (oi := ⟨some 174, _, _, _, _, _⟩) (v := undef) rfl (by kernel_rfl) (.inr ⟨by rfl, rfl⟩) hHeld ?_) | (refine tk 26 (oi := ⟨some 174, _, _, _, _, _⟩) (v := ?_) rfl (by kernel_rfl) (.inl ⟨by rfl, ?_⟩) hHeld ?_; rotate_left; focus (intro w hSw; (try dsimp only at hSw); go_simp; try with_reducible rfl))
              simp only [PT]
              refine tk 27 (oi := ⟨some 175, _, _, _, _, _⟩) (v := ?_) rfl (by kernel_rfl) (.inl ⟨by rfl, ?_⟩) hHeld ?_; rotate_left; focus (intro w hSw; (try dsimp only at hSw); go_simp; try with_reducible rfl)
              simp only [PT]
              refine tk 28 (oi := ⟨some 176, _, _, _, _, _⟩) (v := ?_) rfl (by kernel_rfl) (.inl ⟨by rfl, ?_⟩) hHeld ?_; rotate_left; focus (intro w hSw; (try dsimp only at hSw); go_simp; try with_reducible rfl)
              simp only [PT]
              first | (refine tk 29 (oi := ⟨some 177, _, _, _, _, _⟩) (v := undef) rfl (by kernel_rfl) (.inr ⟨by rfl, rfl⟩) hHeld ?_) | (refine tk 29 (oi := ⟨some 177, _, _, _, _, _⟩) (v := ?_) rfl (by kernel_rfl) (.inl ⟨by rfl, ?_⟩) hHeld ?_; rotate_left; focus (intro w hSw; (try dsimp only at hSw); go_simp; try with_reducible rfl))
              simp only [PT]
              first | (refine tk 31 (oi := ⟨some 179, _, _, _, _, _⟩) (v := undef) rfl (by kernel_rfl) (.inr ⟨by rfl, rfl⟩) hHeld ?_) | (refine tk 31 (oi := ⟨some 179, _, _, _, _, _⟩) (v := ?_) rfl (by kernel_rfl) (.inl ⟨by rfl, ?_⟩) hHeld ?_; rotate_left; focus (intro w hSw; (try dsimp only at hSw); go_simp; try with_reducible rfl))
              simp only [PT]
              first | (refine tk 32 (oi := ⟨some 180, _, _, _, _, _⟩) (v := undef) rfl (by kernel_rfl) (.inr ⟨by rfl, rfl⟩) hHeld ?_) | (refine tk 32 (oi := ⟨some 180, _, _, _, _, _⟩) (v := ?_) rfl (by kernel_rfl) (.inl ⟨by rfl, ?_⟩) hHeld ?_; rotate_left; focus (intro w hSw; (try dsimp only at hSw); go_simp; try with_reducible rfl))
              simp only [PT]
              first | (refine tk 33 (oi := ⟨some 181, _, _, _, _, _⟩) (v := undef) rfl (by kernel_rfl) (.inr ⟨by rfl, rfl⟩) hHeld ?_) | (refine tk 33 (oi := ⟨some 181, _, _, _, _, _⟩) (v := ?_) rfl (by kernel_rfl) (.inl ⟨by rfl, ?_⟩) hHeld ?_; rotate_left; focus (intro w hSw; (try dsimp only at hSw); go_simp; try with_reducible rfl))
              simp only [PT]
              first | (refine tk 34 (oi := ⟨some 182, _, _, _, _, _⟩) (v := undef) rfl (by kernel_rfl) (.inr ⟨by rfl, rfl⟩) hHeld ?_) | (refine tk 34 (oi := ⟨some 182, _, _, _, _, _⟩) (v := ?_) rfl (by kernel_rfl) (.inl ⟨by rfl, ?_⟩) hHeld ?_; rotate_left; focus (intro w hSw; (try dsimp only at hSw); go_simp; try with_reducible rfl))
              simp only [PT]
              first | (refine tk 35 (oi := ⟨some 183, _, _, _, _, _⟩) (v := undef) rfl (by kernel_rfl) (.inr ⟨by rfl, rfl⟩) hHeld ?_) | (refine tk 35 (oi := ⟨some 183, _, _, _, _, _⟩) (v := ?_) rfl (by kernel_rfl) (.inl ⟨by rfl, ?_⟩) hHeld ?_; rotate_left; focus (intro w hSw; (try dsimp only at hSw); go_simp; try with_reducible rfl))
              simp only [PT]
              refine wpAnyH_ready (rs := [30]) (by kernel_rfl) (by simp) ?_
              refine (AllReadyH.cons (o := ⟨some 178, _, _, _, _, _⟩) rfl (fun K hK => ?_) AllReadyH.nil)
              focus (first | (refine skip_step ?_ ?_; focus (rfl)) | (go_simp; go_must (refine (len_rep p q kb _ _ _ (HR.out.keep bup)).mono ?_); rw [HLE.out]; rintro e w5 ⟨rfl, hb__⟩; have hE__ := cU HB bup hb__; replace HB := ck HB hE__; (try replace HR := ck HR hE__); (try replace HT := ck HT hE__); (try replace HG18 := ck HG18 hE__); (try replace HGT := ck HGT hE__); clear hE__ hb__; go_wp2_with fail))
              refine hK.out _ _ ?_ (fun hHeld => ?_)
              focus (exact ⟨hatB HG18 bup, cellV (hatB HGT bup) rfl⟩)
              clear hK K
              try simp only [PT]
              first | (refine tk 36 (oi := ⟨some 184, _, _, _, _, _⟩) (v := undef) rfl (by kernel_rfl) (.inr ⟨by rfl, rfl⟩) hHeld ?_) | (refine' tk 36 (oi := ⟨some 184, _, _, _, _, _⟩) (v := (.bool false)) rfl (by kernel_rfl) (.inl ⟨by rfl, ?_⟩) hHeld ?_; focus (intro w hSw; (try dsimp only at hSw); go_simp; first | done | rfl | (simp [*]; done) | (simp [*]; omega)))
              simp only [PT]
              refine tk 37 (oi := ⟨some 185, _, _, _, _, _⟩) (v := ?_) rfl (by kernel_rfl) (.inl ⟨by rfl, ?_⟩) hHeld ?_; rotate_left; focus (intro w hSw; (try dsimp only at hSw); go_simp; try with_reducible rfl)
              simp only [PT]
              refine wpAnyH_done (by kernel_rfl) ?_ _
              go_wp2_with fail
              go_roundw
              case rel => exact ⟨k + 1, S, ls, by omega, by go_num, Lib.hid (HB.out.trans (Below.mono bup HB.out.size)), Lib.hid (HR.out.keep bup), Lib.hid (HT.out.keep bup), HTW⟩
              case measure => first | (simp [intOf]; done) | (simp [intOf]; omega)

end Go.Proofs.Ytgpdlhbndoeldaa
