/-
  Joined by program (merge.py): FloF.
-/
import Derived.Deep.DeepCutAuto
import Derived.Test.YtgpdlhbndoeldaaC9
/-
  Chapter 21: the statement FlowSweeps: walked (written by gen/flawf.py).
-/
namespace Go.Proofs.Ytgpdlhbndoeldaa
open Go.RowKit Go.Sort
set_option linter.unusedVariables false
set_option linter.unusedSimpArgs false
set_option maxRecDepth 100000
set_option maxHeartbeats 16000000

theorem step_loadC {P : Program} {ops : Array Oper} {o : Oper} {a : Act} {w : World} {K : Act → World → Prop} {Q : Exit → Act → World → Prop} {E : Prop} (hgd : Region.wanted o (yielded ops a.tmps) = true) (ty : TypeId) (x : Operand) (ho : o.op = .load ty x)
    (g k : Nat) (hx : a.eval x = .pointer (some ⟨g, k, none⟩)) (v : Value) (hc : w.cell? ⟨g, k, none⟩ = some v) {d : TypeDesc} (hu : P.underlying ty = some d) (hd : d.isRow = false)
    (h : K (a.put o.dst v) w) : if Region.wanted o (yielded ops a.tmps) = true then Oper.wp P o a w K Q else E := by
  refine step_run2 hgd (v := v) (w' := w) ?_ h
  have hagg : (isAgg ty).run P w = .ok false w := by
    unfold isAgg
    rw [Sem.run_bind, run_underlying hu w]
    cases d <;> simp_all
  unfold execOp
  simp [ho, hx, Instr.loadAt, Instr.sureAddr, Sem.run_bind, Sem.run_pure, Result.andThen_ok, loadVar, hagg, load, Sem.run, hc]
theorem yields_pred {ops : Array Oper} {S : World → Prop} {o : Oper} {a : Act} (hgd : Region.wanted o (yielded ops a.tmps) = true) (X : Operand) (ho : o.op = .binOp .sub 3 X (.const (.int .i64 1)) 3) (j : Nat) (hj : j < 1000000) (hx : a.eval X = .int .i64 ((j : Int) + 1)) : YieldsIf Try.prog ops S o (.int .i64 (j : Int)) a := by
  refine Or.inl ⟨hgd, fun w _ => ?_⟩
  unfold execOp
  rw [ho]
  simp only [hx]
  go_simp
  first | exact wrap_i64_small j (by omega) | exact Lib.wrap_i64_small j (by omega) | (simp [IntKind.wrap, IntKind.bits, IntKind.signed]; omega)
theorem built_rt2 (n : Int) (ad : Option Addr) (m c : Nat) : Try.prog.built 59 [(0, .int .i64 n), (1, .slice ad m c)] = some #[.int .i64 n, .slice ad m c] := by kernel_rfl
theorem parts_len (now : Int) (idle : List Int) : ∀ l : List FloW, (outF now idle l).length + (stF now idle l).length = l.length
  | [] => rfl
  | a :: l => by
    have ih := parts_len now idle l
    unfold outF stF at *
    rcases two (staleW now idle a) with h | h
    · simp only [List.filter_cons, h, if_true, Bool.not_true, Bool.false_eq_true, if_false, List.length_cons]; omega
    · simp only [List.filter_cons, h, if_true, Bool.not_false, Bool.false_eq_true, if_false, List.length_cons]; omega
theorem out_st (now : Int) (idle : List Int) (l : List FloW) : outF now idle (stF now idle l) = [] := by
  unfold outF stF
  rw [List.filter_filter, List.filter_eq_nil_iff]
  intro x _
  cases staleW now idle x <;> simp
theorem st_st (now : Int) (idle : List Int) (l : List FloW) : stF now idle (stF now idle l) = stF now idle l := by
  unfold stF
  rw [List.filter_filter]
  congr 1
  funext x
  cases staleW now idle x <;> rfl
/-- what is stale is not there behind it -/
theorem swept_no {S : List Slt} {ls : List FloW} {now : Int} {idle : List Int} (hn : Nice ls) (t : Twin S (stF now idle ls)) {v : FloW} (hv : v ∈ outF now idle ls) : look S v.v.key = none := by
  refine look_none.2 fun x hx hk => ?_
  have hx2 := t.perm.mem_iff.1 hx
  obtain ⟨h1, h2⟩ := List.mem_filter.1 hx2
  obtain ⟨h3, h4⟩ := List.mem_filter.1 hv
  have e := hn.one.inj h1 h3 hk
  subst e
  rw [h4] at h2
  cases h2
theorem sweeps21_walk (kb : List UInt8) (hk : kb.length = 16) (nn : Nat) (hn : nn < 256) (ad : Option Addr) (n c : Nat) (xs : List FloW) (now : Int) (idle : List Int) (h6 : idle.length = 6) (w : World) (hv : Fls w ad n c xs) :
    Calls Try.prog 9 #[.agg (BV kb).toArray, .int .u8 (nn : Int), .slice ad n c, .int .i64 now, .agg (idle.map (Value.int .i64)).toArray] w fun e w' => e = .returned (.bool true) ∧ Below w.heap.size w w' := by
  have HB := Lib.hid (Below.refl w.heap.size w)
  have HIK : Hid ((Try.prog.info? 22).map (·.size) = some (BV kb).length) := Lib.hid (by rw [BV_length, hk]; kernel_rfl)
  have HI6 := Lib.hid (six_size h6)
  have H6 := Lib.hid h6
  have HK := Lib.hid hk
  have HNN := Lib.hid hn
  have HV := Lib.hid hv
  have hle := hv.le
  have HLN := Lib.hid hv.len
  have hrn := roomN_le nn
  clear hk hv hn h6
  go_enter Try.func9, Try.ntmps9
  go_wp2_with (first
    | ((with_reducible refine sl 5 ?_); go_must (refine wpL_boxG rfl 22 (.tmp 0) rfl (BV kb).toArray rfl ?_); intro wb5 g5 he__ le_5 lt_5 hg__ hb__; have hE__ := cU HB bup hb__; replace HB := ck HB hE__; clear hE__ hb__; have HG5 := Lib.hid hg__; clear hg__ he__; simp only [PT])
    | ((with_reducible refine sl 9 ?_); go_must (refine wpL_boxG rfl 49 (.tmp 4) rfl (idle.map (Value.int .i64)).toArray rfl ?_); intro wb9 g9 he__ le_9 lt_9 hg__ hb__; have hE__ := cU HB bup hb__; replace HB := ck HB hE__; (try replace HG5 := ck HG5 hE__); clear hE__ hb__; have HG9 := Lib.hid hg__; clear hg__ he__; simp only [PT])
    | (go_at_call 10; go_must (refine (awake_any _).mono ?_); rintro e wa ⟨rfl, hb__⟩; have hE__ := cU HB bup hb__; replace HB := ck HB hE__; (try replace HG5 := ck HG5 hE__); (try replace HG9 := ck HG9 hE__); clear hE__ hb__))
  go_at_call 17
  refine (few21_any ad n c xs _ (HV.out.below HB.out)).mono ?_
  rintro e w3 ⟨⟨bf, rfl, hf⟩, hb__⟩
  have hE__ := cU HB bup hb__; replace HB := ck HB hE__; (try replace HG5 := ck HG5 hE__); (try replace HG9 := ck HG9 hE__); clear hE__ hb__
  cases bf with
  | false =>
    clear hf
    go_wp2_with (first
      | (go_at_call 10; go_must (refine (awake_any _).mono ?_); rintro e wa ⟨rfl, hb__⟩; have hE__ := cU HB bup hb__; replace HB := ck HB hE__; (try replace HG5 := ck HG5 hE__); clear hE__ hb__))
    go_ret
    exact ⟨rfl, HB.out⟩
  | true =>
    have HF := Lib.hid (hf rfl)
    clear hf
    go_wp2_with fail
    refine wp_region_held_drew (S := fun u__ => u__.heap[g5]? = some (.cells (BV kb).toArray 22 (0, 0))) (by kernel_rfl) ?_ (fun hHeld => ?_)
    focus (exact hatB HG5 bup)
    refine' tk 0 (oi := ⟨some 29, _, _, _, _, _⟩) (v := _) rfl (by kernel_rfl) (yieldsIf_load_mid (by rfl) _ _ rfl _ _ rfl (BV kb) _ (fun _ h => range_block h) (Try.underlying22) rfl (HIK.out)) hHeld ?_
    simp only [PT]
    refine tk 1 (oi := ⟨some 30, _, _, _, _, _⟩) (v := ?_) rfl (by kernel_rfl) (.inl ⟨by rfl, ?_⟩) hHeld ?_; rotate_left; focus (intro w hSw; (try dsimp only at hSw); go_simp; try with_reducible rfl)
    simp only [PT]
    refine wpAnyH_ready (rs := [2]) (by kernel_rfl) (by simp) ?_
    refine (AllReadyH.cons (o := ⟨some 31, _, _, _, _, _⟩) rfl (fun K hK => ?_) AllReadyH.nil)
    focus (go_simp; go_must (refine (room_any nn HNN.out _).mono ?_); rintro e w5 ⟨rfl, hb__⟩; have hE__ := cU HB bup hb__; replace HB := ck HB hE__; (try replace HG5 := ck HG5 hE__); (try replace HG9 := ck HG9 hE__); clear hE__ hb__; go_wp2_with fail)
    refine hK.out _ _ ?_ (fun hHeld => ?_)
    focus (exact hatB HG5 bup)
    clear hK K
    try simp only [PT]
    refine wpAnyH_ready (rs := [3]) (by kernel_rfl) (by simp) ?_
    refine (AllReadyH.cons (o := ⟨some 32, _, _, _, _, _⟩) rfl (fun K hK => ?_) AllReadyH.nil)
    focus (go_simp; go_must (refine (new_rep kb HK.out (roomN nn) (roomN_le nn).1 (by have := (roomN_le nn).2; omega) _).mono ?_); rintro e w1 ⟨p, q, S0, rfl, hr, hS0, lq, lqp, hb__⟩; have HQ : Hid (w.heap.size ≤ q) := Lib.hid (Nat.le_trans HB.out.size (Nat.le_trans (bsz bup) lq)); have HP : Hid (w.heap.size ≤ p) := Lib.hid (by have := HQ.out; omega); go_must (have lq9 : g9 < q := Nat.lt_of_lt_of_le (lt_of_block HG9.out) (Nat.le_trans (bsz bup) lq)); have hE__ := cU HB bup hb__; replace HB := ck HB hE__; (try replace HG5 := ck HG5 hE__); (try replace HG9 := ck HG9 hE__); clear hE__ hb__; have HR := Lib.hid hr; have HS0 := Lib.hid hS0; clear hr hS0 lq; go_wp2_with fail)
    refine hK.out _ _ ?_ (fun hHeld => ?_)
    focus (exact hatB HG5 bup)
    clear hK K
    try simp only [PT]
    refine tk 4 (oi := ⟨some 28, _, _, _, _, _⟩) (v := ?_) rfl (by kernel_rfl) (.inl ⟨by rfl, ?_⟩) hHeld ?_; rotate_left; focus (intro w hSw; (try dsimp only at hSw); go_simp; try with_reducible rfl)
    simp only [PT]
    refine tk 5 (oi := ⟨some 33, _, _, _, _, _⟩) (v := ?_) rfl (by kernel_rfl) (.inl ⟨by rfl, ?_⟩) hHeld ?_; rotate_left; focus (intro w hSw; (try dsimp only at hSw); go_simp; try with_reducible rfl)
    simp only [PT]
    refine tk 6 (oi := ⟨some 34, _, _, _, _, _⟩) (v := ?_) rfl (by kernel_rfl) (.inl ⟨by rfl, ?_⟩) hHeld ?_; rotate_left; focus (intro w hSw; (try dsimp only at hSw); go_simp; try with_reducible rfl)
    simp only [PT]
    refine tk 7 (oi := ⟨some 11, _, _, _, _, _⟩) (v := ?_) rfl (by kernel_rfl) (.inl ⟨by rfl, ?_⟩) hHeld ?_; rotate_left; focus (intro w hSw; (try dsimp only at hSw); go_simp; try with_reducible rfl)
    simp only [PT]
    refine tk 8 (oi := ⟨some 12, _, _, _, _, _⟩) (v := ?_) rfl (by kernel_rfl) (.inl ⟨by rfl, ?_⟩) hHeld ?_; rotate_left; focus (intro w hSw; (try dsimp only at hSw); go_simp; try with_reducible rfl)
    simp only [PT]
    refine wpAnyH_done (by kernel_rfl) ?_ _
    clear HG5
    have hqp := lqp
    obtain ⟨wv, hwv⟩ : ∃ wv, wv = w1 := ⟨_, rfl⟩
    subst hwv
    go_wp2_with fail
    go_loopw [13] (fun i wr => ∃ (k : Nat) (S : List Slt), k ≤ n ∧ i = .int .i64 (k : Int) ∧ Hid (Below w.heap.size w wr) ∧ Hid (Rep wr p q kb (roomN nn) S) ∧ Hid (wr.heap[g9]? = some (.cells (idle.map (Value.int .i64)).toArray 49 (0, 0)))) (fun i _ => n - (intOf i).toNat)
    case atStart => exact ⟨0, S0, by omega, rfl, HB, HR, HG9⟩
    case round =>
      clear HB HR HG9 HS0
      obtain ⟨k, S, hk, rfl, HB, HR, HG9⟩ := hrel
      by_cases hend : k = n
      · subst k
        obtain ⟨wv, hwv⟩ : ∃ wv, wv = wr := ⟨_, rfl⟩
        subst hwv
        go_wp2_with (first
          | (go_at_call 19; go_must (refine (list_law p q kb _ S _ (HR.out.keep bup)).mono ?_); rintro e w4 ⟨adw, cw, ls, rfl, hpm, hso, ho, hb__⟩; have HTW := Lib.hid (Twin.mk hpm.symm hso); go_must (have HWO : Hid (∀ x, adw = some x → p + 1 ≤ x.block ∧ x.block < w4.heap.size) := Lib.hid (fun x hx => ⟨Nat.lt_of_lt_of_le (lt_of_block (HR.out.keep bup).tb.hp) (own_block ho x hx).1, (own_block ho x hx).2⟩)); have hE__ := cU HB bup hb__; replace HB := ck HB hE__; (try replace HR := ck HR hE__); (try replace HG9 := ck HG9 hE__); clear hE__ hb__; have HWS := Lib.hid (Fls.of_own ho); clear ho hpm hso)
          | (go_at_call 18; go_must (refine (room_any nn HNN.out _).mono ?_); rintro e w5 ⟨rfl, hb__⟩; go_must (have HWO2 : Hid (∀ x, adw = some x → p + 1 ≤ x.block ∧ x.block < w5.heap.size) := Lib.hid (fun x hx => ⟨(HWO.out x hx).1, Nat.lt_of_lt_of_le (HWO.out x hx).2 (Nat.le_trans (bsz bup) (bsz hb__))⟩)); clear HWO; have HWO := HWO2; clear HWO2; have hE__ := cU HB bup hb__; replace HB := ck HB hE__; (try replace HR := ck HR hE__); (try replace HG9 := ck HG9 hE__); (try replace HWS := ck HWS hE__); clear hE__ hb__)
          | ((with_reducible refine sl 54 ?_); go_must (refine wpL_build rfl 59 _ rfl [(0, .int .i64 ((roomN nn : Nat) : Int)), (1, .slice adw ls.length cw)] rfl #[.int .i64 ((roomN nn : Nat) : Int), .slice adw ls.length cw] (built_rt2 _ _ _ _) ?_); simp only [PT])
          | ((with_reducible refine sl 55 ?_); go_must (refine wpL_boxG rfl 59 (.tmp 54) rfl #[.int .i64 ((roomN nn : Nat) : Int), .slice adw ls.length cw] rfl ?_); intro wb55 g55 he__ le_55 lt_55 hg__ hb__; go_must (have hpr : p < g55 := Nat.lt_of_lt_of_le (lt_of_block HR.out.tb.hp) le_55); go_must (have HRr : Hid (w.heap.size ≤ g55) := Lib.hid (Nat.le_trans HB.out.size le_55)); go_must (have HWN : Hid (∀ x, adw = some x → x.block ≠ g55) := Lib.hid (fun x hx => Nat.ne_of_lt (Nat.lt_of_lt_of_le (HWO.out x hx).2 le_55))); have hE__ := cU HB bup hb__; replace HB := ck HB hE__; (try replace HR := ck HR hE__); (try replace HG9 := ck HG9 hE__); (try replace HWS := ck HWS hE__); clear hE__ hb__; have HG55 := Lib.hid hg__; clear hg__ he__; simp only [PT])
          | ((with_reducible refine sl 58 ?_); go_must (refine wpL_load rfl 49 (.tmp 9) rfl g9 0 rfl (idle.map (Value.int .i64)) _ (range_block (hatB HG9 bup)) Try.underlying49 rfl HI6.out ?_); simp only [PT])
          | (go_at_call 28; go_must (refine (sweep_any p q kb (roomN nn) S now idle H6.out _ (HR.out.keep bup)).mono ?_); rintro e w8 ⟨ad1, c1, out, S', rfl, hp, hso, hr, hs, ho, hb__⟩; have HBn := Lib.hid (But.below (p := p) (q := q) hb__ (HB.out.trans (Below.mono bup HB.out.size)) HP.out HQ.out (Nat.le_refl _)); go_must (have HG9n := Lib.hid (hb__.keep (hatB HG9 bup) (by omega) (by omega))); clear HG9; have HG9 := HG9n; clear HG9n; go_must (have HO1 := Lib.hid (own_base ho (show g55 + 1 ≤ _ from lt_of_block (hatB HG55 bup)))); go_must (have HG55n := Lib.hid (hb__.keep (hatB HG55 bup) (by omega) (by omega))); go_must (have HWSn := Lib.hid (Sl.but (HWS.out.below bup) hb__ (fun x hx => by have := (HWO.out x hx).1; omega))); clear HB HWS HG55 hb__; have HB := HBn; have HG55 := HG55n; have HWS := HWSn; clear HBn HG55n HWSn; go_must (obtain ⟨he1, htw⟩ := sweep_both HR.out.good HTW.out hp hso hs); have HE1 := Lib.hid he1; have HTW2 := Lib.hid htw; have HOS := Lib.hid hso; have HNI := Lib.hid (HTW.out.nice HR.out.good); have hlw := HTW.out.len; have hl40 := HR.out.le; clear HR; have HR := Lib.hid hr; clear hr hp hso hs ho he1 htw))
        obtain ⟨r, hr⟩ : ∃ r, r = g55 := ⟨_, rfl⟩
        subst hr
        have HT : Hid (RT w8 r (p + 1) (roomN nn) ls) := Lib.hid ⟨adw, cw, HG55.out, HWS.out, fun x hx => ⟨HWN.out x hx, (HWO.out x hx).1⟩, by omega, by have := lt_of_block HG55.out; omega⟩
        clear HG55 HWS HWN HWO
        obtain ⟨L3, hL3⟩ : ∃ L3, L3 = stF now idle ls := ⟨_, rfl⟩
        rw [← hL3] at HTW2
        have HL3 := Lib.hid hL3
        clear hL3
        refine wp_region_held_drew (S := fun u__ => u__.heap[g9]? = some (.cells (idle.map (Value.int .i64)).toArray 49 (0, 0))) (by kernel_rfl) ?_ (fun hHeld => ?_)
        focus (exact hatB HG9 bup)
        refine tk 0 (oi := ⟨some 60, _, _, _, _, _⟩) (v := ?_) rfl (by kernel_rfl) (.inl ⟨by rfl, ?_⟩) hHeld ?_; rotate_left; focus (intro w hSw; (try dsimp only at hSw); go_simp; try with_reducible rfl)
        simp only [PT]
        refine tk 1 (oi := ⟨some 61, _, _, _, _, _⟩) (v := ?_) rfl (by kernel_rfl) (.inl ⟨by rfl, ?_⟩) hHeld ?_; rotate_left; focus (intro w hSw; (try dsimp only at hSw); go_simp; try with_reducible rfl)
        simp only [PT]
        refine tk 2 (oi := ⟨some 62, _, _, _, _, _⟩) (v := ?_) rfl (by kernel_rfl) (.inl ⟨by rfl, ?_⟩) hHeld ?_; rotate_left; focus (intro w hSw; (try dsimp only at hSw); go_simp; try with_reducible rfl)
        simp only [PT]
        refine' tk 3 (oi := ⟨some 63, _, _, _, _, _⟩) (v := _) rfl (by kernel_rfl) (yieldsIf_load_mid (by rfl) _ _ rfl _ _ rfl (idle.map (Value.int .i64)) _ (fun _ h => range_block h) (Try.underlying49) rfl (HI6.out)) hHeld ?_
        simp only [PT]
        refine wpAnyH_ready (rs := [4]) (by kernel_rfl) (by simp) ?_
        refine (AllReadyH.cons (o := ⟨some 64, _, _, _, _, _⟩) rfl (fun K hK => ?_) AllReadyH.nil)
        focus (first | (refine skip_step ?_ ?_; focus (rfl)) | (go_simp; go_must (refine (rsweep_any r (p + 1) (roomN nn) ls now idle H6.out _ (HT.out.keep bup)).mono ?_); rintro e w9 ⟨ad2, c2, out2, rfl, ho2e, ho2, ht, hb__⟩; have HBn := Lib.hid (But.below (p := r) (q := r) hb__ (HB.out.trans (Below.mono bup HB.out.size)) HRr.out HRr.out (Nat.le_refl _)); go_must (have HG9n := Lib.hid (hb__.keep (hatB HG9 bup) (by omega) (by omega))); clear HG9; have HG9 := HG9n; clear HG9n; go_must (have HO1n := Lib.hid (own_but (own_keep HO1.out bup) hb__ (by omega) (by omega))); clear HO1; have HO1 := HO1n; clear HO1n; go_must (have HRn := Lib.hid (Rep.but (HR.out.keep bup) hb__ (by omega) (by omega) (by omega) (by omega))); clear HR HB hb__; have HR := HRn; have HB := HBn; clear HRn HBn; have HO2 := Lib.hid ho2; go_must (obtain rfl : out = out2 := HE1.out.trans ho2e.symm); clear HT; rw [← HL3.out] at ht; go_must (obtain ⟨ad3, c3, hh1, hh2, _⟩ := ht); have HGT := Lib.hid hh1; have HF3 := Lib.hid hh2; clear hh1 hh2 ho2 ho2e; go_wp2_with fail))
        refine hK.out _ _ ?_ (fun hHeld => ?_)
        focus (exact hatB HG9 bup)
        clear hK K
        try simp only [PT]
        refine wpAnyH_ready (rs := [5]) (by kernel_rfl) (by simp) ?_
        refine (AllReadyH.cons (o := ⟨some 65, _, _, _, _, _⟩) rfl (fun K hK => ?_) AllReadyH.nil)
        focus (first | (refine skip_step ?_ ?_; focus (rfl)) | (go_simp; go_must (refine (same_at ad1 ad2 _ c1 _ c2 _ _ (Fls.of_own (own_keep HO1.out bup)) (Fls.of_own (own_keep HO2.out bup))).mono ?_); rintro e w5 ⟨rfl, hb__⟩; have hE__ := cU HB bup hb__; replace HB := ck HB hE__; (try replace HR := ck HR hE__); (try replace HG9 := ck HG9 hE__); (try replace HGT := ck HGT hE__); (try replace HF3 := ck HF3 hE__); (try replace HO1 := ck HO1 hE__); clear hE__ hb__; clear HO2; go_wp2_with fail))
        refine hK.out _ _ ?_ (fun hHeld => ?_)
        focus (exact hatB HG9 bup)
        clear hK K
        try simp only [PT]
        refine tk 6 (oi := ⟨some 66, _, _, _, _, _⟩) (v := ?_) rfl (by kernel_rfl) (.inl ⟨by rfl, ?_⟩) hHeld ?_; rotate_left; focus (intro w hSw; (try dsimp only at hSw); go_simp; try with_reducible rfl)
        simp only [PT]
        refine tk 7 (oi := ⟨some 67, _, _, _, _, _⟩) (v := ?_) rfl (by kernel_rfl) (.inl ⟨by rfl, ?_⟩) hHeld ?_; rotate_left; focus (intro w hSw; (try dsimp only at hSw); go_simp; try with_reducible rfl)
        simp only [PT]
        first | (refine tk 8 (oi := ⟨some 68, _, _, _, _, _⟩) (v := undef) rfl (by kernel_rfl) (.inr ⟨by rfl, rfl⟩) hHeld ?_) | (refine tk 8 (oi := ⟨some 68, _, _, _, _, _⟩) (v := ?_) rfl (by kernel_rfl) (.inl ⟨by rfl, ?_⟩) hHeld ?_; rotate_left; focus (intro w hSw; (try dsimp only at hSw); go_simp; try with_reducible rfl))
        simp only [PT]
        first | (refine tk 10 (oi := ⟨some 70, _, _, _, _, _⟩) (v := undef) rfl (by kernel_rfl) (.inr ⟨by rfl, rfl⟩) hHeld ?_) | (refine tk 10 (oi := ⟨some 70, _, _, _, _, _⟩) (v := ?_) rfl (by kernel_rfl) (.inl ⟨by rfl, ?_⟩) hHeld ?_; rotate_left; focus (intro w hSw; (try dsimp only at hSw); go_simp; try with_reducible rfl))
        simp only [PT]
        first | (refine tk 11 (oi := ⟨some 71, _, _, _, _, _⟩) (v := undef) rfl (by kernel_rfl) (.inr ⟨by rfl, rfl⟩) hHeld ?_) | (refine tk 11 (oi := ⟨some 71, _, _, _, _, _⟩) (v := ?_) rfl (by kernel_rfl) (.inl ⟨by rfl, ?_⟩) hHeld ?_; rotate_left; focus (intro w hSw; (try dsimp only at hSw); go_simp; try with_reducible rfl))
        simp only [PT]
        first | (refine tk 12 (oi := ⟨some 72, _, _, _, _, _⟩) (v := undef) rfl (by kernel_rfl) (.inr ⟨by rfl, rfl⟩) hHeld ?_) | (refine tk 12 (oi := ⟨some 72, _, _, _, _, _⟩) (v := ?_) rfl (by kernel_rfl) (.inl ⟨by rfl, ?_⟩) hHeld ?_; rotate_left; focus (intro w hSw; (try dsimp only at hSw); go_simp; try with_reducible rfl))
        simp only [PT]
        refine wpAnyH_ready (rs := [9, 13]) (by kernel_rfl) (by simp) ?_
        refine (AllReadyH.cons (o := ⟨some 69, _, _, _, _, _⟩) rfl (fun K hK => ?_) (AllReadyH.cons (o := ⟨some 73, _, _, _, _, _⟩) rfl (fun K hK => ?_) AllReadyH.nil))
        focus (first | (refine skip_step ?_ ?_; focus (rfl)) | (go_simp; go_must (refine (list_law p q kb _ S' _ (HR.out.keep bup)).mono ?_); rintro e w4 ⟨ad4, c4, l4, rfl, hpm, hso, ho, hb__⟩; go_must (obtain rfl : L3 = l4 := (HTW2.out.eq HR.out.good hso hpm).symm); have hE__ := cU HB bup hb__; replace HB := ck HB hE__; (try replace HR := ck HR hE__); (try replace HG9 := ck HG9 hE__); (try replace HGT := ck HGT hE__); (try replace HF3 := ck HF3 hE__); (try replace HO1 := ck HO1 hE__); clear hE__ hb__; have HW4 := Lib.hid (Fls.of_own ho); clear ho hpm hso; go_wp2_with fail))
        refine hK.out _ _ ?_ (fun hHeld => ?_)
        focus (exact hatB HG9 bup)
        clear hK K
        try simp only [PT]
        refine wpAnyH_ready (rs := [13]) (by kernel_rfl) (by simp) ?_
        refine (AllReadyH.cons (o := ⟨some 73, _, _, _, _, _⟩) rfl (fun K hK => ?_) AllReadyH.nil)
        (first | (refine skip_step ?_ ?_; focus (rfl)) | (go_must (refine step_loadC (by rfl) 38 (.tmp 72) rfl r 1 rfl (.slice ad3 L3.length c3) (cellV (hatB HGT bup) rfl) Try.underlying38 rfl ?_)))
        refine hK.out _ _ ?_ (fun hHeld => ?_)
        focus (exact hatB HG9 bup)
        clear hK K
        try simp only [PT]
        refine wpAnyH_ready (rs := [14]) (by kernel_rfl) (by simp) ?_
        refine (AllReadyH.cons (o := ⟨some 74, _, _, _, _, _⟩) rfl (fun K hK => ?_) AllReadyH.nil)
        focus (first | (refine skip_step ?_ ?_; focus (rfl)) | (go_simp; go_must (refine (same_at ad4 ad3 _ c4 _ c3 L3 _ (HW4.out.below bup) (HF3.out.below bup)).mono ?_); rintro e w5 ⟨rfl, hb__⟩; have hE__ := cU HB bup hb__; replace HB := ck HB hE__; (try replace HR := ck HR hE__); (try replace HG9 := ck HG9 hE__); (try replace HO1 := ck HO1 hE__); clear hE__ hb__; clear HW4 HF3 HGT; go_wp2_with fail))
        refine hK.out _ _ ?_ (fun hHeld => ?_)
        focus (exact hatB HG9 bup)
        clear hK K
        try simp only [PT]
        first | (refine tk 15 (oi := ⟨some 75, _, _, _, _, _⟩) (v := undef) rfl (by kernel_rfl) (.inr ⟨by rfl, rfl⟩) hHeld ?_) | (refine tk 15 (oi := ⟨some 75, _, _, _, _, _⟩) (v := ?_) rfl (by kernel_rfl) (.inl ⟨by rfl, ?_⟩) hHeld ?_; rotate_left; focus (intro w hSw; (try dsimp only at hSw); go_simp; try with_reducible rfl))
        simp only [PT]
        refine tk 16 (oi := ⟨some 76, _, _, _, _, _⟩) (v := ?_) rfl (by kernel_rfl) (.inl ⟨by rfl, ?_⟩) hHeld ?_; rotate_left; focus (intro w hSw; (try dsimp only at hSw); go_simp; try with_reducible rfl)
        simp only [PT]
        refine tk 17 (oi := ⟨some 77, _, _, _, _, _⟩) (v := ?_) rfl (by kernel_rfl) (.inl ⟨by rfl, ?_⟩) hHeld ?_; rotate_left; focus (intro w hSw; (try dsimp only at hSw); go_simp; try with_reducible rfl)
        simp only [PT]
        first | (refine tk 18 (oi := ⟨some 78, _, _, _, _, _⟩) (v := undef) rfl (by kernel_rfl) (.inr ⟨by rfl, rfl⟩) hHeld ?_) | (refine tk 18 (oi := ⟨some 78, _, _, _, _, _⟩) (v := ?_) rfl (by kernel_rfl) (.inl ⟨by rfl, ?_⟩) hHeld ?_; rotate_left; focus (intro w hSw; (try dsimp only at hSw); go_simp; try with_reducible rfl))
        simp only [PT]
        first | (refine tk 19 (oi := ⟨some 79, _, _, _, _, _⟩) (v := undef) rfl (by kernel_rfl) (.inr ⟨by rfl, rfl⟩) hHeld ?_) | (refine tk 19 (oi := ⟨some 79, _, _, _, _, _⟩) (v := ?_) rfl (by kernel_rfl) (.inl ⟨by rfl, ?_⟩) hHeld ?_; rotate_left; focus (intro w hSw; (try dsimp only at hSw); go_simp; try with_reducible rfl))
        simp only [PT]
        first | (refine tk 20 (oi := ⟨some 80, _, _, _, _, _⟩) (v := undef) rfl (by kernel_rfl) (.inr ⟨by rfl, rfl⟩) hHeld ?_) | (refine' tk 20 (oi := ⟨some 80, _, _, _, _, _⟩) (v := _) rfl (by kernel_rfl) (yieldsIf_load_mid (by rfl) _ _ rfl _ _ rfl (idle.map (Value.int .i64)) _ (fun _ h => range_block h) (Try.underlying49) rfl (HI6.out)) hHeld ?_)
        simp only [PT]
        refine wpAnyH_ready (rs := [21]) (by kernel_rfl) (by simp) ?_
        refine (AllReadyH.cons (o := ⟨some 81, _, _, _, _, _⟩) rfl (fun K hK => ?_) AllReadyH.nil)
        focus (first | (refine skip_step ?_ ?_; focus (rfl)) | (go_simp; go_must (refine (sweep_any p q kb (roomN nn) S' now idle H6.out _ (HR.out.keep bup)).mono ?_); rintro e w8 ⟨ad5, c5, out5, S2, rfl, hp, hso, hr, hs, ho, hb__⟩; have HBn := Lib.hid (But.below (p := p) (q := q) hb__ (HB.out.trans (Below.mono bup HB.out.size)) HP.out HQ.out (Nat.le_refl _)); go_must (have HG9n := Lib.hid (hb__.keep (hatB HG9 bup) (by omega) (by omega))); clear HG9; have HG9 := HG9n; clear HG9n; go_must (have HO1n := Lib.hid (own_but (own_keep HO1.out bup) hb__ (by omega) (by omega))); clear HO1 HB hb__; have HO1 := HO1n; have HB := HBn; clear HO1n HBn; go_must (obtain ⟨he5, htw5⟩ := sweep_both HR.out.good HTW2.out hp hso hs); rw [HL3.out, out_st] at he5; rw [HL3.out, st_st, ← HL3.out] at htw5; go_must (subst he5); have HTW3 := Lib.hid htw5; clear HR; have HR := Lib.hid hr; clear hr hp hso hs ho htw5; go_wp2_with fail))
        refine hK.out _ _ ?_ (fun hHeld => ?_)
        focus (exact hatB HG9 bup)
        clear hK K
        try simp only [PT]
        first | (refine tk 22 (oi := ⟨some 82, _, _, _, _, _⟩) (v := undef) rfl (by kernel_rfl) (.inr ⟨by rfl, rfl⟩) hHeld ?_) | (refine tk 22 (oi := ⟨some 82, _, _, _, _, _⟩) (v := ?_) rfl (by kernel_rfl) (.inl ⟨by rfl, ?_⟩) hHeld ?_; rotate_left; focus (intro w hSw; (try dsimp only at hSw); go_simp; try with_reducible rfl))
        simp only [PT]
        first | (refine tk 23 (oi := ⟨some 83, _, _, _, _, _⟩) (v := undef) rfl (by kernel_rfl) (.inr ⟨by rfl, rfl⟩) hHeld ?_) | (refine' tk 23 (oi := ⟨some 83, _, _, _, _, _⟩) (v := (.bool false)) rfl (by kernel_rfl) (.inl ⟨by rfl, ?_⟩) hHeld ?_; focus (intro w hSw; (try dsimp only at hSw); go_simp; first | done | rfl | (simp [*]; done) | (simp [*]; omega)))
        simp only [PT]
        refine tk 24 (oi := ⟨some 84, _, _, _, _, _⟩) (v := ?_) rfl (by kernel_rfl) (.inl ⟨by rfl, ?_⟩) hHeld ?_; rotate_left; focus (intro w hSw; (try dsimp only at hSw); go_simp; try with_reducible rfl)
        simp only [PT]
        refine wpAnyH_done (by kernel_rfl) ?_ _
        rotate_left
        (first | (refine skip_step ?_ ?_; focus (rfl)) | (go_must (refine step_loadC (by rfl) 38 (.tmp 72) rfl r 1 rfl (.slice ad3 L3.length c3) (cellV (hatB HGT bup) rfl) Try.underlying38 rfl ?_)))
        refine hK.out _ _ ?_ (fun hHeld => ?_)
        focus (exact hatB HG9 bup)
        clear hK K
        try simp only [PT]
        refine wpAnyH_ready (rs := [9]) (by kernel_rfl) (by simp) ?_
        refine (AllReadyH.cons (o := ⟨some 69, _, _, _, _, _⟩) rfl (fun K hK => ?_) AllReadyH.nil)
        focus (first | (refine skip_step ?_ ?_; focus (rfl)) | (go_simp; go_must (refine (list_law p q kb _ S' _ (HR.out.keep bup)).mono ?_); rintro e w4 ⟨ad4, c4, l4, rfl, hpm, hso, ho, hb__⟩; go_must (obtain rfl : L3 = l4 := (HTW2.out.eq HR.out.good hso hpm).symm); have hE__ := cU HB bup hb__; replace HB := ck HB hE__; (try replace HR := ck HR hE__); (try replace HG9 := ck HG9 hE__); (try replace HGT := ck HGT hE__); (try replace HF3 := ck HF3 hE__); (try replace HO1 := ck HO1 hE__); clear hE__ hb__; have HW4 := Lib.hid (Fls.of_own ho); clear ho hpm hso; go_wp2_with fail))
        refine hK.out _ _ ?_ (fun hHeld => ?_)
        focus (exact hatB HG9 bup)
        clear hK K
        try simp only [PT]
        refine wpAnyH_ready (rs := [14]) (by kernel_rfl) (by simp) ?_
        refine (AllReadyH.cons (o := ⟨some 74, _, _, _, _, _⟩) rfl (fun K hK => ?_) AllReadyH.nil)
        focus (first | (refine skip_step ?_ ?_; focus (rfl)) | (go_simp; go_must (refine (same_at ad4 ad3 _ c4 _ c3 L3 _ (HW4.out.below bup) (HF3.out.below bup)).mono ?_); rintro e w5 ⟨rfl, hb__⟩; have hE__ := cU HB bup hb__; replace HB := ck HB hE__; (try replace HR := ck HR hE__); (try replace HG9 := ck HG9 hE__); (try replace HO1 := ck HO1 hE__); clear hE__ hb__; clear HW4 HF3 HGT; go_wp2_with fail))
        refine hK.out _ _ ?_ (fun hHeld => ?_)
        focus (exact hatB HG9 bup)
        clear hK K
        try simp only [PT]
        first | (refine tk 15 (oi := ⟨some 75, _, _, _, _, _⟩) (v := undef) rfl (by kernel_rfl) (.inr ⟨by rfl, rfl⟩) hHeld ?_) | (refine tk 15 (oi := ⟨some 75, _, _, _, _, _⟩) (v := ?_) rfl (by kernel_rfl) (.inl ⟨by rfl, ?_⟩) hHeld ?_; rotate_left; focus (intro w hSw; (try dsimp only at hSw); go_simp; try with_reducible rfl))
        simp only [PT]
        refine tk 16 (oi := ⟨some 76, _, _, _, _, _⟩) (v := ?_) rfl (by kernel_rfl) (.inl ⟨by rfl, ?_⟩) hHeld ?_; rotate_left; focus (intro w hSw; (try dsimp only at hSw); go_simp; try with_reducible rfl)
        simp only [PT]
        refine tk 17 (oi := ⟨some 77, _, _, _, _, _⟩) (v := ?_) rfl (by kernel_rfl) (.inl ⟨by rfl, ?_⟩) hHeld ?_; rotate_left; focus (intro w hSw; (try dsimp only at hSw); go_simp; try with_reducible rfl)
        simp only [PT]
        first | (refine tk 18 (oi := ⟨some 78, _, _, _, _, _⟩) (v := undef) rfl (by kernel_rfl) (.inr ⟨by rfl, rfl⟩) hHeld ?_) | (refine tk 18 (oi := ⟨some 78, _, _, _, _, _⟩) (v := ?_) rfl (by kernel_rfl) (.inl ⟨by rfl, ?_⟩) hHeld ?_; rotate_left; focus (intro w hSw; (try dsimp only at hSw); go_simp; try with_reducible rfl))
        simp only [PT]
        first | (refine tk 19 (oi := ⟨some 79, _, _, _, _, _⟩) (v := undef) rfl (by kernel_rfl) (.inr ⟨by rfl, rfl⟩) hHeld ?_) | (refine tk 19 (oi := ⟨some 79, _, _, _, _, _⟩) (v := ?_) rfl (by kernel_rfl) (.inl ⟨by rfl, ?_⟩) hHeld ?_; rotate_left; focus (intro w hSw; (try dsimp only at hSw); go_simp; try with_reducible rfl))
        simp only [PT]
        first | (refine tk 20 (oi := ⟨some 80, _, _, _, _, _⟩) (v := undef) rfl (by kernel_rfl) (.inr ⟨by rfl, rfl⟩) hHeld ?_) | (refine' tk 20 (oi := ⟨some 80, _, _, _, _, _⟩) (v := _) rfl (by kernel_rfl) (yieldsIf_load_mid (by rfl) _ _ rfl _ _ rfl (idle.map (Value.int .i64)) _ (fun _ h => range_block h) (Try.underlying49) rfl (HI6.out)) hHeld ?_)
        simp only [PT]
        refine wpAnyH_ready (rs := [21]) (by kernel_rfl) (by simp) ?_
        refine (AllReadyH.cons (o := ⟨some 81, _, _, _, _, _⟩) rfl (fun K hK => ?_) AllReadyH.nil)
        focus (first | (refine skip_step ?_ ?_; focus (rfl)) | (go_simp; go_must (refine (sweep_any p q kb (roomN nn) S' now idle H6.out _ (HR.out.keep bup)).mono ?_); rintro e w8 ⟨ad5, c5, out5, S2, rfl, hp, hso, hr, hs, ho, hb__⟩; have HBn := Lib.hid (But.below (p := p) (q := q) hb__ (HB.out.trans (Below.mono bup HB.out.size)) HP.out HQ.out (Nat.le_refl _)); go_must (have HG9n := Lib.hid (hb__.keep (hatB HG9 bup) (by omega) (by omega))); clear HG9; have HG9 := HG9n; clear HG9n; go_must (have HO1n := Lib.hid (own_but (own_keep HO1.out bup) hb__ (by omega) (by omega))); clear HO1 HB hb__; have HO1 := HO1n; have HB := HBn; clear HO1n HBn; go_must (obtain ⟨he5, htw5⟩ := sweep_both HR.out.good HTW2.out hp hso hs); rw [HL3.out, out_st] at he5; rw [HL3.out, st_st, ← HL3.out] at htw5; go_must (subst he5); have HTW3 := Lib.hid htw5; clear HR; have HR := Lib.hid hr; clear hr hp hso hs ho htw5; go_wp2_with fail))
        refine hK.out _ _ ?_ (fun hHeld => ?_)
        focus (exact hatB HG9 bup)
        clear hK K
        try simp only [PT]
        first | (refine tk 22 (oi := ⟨some 82, _, _, _, _, _⟩) (v := undef) rfl (by kernel_rfl) (.inr ⟨by rfl, rfl⟩) hHeld ?_) | (refine tk 22 (oi := ⟨some 82, _, _, _, _, _⟩) (v := ?_) rfl (by kernel_rfl) (.inl ⟨by rfl, ?_⟩) hHeld ?_; rotate_left; focus (intro w hSw; (try dsimp only at hSw); go_simp; try with_reducible rfl))
        simp only [PT]
        first | (refine tk 23 (oi := ⟨some 83, _, _, _, _, _⟩) (v := undef) rfl (by kernel_rfl) (.inr ⟨by rfl, rfl⟩) hHeld ?_) | (refine' tk 23 (oi := ⟨some 83, _, _, _, _, _⟩) (v := (.bool false)) rfl (by kernel_rfl) (.inl ⟨by rfl, ?_⟩) hHeld ?_; focus (intro w hSw; (try dsimp only at hSw); go_simp; first | done | rfl | (simp [*]; done) | (simp [*]; omega)))
        simp only [PT]
        refine tk 24 (oi := ⟨some 84, _, _, _, _, _⟩) (v := ?_) rfl (by kernel_rfl) (.inl ⟨by rfl, ?_⟩) hHeld ?_; rotate_left; focus (intro w hSw; (try dsimp only at hSw); go_simp; try with_reducible rfl)
        simp only [PT]
        refine wpAnyH_done (by kernel_rfl) ?_ _
        rotate_left
        all_goals
          as_aux_lemma =>
          have HNO := Lib.hid (show Nice out by rw [HE1.out]; exact HNI.out.filter _)
          have hsum : out.length + L3.length = ls.length := by rw [HE1.out, HL3.out]; exact parts_len _ _ _
          have HLE : Hid ((flowsS S2).length = L3.length) := Lib.hid HTW3.out.len
          have HTW4 := HTW3
          rw [HL3.out] at HTW4
          go_wp2_with fail
          go_loopw [17] (fun i wr => ∃ m : Nat, m ≤ out.length ∧ i = .int .i64 (m : Int) ∧ Hid (Below w.heap.size w wr) ∧ Hid (Rep wr p q kb (roomN nn) S2) ∧ Hid (wr.ownsRow (r + 1) 28 41 (.slice ad1 out.length c1) out.length (flosC out))) (fun i _ => out.length - (intOf i).toNat)
          case atStart => exact ⟨0, by omega, rfl, Lib.hid (HB.out.trans (Below.mono bup HB.out.size)), Lib.hid (HR.out.keep bup), Lib.hid (own_keep HO1.out bup)⟩
          case round =>
            clear HB HR HO1
            obtain ⟨m, hm, rfl, HB, HR, HO1⟩ := hrel
            by_cases hend2 : m = out.length
            · subst m
              go_wp2_with (first
                | (go_at_call 12; go_must (refine (len_rep p q kb _ _ _ (HR.out.keep bup)).mono ?_); rw [HLE.out]; rintro e w5 ⟨rfl, hb__⟩; have hE__ := cU HB bup hb__; replace HB := ck HB hE__; (try replace HR := ck HR hE__); clear hE__ hb__))
              go_ret
              exact ⟨by simp; omega, (HB.out.trans (Below.mono bup HB.out.size))⟩
            have hlt2 : m < out.length := by omega
            have hout : out.length ≤ 40 := by omega
            obtain ⟨b2, off2, rfl, hbl2, hat2⟩ := (Fls.of_own HO1.out).at (by omega)
            obtain ⟨v, hv⟩ : ∃ v, v = out[m] := ⟨_, rfl⟩
            have HV1 := Lib.hid (show wr.rangeAt b2 (off2 + m * 41) v.v.cells by rw [hv]; exact hat2 m hlt2)
            have hvm : v ∈ out := by rw [hv]; exact List.getElem_mem _
            have HLK : Hid (look S2 v.v.key = none) := Lib.hid (swept_no HNI.out HTW4.out (by rw [← HE1.out]; exact hvm))
            have HFV := Lib.hid (right_fit (HNO.out.right v hvm))
            clear hvm
            rcases m with _ | j
            · clear hat2 hv
              go_wp2_with (first
                | ((with_reducible refine sl 97 ?_); go_must (refine wpL_load rfl 26 (.tmp 96) rfl b2 (off2 + 0 * 41) rfl v.v.key.cells _ (range_key HV1.out) Try.underlying26 rfl (tup_len v) ?_); simp only [PT])
                | (go_at_call 20; (with_reducible show Calls _ _ #[_, .agg v.v.key.cells.toArray] _ _); go_must (refine (get_no p q kb _ S2 v HLK.out _ (HR.out.keep bup)).mono ?_); rintro e w5 ⟨rfl, hb__⟩; have hE__ := cU HB bup hb__; replace HB := ck HB hE__; (try replace HR := ck HR hE__); (try replace HO1 := ck HO1 hE__); (try replace HV1 := ck HV1 hE__); clear hE__ hb__)
                | ((with_reducible refine sl 18 ?_); go_must (refine wpL_newG rfl rfl 28 rfl (.tmp 18) (.tmp 99) rfl (zeroF.cells).toArray zeroF.cells.toArray (new_info (by first | exact Flo.length zeroF_ok | exact FloW.length _ | exact LEN_18)) (new_size (by first | exact Flo.length zeroF_ok | exact FloW.length _ | exact LEN_18)) (flo_one _) (fun _ => rfl) (fun _ => rfl) ?_); intro wn18 g18 le_18 hg__ hb__; have hE__ := cU HB bup hb__; replace HB := ck HB hE__; (try replace HR := ck HR hE__); (try replace HO1 := ck HO1 hE__); (try replace HV1 := ck HV1 hE__); clear hE__ hb__; have HG18 := Lib.hid hg__; clear hg__; simp only [PT]))
              refine wp_region_held_drew (S := fun u__ => True) (by kernel_rfl) ?_ (fun hHeld => ?_)
              focus (exact trivial)
              refine tk 0 (oi := ⟨some 101, _, _, _, _, _⟩) (v := ?_) rfl (by kernel_rfl) (.inl ⟨by rfl, ?_⟩) hHeld ?_; rotate_left; focus (intro w hSw; (try dsimp only at hSw); go_simp; try with_reducible rfl)
              simp only [PT]
              refine tk 1 (oi := ⟨some 102, _, _, _, _, _⟩) (v := ?_) rfl (by kernel_rfl) (.inl ⟨by rfl, ?_⟩) hHeld ?_; rotate_left; focus (intro w hSw; (try dsimp only at hSw); go_simp; try with_reducible rfl)
              simp only [PT]
              first | (refine tk 2 (oi := ⟨some 103, _, _, _, _, _⟩) (v := undef) rfl (by kernel_rfl) (.inr ⟨by rfl, rfl⟩) hHeld ?_) | (refine tk 2 (oi := ⟨some 103, _, _, _, _, _⟩) (v := ?_) rfl (by kernel_rfl) (.inl ⟨by rfl, ?_⟩) hHeld ?_; rotate_left; focus (intro w hSw; (try dsimp only at hSw); go_simp; try with_reducible rfl))
              simp only [PT]
              first | (refine tk 3 (oi := ⟨some 104, _, _, _, _, _⟩) (v := undef) rfl (by kernel_rfl) (.inr ⟨by rfl, rfl⟩) hHeld ?_) | (refine' tk 3 (oi := ⟨some 104, _, _, _, _, _⟩) (v := (.bool false)) rfl (by kernel_rfl) (.inl ⟨by rfl, ?_⟩) hHeld ?_; focus (intro w hSw; (try dsimp only at hSw); go_simp; first | done | rfl | omega | (simp [*]; done) | (simp [*]; omega)))
              simp only [PT]
              first | (refine tk 4 (oi := ⟨some 105, _, _, _, _, _⟩) (v := undef) rfl (by kernel_rfl) (.inr ⟨by rfl, rfl⟩) hHeld ?_) | (refine tk 4 (oi := ⟨some 105, _, _, _, _, _⟩) (v := ?_) rfl (by kernel_rfl) (.inl ⟨by rfl, ?_⟩) hHeld ?_; rotate_left; focus (intro w hSw; (try dsimp only at hSw); go_simp; try with_reducible rfl))
              simp only [PT]
              first | (refine tk 5 (oi := ⟨some 106, _, _, _, _, _⟩) (v := undef) rfl (by kernel_rfl) (.inr ⟨by rfl, rfl⟩) hHeld ?_) | (refine tk 5 (oi := ⟨some 106, _, _, _, _, _⟩) (v := ?_) rfl (by kernel_rfl) (.inl ⟨by rfl, ?_⟩) hHeld ?_; rotate_left; focus (intro w hSw; (try dsimp only at hSw); go_simp; try with_reducible rfl))
              simp only [PT]
              first | (refine tk 6 (oi := ⟨some 107, _, _, _, _, _⟩) (v := undef) rfl (by kernel_rfl) (.inr ⟨by rfl, rfl⟩) hHeld ?_) | (refine tk 6 (oi := ⟨some 107, _, _, _, _, _⟩) (v := ?_) rfl (by kernel_rfl) (.inl ⟨by rfl, ?_⟩) hHeld ?_; rotate_left; focus (intro w hSw; (try dsimp only at hSw); go_simp; try with_reducible rfl))
              simp only [PT]
              first | (refine tk 7 (oi := ⟨some 108, _, _, _, _, _⟩) (v := undef) rfl (by kernel_rfl) (.inr ⟨by rfl, rfl⟩) hHeld ?_) | (refine tk 7 (oi := ⟨some 108, _, _, _, _, _⟩) (v := ?_) rfl (by kernel_rfl) (.inl ⟨by rfl, ?_⟩) hHeld ?_; rotate_left; focus (intro w hSw; (try dsimp only at hSw); go_simp; try with_reducible rfl))
              simp only [PT]
              first | (refine tk 8 (oi := ⟨some 109, _, _, _, _, _⟩) (v := undef) rfl (by kernel_rfl) (.inr ⟨by rfl, rfl⟩) hHeld ?_) | (refine tk 8 (oi := ⟨some 109, _, _, _, _, _⟩) (v := ?_) rfl (by kernel_rfl) (.inl ⟨by rfl, ?_⟩) hHeld ?_; rotate_left; focus (intro w hSw; (try dsimp only at hSw); go_simp; try with_reducible rfl))
              simp only [PT]
              first | (refine tk 9 (oi := ⟨some 110, _, _, _, _, _⟩) (v := undef) rfl (by kernel_rfl) (.inr ⟨by rfl, rfl⟩) hHeld ?_) | (refine tk 9 (oi := ⟨some 110, _, _, _, _, _⟩) (v := ?_) rfl (by kernel_rfl) (.inl ⟨by rfl, ?_⟩) hHeld ?_; rotate_left; focus (intro w hSw; (try dsimp only at hSw); go_simp; try with_reducible rfl))
              simp only [PT]
              first | (refine tk 10 (oi := ⟨some 111, _, _, _, _, _⟩) (v := undef) rfl (by kernel_rfl) (.inr ⟨by rfl, rfl⟩) hHeld ?_) | (refine tk 10 (oi := ⟨some 111, _, _, _, _, _⟩) (v := ?_) rfl (by kernel_rfl) (.inl ⟨by rfl, ?_⟩) hHeld ?_; rotate_left; focus (intro w hSw; (try dsimp only at hSw); go_simp; try with_reducible rfl))
              simp only [PT]
              first | (refine tk 11 (oi := ⟨some 112, _, _, _, _, _⟩) (v := undef) rfl (by kernel_rfl) (.inr ⟨by rfl, rfl⟩) hHeld ?_) | (refine tk 11 (oi := ⟨some 112, _, _, _, _, _⟩) (v := ?_) rfl (by kernel_rfl) (.inl ⟨by rfl, ?_⟩) hHeld ?_; rotate_left; focus (intro w hSw; (try dsimp only at hSw); go_simp; try with_reducible rfl))
              simp only [PT]
              first | (refine tk 12 (oi := ⟨some 113, _, _, _, _, _⟩) (v := undef) rfl (by kernel_rfl) (.inr ⟨by rfl, rfl⟩) hHeld ?_) | (refine tk 12 (oi := ⟨some 113, _, _, _, _, _⟩) (v := ?_) rfl (by kernel_rfl) (.inl ⟨by rfl, ?_⟩) hHeld ?_; rotate_left; focus (intro w hSw; (try dsimp only at hSw); go_simp; try with_reducible rfl))
              simp only [PT]
              first | (refine tk 13 (oi := ⟨some 114, _, _, _, _, _⟩) (v := undef) rfl (by kernel_rfl) (.inr ⟨by rfl, rfl⟩) hHeld ?_) | (refine tk 13 (oi := ⟨some 114, _, _, _, _, _⟩) (v := ?_) rfl (by kernel_rfl) (.inl ⟨by rfl, ?_⟩) hHeld ?_; rotate_left; focus (intro w hSw; (try dsimp only at hSw); go_simp; try with_reducible rfl))
              simp only [PT]
              refine wpAnyH_ready (rs := [14]) (by kernel_rfl) (by simp) ?_
              refine (AllReadyH.cons (o := ⟨some 115, _, _, _, _, _⟩) rfl (fun K hK => ?_) AllReadyH.nil)
              (go_simp)
              refine hK.out _ _ ?_ (fun hHeld => ?_)
              focus (exact trivial)
              clear hK K
              try simp only [PT]
              first | (refine tk 15 (oi := ⟨some 116, _, _, _, _, _⟩) (v := undef) rfl (by kernel_rfl) (.inr ⟨by rfl, rfl⟩) hHeld ?_) | (refine tk 15 (oi := ⟨some 116, _, _, _, _, _⟩) (v := ?_) rfl (by kernel_rfl) (.inl ⟨by rfl, ?_⟩) hHeld ?_; rotate_left; focus (intro w hSw; (try dsimp only at hSw); go_simp; try with_reducible rfl))
              simp only [PT]
              first | (refine tk 16 (oi := ⟨some 117, _, _, _, _, _⟩) (v := undef) rfl (by kernel_rfl) (.inr ⟨by rfl, rfl⟩) hHeld ?_) | (refine tk 16 (oi := ⟨some 117, _, _, _, _, _⟩) (v := ?_) rfl (by kernel_rfl) (.inl ⟨by rfl, ?_⟩) hHeld ?_; rotate_left; focus (intro w hSw; (try dsimp only at hSw); go_simp; try with_reducible rfl))
              simp only [PT]
              refine tk 17 (oi := ⟨some 118, _, _, _, _, _⟩) (v := ?_) rfl (by kernel_rfl) (.inl ⟨by rfl, ?_⟩) hHeld ?_; rotate_left; focus (intro w hSw; (try dsimp only at hSw); go_simp; try with_reducible rfl)
              simp only [PT]
              refine wpAnyH_done (by kernel_rfl) ?_ _
              go_wp2_with fail
              go_roundw
              case rel => exact ⟨0 + 1, by omega, by go_num, Lib.hid (HB.out.trans (Below.mono bup HB.out.size)), Lib.hid (HR.out.keep bup), Lib.hid (own_keep HO1.out bup)⟩
              case measure => first | (simp [intOf]; done) | (simp [intOf]; omega)
            · obtain ⟨u, hu⟩ : ∃ u, u = out[j] := ⟨_, rfl⟩
              have HU1 := Lib.hid (show wr.rangeAt b2 (off2 + j * 41) u.v.cells by rw [hu]; exact hat2 j (by omega))
              have HFU := Lib.hid (right_fit (HNO.out.right u (by rw [hu]; exact List.getElem_mem _)))
              have HOL : Hid (oldF u.v v.v = true) := Lib.hid (by rw [hu, hv]; exact sorted_old HNO.out HOS.out (by omega) hlt2)
              have hjl : j < out.length := by omega
              have hj0 : (0 : Int) ≤ (j : Int) + 1 := by omega
              clear hat2 hu hv
              go_wp2_with (first
                | ((with_reducible refine sl 97 ?_); go_must (refine wpL_load rfl 26 (.tmp 96) rfl b2 (off2 + (j + 1) * 41) rfl v.v.key.cells _ (range_key HV1.out) Try.underlying26 rfl (tup_len v) ?_); simp only [PT])
                | (go_at_call 20; (with_reducible show Calls _ _ #[_, .agg v.v.key.cells.toArray] _ _); go_must (refine (get_no p q kb _ S2 v HLK.out _ (HR.out.keep bup)).mono ?_); rintro e w5 ⟨rfl, hb__⟩; have hE__ := cU HB bup hb__; replace HB := ck HB hE__; (try replace HR := ck HR hE__); (try replace HO1 := ck HO1 hE__); (try replace HV1 := ck HV1 hE__); (try replace HU1 := ck HU1 hE__); clear hE__ hb__)
                | ((with_reducible refine sl 18 ?_); go_must (refine wpL_newG rfl rfl 28 rfl (.tmp 18) (.tmp 99) rfl (zeroF.cells).toArray zeroF.cells.toArray (new_info (by first | exact Flo.length zeroF_ok | exact FloW.length _ | exact LEN_18)) (new_size (by first | exact Flo.length zeroF_ok | exact FloW.length _ | exact LEN_18)) (flo_one _) (fun _ => rfl) (fun _ => rfl) ?_); intro wn18 g18 le_18 hg__ hb__; have hE__ := cU HB bup hb__; replace HB := ck HB hE__; (try replace HR := ck HR hE__); (try replace HO1 := ck HO1 hE__); (try replace HV1 := ck HV1 hE__); (try replace HU1 := ck HU1 hE__); clear hE__ hb__; have HG18 := Lib.hid hg__; clear hg__; simp only [PT]))
              refine wp_region_held_drew (S := fun u__ => u__.rangeAt b2 (off2 + j * 41) u.v.cells ∧ u__.rangeAt b2 (off2 + (j + 1) * 41) v.v.cells) (by kernel_rfl) ?_ (fun hHeld => ?_)
              focus (exact ⟨range_keep HU1.out bup, range_keep HV1.out bup⟩)
              refine tk 0 (oi := ⟨some 101, _, _, _, _, _⟩) (v := ?_) rfl (by kernel_rfl) (.inl ⟨by rfl, ?_⟩) hHeld ?_; rotate_left; focus (intro w hSw; (try dsimp only at hSw); go_simp; try with_reducible rfl)
              simp only [PT]
              refine tk 1 (oi := ⟨some 102, _, _, _, _, _⟩) (v := ?_) rfl (by kernel_rfl) (.inl ⟨by rfl, ?_⟩) hHeld ?_; rotate_left; focus (intro w hSw; (try dsimp only at hSw); go_simp; try with_reducible rfl)
              simp only [PT]
              first | (refine tk 2 (oi := ⟨some 103, _, _, _, _, _⟩) (v := undef) rfl (by kernel_rfl) (.inr ⟨by rfl, rfl⟩) hHeld ?_) | (refine tk 2 (oi := ⟨some 103, _, _, _, _, _⟩) (v := ?_) rfl (by kernel_rfl) (.inl ⟨by rfl, ?_⟩) hHeld ?_; rotate_left; focus (intro w hSw; (try dsimp only at hSw); go_simp; try with_reducible rfl))
              simp only [PT]
              first | (refine tk 3 (oi := ⟨some 104, _, _, _, _, _⟩) (v := undef) rfl (by kernel_rfl) (.inr ⟨by rfl, rfl⟩) hHeld ?_) | (refine' tk 3 (oi := ⟨some 104, _, _, _, _, _⟩) (v := (.bool true)) rfl (by kernel_rfl) (.inl ⟨by rfl, ?_⟩) hHeld ?_; focus (intro w hSw; (try dsimp only at hSw); go_simp; first | done | rfl | omega | (simp [*]; done) | (simp [*]; omega)))
              simp only [PT]
              first | (refine tk 4 (oi := ⟨some 105, _, _, _, _, _⟩) (v := undef) rfl (by kernel_rfl) (.inr ⟨by rfl, rfl⟩) hHeld ?_) | (refine tk 4 (oi := ⟨some 105, _, _, _, _, _⟩) (v := ?_) rfl (by kernel_rfl) (.inl ⟨by rfl, ?_⟩) hHeld ?_; rotate_left; focus (intro w hSw; (try dsimp only at hSw); go_simp; try with_reducible rfl))
              simp only [PT]
              first | (refine tk 5 (oi := ⟨some 106, _, _, _, _, _⟩) (v := undef) rfl (by kernel_rfl) (.inr ⟨by rfl, rfl⟩) hHeld ?_) | (refine tk 5 (oi := ⟨some 106, _, _, _, _, _⟩) (v := ?_) rfl (by kernel_rfl) (.inl ⟨by rfl, ?_⟩) hHeld ?_; rotate_left; focus (intro w hSw; (try dsimp only at hSw); go_simp; try with_reducible rfl))
              simp only [PT]
              first | (refine tk 6 (oi := ⟨some 107, _, _, _, _, _⟩) (v := undef) rfl (by kernel_rfl) (.inr ⟨by rfl, rfl⟩) hHeld ?_) | (refine tk 6 (oi := ⟨some 107, _, _, _, _, _⟩) (v := ?_) rfl (by kernel_rfl) (.inl ⟨by rfl, ?_⟩) hHeld ?_; rotate_left; focus (intro w hSw; (try dsimp only at hSw); go_simp; try with_reducible rfl))
              simp only [PT]
              first | (refine tk 7 (oi := ⟨some 108, _, _, _, _, _⟩) (v := undef) rfl (by kernel_rfl) (.inr ⟨by rfl, rfl⟩) hHeld ?_) | (refine' tk 7 (oi := ⟨some 108, _, _, _, _, _⟩) (v := _) rfl (by kernel_rfl) (yields_pred (by rfl) (.tmp 107) rfl j (by omega) (by first | rfl | exact congrArg _ (Int.natCast_succ j))) hHeld ?_)
              simp only [PT]
              first | (refine tk 8 (oi := ⟨some 109, _, _, _, _, _⟩) (v := undef) rfl (by kernel_rfl) (.inr ⟨by rfl, rfl⟩) hHeld ?_) | (refine tk 8 (oi := ⟨some 109, _, _, _, _, _⟩) (v := ?_) rfl (by kernel_rfl) (.inl ⟨by rfl, ?_⟩) hHeld ?_; rotate_left; focus (intro w hSw; (try dsimp only at hSw); go_simp; try with_reducible rfl))
              simp only [PT]
              first | (refine tk 9 (oi := ⟨some 110, _, _, _, _, _⟩) (v := undef) rfl (by kernel_rfl) (.inr ⟨by rfl, rfl⟩) hHeld ?_) | (refine' tk 9 (oi := ⟨some 110, _, _, _, _, _⟩) (v := _) rfl (by kernel_rfl) (yieldsIf_load_mid (by rfl) _ _ rfl _ _ rfl (u.v.cells) _ (fun _ h => h.1) (Try.underlying28) rfl (one_size u)) hHeld ?_)
              simp only [PT]
              first | (refine tk 10 (oi := ⟨some 111, _, _, _, _, _⟩) (v := undef) rfl (by kernel_rfl) (.inr ⟨by rfl, rfl⟩) hHeld ?_) | (refine tk 10 (oi := ⟨some 111, _, _, _, _, _⟩) (v := ?_) rfl (by kernel_rfl) (.inl ⟨by rfl, ?_⟩) hHeld ?_; rotate_left; focus (intro w hSw; (try dsimp only at hSw); go_simp; try with_reducible rfl))
              simp only [PT]
              first | (refine tk 11 (oi := ⟨some 112, _, _, _, _, _⟩) (v := undef) rfl (by kernel_rfl) (.inr ⟨by rfl, rfl⟩) hHeld ?_) | (refine tk 11 (oi := ⟨some 112, _, _, _, _, _⟩) (v := ?_) rfl (by kernel_rfl) (.inl ⟨by rfl, ?_⟩) hHeld ?_; rotate_left; focus (intro w hSw; (try dsimp only at hSw); go_simp; try with_reducible rfl))
              simp only [PT]
              first | (refine tk 12 (oi := ⟨some 113, _, _, _, _, _⟩) (v := undef) rfl (by kernel_rfl) (.inr ⟨by rfl, rfl⟩) hHeld ?_) | (refine tk 12 (oi := ⟨some 113, _, _, _, _, _⟩) (v := ?_) rfl (by kernel_rfl) (.inl ⟨by rfl, ?_⟩) hHeld ?_; rotate_left; focus (intro w hSw; (try dsimp only at hSw); go_simp; try with_reducible rfl))
              simp only [PT]
              first | (refine tk 13 (oi := ⟨some 114, _, _, _, _, _⟩) (v := undef) rfl (by kernel_rfl) (.inr ⟨by rfl, rfl⟩) hHeld ?_) | (refine' tk 13 (oi := ⟨some 114, _, _, _, _, _⟩) (v := _) rfl (by kernel_rfl) (yieldsIf_load_mid (by rfl) _ _ rfl _ _ rfl (v.v.cells) _ (fun _ h => h.2) (Try.underlying28) rfl (one_size v)) hHeld ?_)
              simp only [PT]
              refine wpAnyH_ready (rs := [14]) (by kernel_rfl) (by simp) ?_
              refine (AllReadyH.cons (o := ⟨some 115, _, _, _, _, _⟩) rfl (fun K hK => ?_) AllReadyH.nil)
              focus (first | (refine skip_step ?_ ?_; focus (rfl)) | (go_simp; go_must (refine (refOlder_any u.v v.v u.ok v.ok HFU.out HFV.out _).mono ?_); rw [HOL.out]; rintro e w5 ⟨rfl, hb__⟩; have hE__ := cU HB bup hb__; replace HB := ck HB hE__; (try replace HR := ck HR hE__); (try replace HO1 := ck HO1 hE__); (try replace HV1 := ck HV1 hE__); (try replace HU1 := ck HU1 hE__); clear hE__ hb__; go_wp2_with fail))
              refine hK.out _ _ ?_ (fun hHeld => ?_)
              focus (exact ⟨range_keep HU1.out bup, range_keep HV1.out bup⟩)
              clear hK K
              try simp only [PT]
              first | (refine tk 15 (oi := ⟨some 116, _, _, _, _, _⟩) (v := undef) rfl (by kernel_rfl) (.inr ⟨by rfl, rfl⟩) hHeld ?_) | (refine tk 15 (oi := ⟨some 116, _, _, _, _, _⟩) (v := ?_) rfl (by kernel_rfl) (.inl ⟨by rfl, ?_⟩) hHeld ?_; rotate_left; focus (intro w hSw; (try dsimp only at hSw); go_simp; try with_reducible rfl))
              simp only [PT]
              first | (refine tk 16 (oi := ⟨some 117, _, _, _, _, _⟩) (v := undef) rfl (by kernel_rfl) (.inr ⟨by rfl, rfl⟩) hHeld ?_) | (refine tk 16 (oi := ⟨some 117, _, _, _, _, _⟩) (v := ?_) rfl (by kernel_rfl) (.inl ⟨by rfl, ?_⟩) hHeld ?_; rotate_left; focus (intro w hSw; (try dsimp only at hSw); go_simp; try with_reducible rfl))
              simp only [PT]
              refine tk 17 (oi := ⟨some 118, _, _, _, _, _⟩) (v := ?_) rfl (by kernel_rfl) (.inl ⟨by rfl, ?_⟩) hHeld ?_; rotate_left; focus (intro w hSw; (try dsimp only at hSw); go_simp; try with_reducible rfl)
              simp only [PT]
              refine wpAnyH_done (by kernel_rfl) ?_ _
              go_wp2_with fail
              go_roundw
              case rel => exact ⟨j + 1 + 1, by omega, by go_num, Lib.hid (HB.out.trans (Below.mono bup HB.out.size)), Lib.hid (HR.out.keep bup), Lib.hid (own_keep HO1.out bup)⟩
              case measure => first | (simp [intOf]; done) | (simp [intOf]; omega)
      have hlt : k < n := by omega
      obtain ⟨b, off, rfl, hbl, hat⟩ := HV.out.at (by have := HLN.out; omega)
      clear hat
      obtain ⟨x, hx⟩ : ∃ x, x = xs[k]'(by have := HLN.out; omega) := ⟨_, rfl⟩
      have HXG : Hid (∀ w', Below w.heap.size w w' → w'.rangeAt b (off + k * 41) x.v.cells) := Lib.hid (fun w' hb => by rw [hx]; exact (HV.out.below hb).get k _)
      have HSZ : Hid (x.v.name.size ≤ 140737488351232) := Lib.hid (by rw [hx]; have := HF.out.2 _ (List.getElem_mem (show k < xs.length by have := HLN.out; omega)); omega)
      clear hx
      go_wp2_with (first
        | ((with_reducible refine sl 47 ?_); go_must (refine wpL_load rfl 28 (.tmp 46) rfl b (off + k * 41) rfl x.v.cells _ (HXG.out _ (HB.out.trans (Below.mono bup HB.out.size))) Try.underlying28 rfl (one_size x) ?_); simp only [PT])
        | (go_at_call 21; (with_reducible show Calls _ _ #[_, .agg x.v.cells.toArray] _ _); go_must (refine (put_law p q kb _ S x HSZ.out _ (HR.out.keep bup)).mono ?_); rintro e w6 ⟨gone, left, err, S', rfl, hr, hb__, _⟩; have HBn := Lib.hid (But.below (p := p) (q := q) hb__ (HB.out.trans (Below.mono bup HB.out.size)) HP.out HQ.out (Nat.le_refl _)); go_must (have HG9n := Lib.hid (hb__.keep (hatB HG9 bup) (by omega) (by omega))); clear HG9; have HG9 := HG9n; clear HG9n; clear HB HR hb__; have HB := HBn; clear HBn; have HR := Lib.hid hr; clear hr))
      go_roundw
      case rel => exact ⟨k + 1, S', by omega, by go_num, HB, HR, HG9⟩
      case measure => first | (simp [intOf]; done) | (simp [intOf]; omega)
end Go.Proofs.Ytgpdlhbndoeldaa
