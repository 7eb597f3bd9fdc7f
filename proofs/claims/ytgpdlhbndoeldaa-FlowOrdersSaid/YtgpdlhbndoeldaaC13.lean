/-
  Joined by program (merge.py): FloH.
-/
import Derived.Test.YtgpdlhbndoeldaaC9
/-
  Chapter 21: the statement FlowOrders: walked (written by gen/flawh.py).
-/
namespace Go.Proofs.Ytgpdlhbndoeldaa
open Go.RowKit Go.Sort
set_option linter.unusedVariables false
set_option linter.unusedSimpArgs false
set_option maxRecDepth 100000
set_option maxHeartbeats 16000000

theorem yields_pred {ops : Array Oper} {S : World → Prop} {o : Oper} {a : Act} (hgd : Region.wanted o (yielded ops a.tmps) = true) (X : Operand) (ho : o.op = .binOp .sub 3 X (.const (.int .i64 1)) 3) (j : Nat) (hj : j < 1000000) (hx : a.eval X = .int .i64 ((j : Int) + 1)) : YieldsIf Try.prog ops S o (.int .i64 (j : Int)) a := by
  refine Or.inl ⟨hgd, fun w _ => ?_⟩
  unfold execOp
  rw [ho]
  simp only [hx]
  go_simp
  first | exact wrap_i64_small j (by omega) | exact Lib.wrap_i64_small j (by omega) | (simp [IntKind.wrap, IntKind.bits, IntKind.signed]; omega)
theorem put_two {ka kb : List UInt8} {room : Nat} {S S' U U' : List Slt} {ls : List FloW} {f gone gone2 : FloW} {left left2 : Bool} {err err2 : Int} (g : Good ka S) (g2 : Good kb U) (t : Twin S ls) (t2 : Twin U ls) (h : PutW room S f gone left err S') (h2 : PutW room U f gone2 left2 err2 U') :
    gone2 = gone ∧ left2 = left ∧ err2 = err ∧ ∃ ls', Twin S' ls' ∧ Twin U' ls' := by
  rcases h with ⟨h1, rfl, rfl, rfl, rfl⟩ | ⟨h1, rfl, hp⟩
  · rcases h2 with ⟨_, rfl, rfl, rfl, rfl⟩ | ⟨k, _⟩
    · exact ⟨rfl, rfl, rfl, ls, t, t2⟩
    · rw [h1] at k; cases k
  · rcases h2 with ⟨k, _⟩ | ⟨_, rfl, hq⟩
    · rw [h1] at k; cases k
    · obtain ⟨e1, e2, e3⟩ := putS_eq g t h1 hp
      obtain ⟨f1, f2, f3⟩ := putS_eq g2 t2 h1 hq
      exact ⟨f1.trans e1.symm, f2.trans e2.symm, rfl, _, e3, f3⟩
def RF (l : List FloW) : List FloW := l.filter (fun x => rightF x.v)
theorem RF_take {xs : List FloW} {k : Nat} (hk : k < xs.length) : RF (xs.take (k + 1)) = RF (xs.take k) ++ if rightF xs[k].v = true then [xs[k]] else [] := by
  unfold RF
  rw [takeF_snoc hk, List.filter_append]
  congr 1
  rcases two (rightF xs[k].v) with h | h <;> simp [h]
theorem RF_drop {xs : List FloW} {k : Nat} (hk : k < xs.length) : RF (xs.drop k) = (if rightF xs[k].v = true then [xs[k]] else []) ++ RF (xs.drop (k + 1)) := by
  unfold RF
  rw [List.drop_eq_getElem_cons hk, List.filter_cons]
  split <;> rfl
theorem one_take {xs : List FloW} (h : OneK xs) {k : Nat} (hk : k < xs.length) : ∀ y ∈ xs.take k, y.v.key ≠ xs[k].v.key := by
  intro y hy
  obtain ⟨i, hi, rfl⟩ := List.mem_iff_getElem.1 hy
  rw [List.length_take] at hi
  rw [List.getElem_take]
  exact (List.pairwise_iff_getElem.1 h) i k (by omega) hk (by omega)
theorem one_drop {xs : List FloW} (h : OneK xs) {k : Nat} (hk : k < xs.length) : ∀ y ∈ xs.drop (k + 1), y.v.key ≠ xs[k].v.key := by
  intro y hy
  obtain ⟨i, hi, rfl⟩ := List.mem_iff_getElem.1 hy
  rw [List.length_drop] at hi
  rw [List.getElem_drop]
  exact fun e => (List.pairwise_iff_getElem.1 h) k (k + 1 + i) hk (by omega) (by omega) e.symm
theorem putW_add {kb : List UInt8} {room : Nat} {S S' : List Slt} {f gone : FloW} {left : Bool} {err : Int} (h : PutW room S f gone left err S') (hno : ∀ y ∈ flowsS S, y.v.key ≠ f.v.key) (hlt : (flowsS S).length < room) :
    (flowsS S').Perm ((if rightF f.v = true then [f] else []) ++ flowsS S) := by
  rcases h with ⟨h1, _, _, _, rfl⟩ | ⟨h1, _, hp⟩
  · rw [h1]; exact List.Perm.refl _
  · rw [if_pos h1]
    rcases hp with ⟨_, _, _, h2⟩ | ⟨_, _, h2, _⟩
    · rw [filter_none hno] at h2
      exact h2
    · omega
/-- what v holds: each right one, if the keys are unlike -/
def VI (xs : List FloW) (k : Nat) (S : List Slt) : Prop := OneK xs → (flowsS S).Perm (RF (xs.take k))
def WI (xs : List FloW) (k : Nat) (S : List Slt) : Prop := OneK xs → (flowsS S).Perm (RF (xs.drop k))
theorem RF_len (l : List FloW) : (RF l).length ≤ l.length := List.length_filter_le _ _
theorem VI.skip {xs : List FloW} {k : Nat} {S : List Slt} (h : VI xs k S) (hk : k < xs.length) {y : FloW} (hl : look S xs[k].v.key = some y) : VI xs (k + 1) S := fun ho => by
  obtain ⟨h1, h2⟩ := look_some hl
  have h3 := (List.mem_filter.1 ((h ho).mem_iff.1 h1)).1
  exact absurd h2 (one_take ho hk y h3)
theorem VI.put {kb : List UInt8} {xs : List FloW} {k : Nat} {S S' : List Slt} {gone : FloW} {left : Bool} {err : Int} (h : VI xs k S) (hk : k < xs.length) (h80 : xs.length ≤ 80) (hp : PutW 200 S xs[k] gone left err S') : VI xs (k + 1) S' := fun ho => by
  have hI := h ho
  have h1 := putW_add (kb := kb) hp (fun y hy => one_take ho hk y (List.mem_filter.1 (hI.mem_iff.1 hy)).1) (by have h1 := hI.length_eq; have h2 := RF_len (xs.take k); rw [List.length_take] at h2; omega)
  rw [RF_take hk]
  exact h1.trans ((hI.append_left _).trans List.perm_append_comm)
theorem WI.put {kb : List UInt8} {xs : List FloW} {k : Nat} {S S' : List Slt} {gone : FloW} {left : Bool} {err : Int} (h : WI xs (k + 1) S) (hk : k < xs.length) (h80 : xs.length ≤ 80) (hp : PutW 80 S xs[k] gone left err S') : WI xs k S' := fun ho => by
  have hI := h ho
  have h1 := putW_add (kb := kb) hp (fun y hy => one_drop ho hk y (List.mem_filter.1 (hI.mem_iff.1 hy)).1) (by have h1 := hI.length_eq; have h2 := RF_len (xs.drop (k + 1)); rw [List.length_drop] at h2; omega)
  rw [RF_drop hk]
  exact h1.trans (hI.append_left _)
theorem orders21_walk (ka kb : List UInt8) (hka : ka.length = 16) (hk : kb.length = 16) (nn : Nat) (hn : nn < 256) (ad : Option Addr) (n c : Nat) (xs : List FloW) (w : World) (hv : Fls w ad n c xs) :
    Calls Try.prog 6 #[.agg (BV ka).toArray, .agg (BV kb).toArray, .int .u8 (nn : Int), .slice ad n c] w fun e w' => e = .returned (.bool true) ∧ Below w.heap.size w w' := by
  have HB := Lib.hid (Below.refl w.heap.size w)
  have HIA : Hid ((Try.prog.info? 22).map (·.size) = some (BV ka).length) := Lib.hid (by rw [BV_length, hka]; kernel_rfl)
  have HIK : Hid ((Try.prog.info? 22).map (·.size) = some (BV kb).length) := Lib.hid (by rw [BV_length, hk]; kernel_rfl)
  have HKA := Lib.hid hka
  have HK := Lib.hid hk
  have HNN := Lib.hid hn
  have HV := Lib.hid hv
  have hle := hv.le
  have HLN := Lib.hid hv.len
  have hrn := roomN_le nn
  clear hk hv hn hka
  go_enter Try.func6, Try.ntmps6
  go_wp2_with (first
    | ((with_reducible refine sl 4 ?_); go_must (refine wpL_boxG rfl 22 (.tmp 0) rfl (BV ka).toArray rfl ?_); intro wb4 g4 he__ le_4 lt_4 hg__ hb__; have hE__ := cU HB bup hb__; replace HB := ck HB hE__; clear hE__ hb__; have HG4 := Lib.hid hg__; clear hg__ he__; simp only [PT])
    | ((with_reducible refine sl 5 ?_); go_must (refine wpL_boxG rfl 22 (.tmp 1) rfl (BV kb).toArray rfl ?_); intro wb5 g5 he__ le_5 lt_5 hg__ hb__; have hE__ := cU HB bup hb__; replace HB := ck HB hE__; (try replace HG4 := ck HG4 hE__); clear hE__ hb__; have HG5 := Lib.hid hg__; clear hg__ he__; simp only [PT])
    | (go_at_call 10; go_must (refine (awake_any _).mono ?_); rintro e wa ⟨rfl, hb__⟩; have hE__ := cU HB bup hb__; replace HB := ck HB hE__; (try replace HG4 := ck HG4 hE__); (try replace HG5 := ck HG5 hE__); clear hE__ hb__))
  go_at_call 17
  refine (few21_any ad n c xs _ (HV.out.below HB.out)).mono ?_
  rintro e w3 ⟨⟨bf, rfl, hf⟩, hb__⟩
  have hE__ := cU HB bup hb__; replace HB := ck HB hE__; (try replace HG4 := ck HG4 hE__); (try replace HG5 := ck HG5 hE__); clear hE__ hb__
  cases bf with
  | false =>
    clear hf
    go_wp2_with (first
      | (go_at_call 10; go_must (refine (awake_any _).mono ?_); rintro e wa ⟨rfl, hb__⟩; have hE__ := cU HB bup hb__; replace HB := ck HB hE__; (try replace HG4 := ck HG4 hE__); clear hE__ hb__))
    go_ret
    exact ⟨rfl, HB.out⟩
  | true =>
    have HF := Lib.hid (hf rfl)
    clear hf
    have hn80 : n ≤ 80 := by have := HF.out.1; have := HLN.out; omega
    go_wp2_with fail
    refine wp_region_held_drew (S := fun u__ => u__.heap[g4]? = some (.cells (BV ka).toArray 22 (0, 0))) (by kernel_rfl) ?_ (fun hHeld => ?_)
    focus (exact hatB HG4 bup)
    refine' tk 0 (oi := ⟨some 38, _, _, _, _, _⟩) (v := _) rfl (by kernel_rfl) (yieldsIf_load_mid (by rfl) _ _ rfl _ _ rfl (BV ka) _ (fun _ h => range_block h) (Try.underlying22) rfl (HIA.out)) hHeld ?_
    simp only [PT]
    refine tk 1 (oi := ⟨some 39, _, _, _, _, _⟩) (v := ?_) rfl (by kernel_rfl) (.inl ⟨by rfl, ?_⟩) hHeld ?_; rotate_left; focus (intro w hSw; (try dsimp only at hSw); go_simp; try with_reducible rfl)
    simp only [PT]
    refine wpAnyH_ready (rs := [2]) (by kernel_rfl) (by simp) ?_
    refine (AllReadyH.cons (o := ⟨some 40, _, _, _, _, _⟩) rfl (fun K hK => ?_) AllReadyH.nil)
    focus (go_simp; go_must (refine (room_any nn HNN.out _).mono ?_); rintro e w5 ⟨rfl, hb__⟩; have hE__ := cU HB bup hb__; replace HB := ck HB hE__; (try replace HG4 := ck HG4 hE__); (try replace HG5 := ck HG5 hE__); clear hE__ hb__; go_wp2_with fail)
    refine hK.out _ _ ?_ (fun hHeld => ?_)
    focus (exact hatB HG4 bup)
    clear hK K
    try simp only [PT]
    refine wpAnyH_ready (rs := [3]) (by kernel_rfl) (by simp) ?_
    refine (AllReadyH.cons (o := ⟨some 41, _, _, _, _, _⟩) rfl (fun K hK => ?_) AllReadyH.nil)
    focus (go_simp; go_must (refine (new_rep ka HKA.out (roomN nn) (by omega) (by omega) _).mono ?_); rintro e w1 ⟨p1, q1, S1, rfl, hr, hS0, lq, lqp, hb__⟩; have HQ1 : Hid (w.heap.size ≤ q1) := Lib.hid (Nat.le_trans HB.out.size (Nat.le_trans (bsz bup) lq)); have HP1 : Hid (w.heap.size ≤ p1) := Lib.hid (by have := HQ1.out; omega); have l1 : q1 < p1 := lqp; have hE__ := cU HB bup hb__; replace HB := ck HB hE__; (try replace HG4 := ck HG4 hE__); (try replace HG5 := ck HG5 hE__); clear hE__ hb__; have HR1 := Lib.hid hr; have HS1 := Lib.hid hS0; clear hr hS0 lq lqp; go_wp2_with fail)
    refine hK.out _ _ ?_ (fun hHeld => ?_)
    focus (exact hatB HG4 bup)
    clear hK K
    try simp only [PT]
    refine tk 4 (oi := ⟨some 37, _, _, _, _, _⟩) (v := ?_) rfl (by kernel_rfl) (.inl ⟨by rfl, ?_⟩) hHeld ?_; rotate_left; focus (intro w hSw; (try dsimp only at hSw); go_simp; try with_reducible rfl)
    simp only [PT]
    refine tk 5 (oi := ⟨some 42, _, _, _, _, _⟩) (v := ?_) rfl (by kernel_rfl) (.inl ⟨by rfl, ?_⟩) hHeld ?_; rotate_left; focus (intro w hSw; (try dsimp only at hSw); go_simp; try with_reducible rfl)
    simp only [PT]
    refine tk 6 (oi := ⟨some 43, _, _, _, _, _⟩) (v := ?_) rfl (by kernel_rfl) (.inl ⟨by rfl, ?_⟩) hHeld ?_; rotate_left; focus (intro w hSw; (try dsimp only at hSw); go_simp; try with_reducible rfl)
    simp only [PT]
    refine tk 7 (oi := ⟨some 9, _, _, _, _, _⟩) (v := ?_) rfl (by kernel_rfl) (.inl ⟨by rfl, ?_⟩) hHeld ?_; rotate_left; focus (intro w hSw; (try dsimp only at hSw); go_simp; try with_reducible rfl)
    simp only [PT]
    refine tk 8 (oi := ⟨some 10, _, _, _, _, _⟩) (v := ?_) rfl (by kernel_rfl) (.inl ⟨by rfl, ?_⟩) hHeld ?_; rotate_left; focus (intro w hSw; (try dsimp only at hSw); go_simp; try with_reducible rfl)
    simp only [PT]
    refine wpAnyH_done (by kernel_rfl) ?_ _
    go_wp2_with fail
    refine wp_region_held_drew (S := fun u__ => u__.heap[g5]? = some (.cells (BV kb).toArray 22 (0, 0))) (by kernel_rfl) ?_ (fun hHeld => ?_)
    focus (exact hatB HG5 bup)
    refine' tk 0 (oi := ⟨some 45, _, _, _, _, _⟩) (v := _) rfl (by kernel_rfl) (yieldsIf_load_mid (by rfl) _ _ rfl _ _ rfl (BV kb) _ (fun _ h => range_block h) (Try.underlying22) rfl (HIK.out)) hHeld ?_
    simp only [PT]
    refine tk 1 (oi := ⟨some 46, _, _, _, _, _⟩) (v := ?_) rfl (by kernel_rfl) (.inl ⟨by rfl, ?_⟩) hHeld ?_; rotate_left; focus (intro w hSw; (try dsimp only at hSw); go_simp; try with_reducible rfl)
    simp only [PT]
    refine wpAnyH_ready (rs := [2]) (by kernel_rfl) (by simp) ?_
    refine (AllReadyH.cons (o := ⟨some 47, _, _, _, _, _⟩) rfl (fun K hK => ?_) AllReadyH.nil)
    focus (go_simp; go_must (refine (room_any nn HNN.out _).mono ?_); rintro e w5 ⟨rfl, hb__⟩; have hE__ := cU HB bup hb__; replace HB := ck HB hE__; (try replace HG4 := ck HG4 hE__); (try replace HG5 := ck HG5 hE__); (try replace HR1 := ck HR1 hE__); clear hE__ hb__; go_wp2_with fail)
    refine hK.out _ _ ?_ (fun hHeld => ?_)
    focus (exact hatB HG5 bup)
    clear hK K
    try simp only [PT]
    refine wpAnyH_ready (rs := [3]) (by kernel_rfl) (by simp) ?_
    refine (AllReadyH.cons (o := ⟨some 48, _, _, _, _, _⟩) rfl (fun K hK => ?_) AllReadyH.nil)
    focus (go_simp; go_must (refine (new_rep kb HK.out (roomN nn) (by omega) (by omega) _).mono ?_); rintro e w1 ⟨p2, q2, S2, rfl, hr, hS0, lq, lqp, hb__⟩; have HQ2 : Hid (w.heap.size ≤ q2) := Lib.hid (Nat.le_trans HB.out.size (Nat.le_trans (bsz bup) lq)); have HP2 : Hid (w.heap.size ≤ p2) := Lib.hid (by have := HQ2.out; omega); go_must (have l12 : p1 < q2 := Nat.lt_of_lt_of_le (lt_of_block (HR1.out.keep bup).tb.hp) lq); have l2 : q2 < p2 := lqp; have hE__ := cU HB bup hb__; replace HB := ck HB hE__; (try replace HG4 := ck HG4 hE__); (try replace HG5 := ck HG5 hE__); (try replace HR1 := ck HR1 hE__); clear hE__ hb__; have HR2 := Lib.hid hr; have HS2 := Lib.hid hS0; clear hr hS0 lq lqp; go_wp2_with fail)
    refine hK.out _ _ ?_ (fun hHeld => ?_)
    focus (exact hatB HG5 bup)
    clear hK K
    try simp only [PT]
    refine tk 4 (oi := ⟨some 44, _, _, _, _, _⟩) (v := ?_) rfl (by kernel_rfl) (.inl ⟨by rfl, ?_⟩) hHeld ?_; rotate_left; focus (intro w hSw; (try dsimp only at hSw); go_simp; try with_reducible rfl)
    simp only [PT]
    refine tk 5 (oi := ⟨some 49, _, _, _, _, _⟩) (v := ?_) rfl (by kernel_rfl) (.inl ⟨by rfl, ?_⟩) hHeld ?_; rotate_left; focus (intro w hSw; (try dsimp only at hSw); go_simp; try with_reducible rfl)
    simp only [PT]
    refine tk 6 (oi := ⟨some 50, _, _, _, _, _⟩) (v := ?_) rfl (by kernel_rfl) (.inl ⟨by rfl, ?_⟩) hHeld ?_; rotate_left; focus (intro w hSw; (try dsimp only at hSw); go_simp; try with_reducible rfl)
    simp only [PT]
    refine tk 7 (oi := ⟨some 11, _, _, _, _, _⟩) (v := ?_) rfl (by kernel_rfl) (.inl ⟨by rfl, ?_⟩) hHeld ?_; rotate_left; focus (intro w hSw; (try dsimp only at hSw); go_simp; try with_reducible rfl)
    simp only [PT]
    refine tk 8 (oi := ⟨some 12, _, _, _, _, _⟩) (v := ?_) rfl (by kernel_rfl) (.inl ⟨by rfl, ?_⟩) hHeld ?_; rotate_left; focus (intro w hSw; (try dsimp only at hSw); go_simp; try with_reducible rfl)
    simp only [PT]
    refine wpAnyH_done (by kernel_rfl) ?_ _
    go_wp2_with (first
      | ((with_reducible refine sl 52 ?_); go_must (refine wpL_load rfl 22 (.tmp 4) rfl g4 0 rfl (BV ka) _ (range_block (hatB HG4 bup)) Try.underlying22 rfl HIA.out ?_); simp only [PT])
      | (go_at_call 11; (with_reducible show Calls _ _ #[_, .int .i64 200] _ _); go_must (refine (new_rep ka HKA.out 200 (by omega) (by omega) _).mono ?_); rintro e w1 ⟨p3, q3, S3, rfl, hr, hS0, lq, lqp, hb__⟩; have HQ3 : Hid (w.heap.size ≤ q3) := Lib.hid (Nat.le_trans HB.out.size (Nat.le_trans (bsz bup) lq)); have HP3 : Hid (w.heap.size ≤ p3) := Lib.hid (by have := HQ3.out; omega); go_must (have l23 : p2 < q3 := Nat.lt_of_lt_of_le (lt_of_block (HR2.out.keep bup).tb.hp) lq); have l3 : q3 < p3 := lqp; have hE__ := cU HB bup hb__; replace HB := ck HB hE__; (try replace HG4 := ck HG4 hE__); (try replace HR1 := ck HR1 hE__); (try replace HR2 := ck HR2 hE__); clear hE__ hb__; have HR3 := Lib.hid hr; have HS3 := Lib.hid hS0; clear hr hS0 lq lqp)
      | ((with_reducible refine sl 57 ?_); go_must (refine wpL_load rfl 22 (.tmp 4) rfl g4 0 rfl (BV ka) _ (range_block (hatB HG4 bup)) Try.underlying22 rfl HIA.out ?_); simp only [PT])
      | (go_at_call 11; (with_reducible show Calls _ _ #[_, .int .i64 80] _ _); go_must (refine (new_rep ka HKA.out 80 (by omega) (by omega) _).mono ?_); rintro e w1 ⟨p4, q4, S4, rfl, hr, hS0, lq, lqp, hb__⟩; have HQ4 : Hid (w.heap.size ≤ q4) := Lib.hid (Nat.le_trans HB.out.size (Nat.le_trans (bsz bup) lq)); have HP4 : Hid (w.heap.size ≤ p4) := Lib.hid (by have := HQ4.out; omega); go_must (have l34 : p3 < q4 := Nat.lt_of_lt_of_le (lt_of_block (HR3.out.keep bup).tb.hp) lq); have l4 : q4 < p4 := lqp; have hE__ := cU HB bup hb__; replace HB := ck HB hE__; (try replace HR1 := ck HR1 hE__); (try replace HR2 := ck HR2 hE__); (try replace HR3 := ck HR3 hE__); clear hE__ hb__; have HR4 := Lib.hid hr; have HS4 := Lib.hid hS0; clear hr hS0 lq lqp))
    clear HG4 HG5
    have HT1 := Lib.hid (twin_new HS1.out)
    have HT2 := Lib.hid (twin_new HS2.out)
    have HVI : Hid (VI xs 0 S3) := Lib.hid (fun _ => by rw [HS3.out]; exact List.Perm.refl _)
    have HWI : Hid (WI xs n S4) := Lib.hid (fun _ => by rw [HS4.out, HLN.out, List.drop_length]; exact List.Perm.refl _)
    clear HS1 HS2 HS3 HS4
    go_loopw [17] (fun i wr => ∃ (k : Nat) (T1 T2 T3 : List Slt) (ls : List FloW), k ≤ n ∧ i = .int .i64 (k : Int) ∧ Hid (Below w.heap.size w wr) ∧ Hid (Rep wr p1 q1 ka (roomN nn) T1) ∧ Hid (Rep wr p2 q2 kb (roomN nn) T2) ∧ Hid (Rep wr p3 q3 ka 200 T3) ∧ Hid (Rep wr p4 q4 ka 80 S4) ∧ Hid (Twin T1 ls) ∧ Hid (Twin T2 ls) ∧ Hid (VI xs k T3)) (fun i _ => n - (intOf i).toNat)
    case atStart => exact ⟨0, S1, S2, S3, [], by omega, rfl, HB, HR1, HR2, HR3, HR4, HT1, HT2, HVI⟩
    case round =>
      clear HB HR1 HR2 HR3 HR4 HT1 HT2 HVI
      obtain ⟨k, T1, T2, T3, ls, hk, rfl, HB, HR1, HR2, HR3, HR4, HT1, HT2, HVI⟩ := hrel
      by_cases hend : k = n
      · subst k
        as_aux_lemma =>
        obtain ⟨wv, hwv⟩ : ∃ wv, wv = wr := ⟨_, rfl⟩
        subst hwv
        go_wp2_with fail
        go_loopw [26] (fun i wr => ∃ (m : Nat) (i0 : Int) (T4 : List Slt), m ≤ n ∧ i0 + 1 = (m : Int) ∧ i = .int .i64 i0 ∧ Hid (Below w.heap.size w wr) ∧ Hid (Rep wr p1 q1 ka (roomN nn) T1) ∧ Hid (Rep wr p2 q2 kb (roomN nn) T2) ∧ Hid (Rep wr p3 q3 ka 200 T3) ∧ Hid (Rep wr p4 q4 ka 80 T4) ∧ Hid (WI xs m T4)) (fun i _ => (intOf i + 1).toNat)
        case atStart => exact ⟨n, (n : Int) - 1, S4, by omega, by omega, rfl, HB, HR1, HR2, HR3, HR4, HWI⟩
        case round =>
          clear HB HR1 HR2 HR3 HR4 HWI
          obtain ⟨m, i0, T4, hm, hi0, rfl, HB, HR1, HR2, HR3, HR4, HWI⟩ := hrel
          rcases m with _ | j
          · obtain rfl : i0 = -1 := by omega
            obtain ⟨wv, hwv⟩ : ∃ wv, wv = wr := ⟨_, rfl⟩
            subst hwv
            go_wp2_with (first
              | (go_at_call 19; (with_reducible show Calls _ _ #[.pointer (some ⟨p3, 0, none⟩)] _ _); go_must (refine (list_law p3 q3 _ _ T3 _ (HR3.out.keep bup)).mono ?_); rintro e w27 ⟨adz, cz, lz, rfl, hpm, hso, ho, hb__⟩; have HZS := Lib.hid (And.intro hpm hso); have hE__ := cU HB bup hb__; replace HB := ck HB hE__; (try replace HR1 := ck HR1 hE__); (try replace HR2 := ck HR2 hE__); (try replace HR4 := ck HR4 hE__); clear hE__ hb__; have HZ3 := Lib.hid (Fls.of_own ho); clear ho hpm hso))
            have HNZ := Lib.hid (HR3.out.good.nice.perm HZS.out.1.symm)
            have hN200 : lz.length ≤ 200 := by have h1 := HZS.out.1.length_eq; have h2 := HR3.out.le; omega
            go_wp2_with fail
            go_loopw [28] (fun i wr => ∃ m : Nat, 1 ≤ m ∧ m ≤ lz.length + 1 ∧ i = .int .i64 (m : Int) ∧ Hid (Below w.heap.size w wr) ∧ Hid (Rep wr p1 q1 ka (roomN nn) T1) ∧ Hid (Rep wr p2 q2 kb (roomN nn) T2) ∧ Hid (Rep wr p4 q4 ka 80 T4) ∧ Hid (Fls wr adz lz.length cz lz)) (fun i _ => lz.length + 1 - (intOf i).toNat)
            case atStart => exact ⟨1, by omega, by omega, rfl, HB, HR1, HR2, HR4, HZ3⟩
            case round =>
              clear HB HR1 HR2 HR4 HZ3
              obtain ⟨m, hm1, hm, rfl, HB, HR1, HR2, HR4, HZ3⟩ := hrel
              by_cases hlt3 : m < lz.length
              · obtain ⟨j, rfl⟩ : ∃ j, m = j + 1 := ⟨m - 1, by omega⟩
                obtain ⟨b2, off2, rfl, hbl2, hat2⟩ := HZ3.out.at (by omega)
                have hjz : j + 1 < lz.length := hlt3
                obtain ⟨v, hv⟩ : ∃ v, v = lz[j + 1] := ⟨_, rfl⟩
                obtain ⟨u, hu⟩ : ∃ u, u = lz[j]'(by omega) := ⟨_, rfl⟩
                have HV1 := Lib.hid (show wr.rangeAt b2 (off2 + (j + 1) * 41) v.v.cells by rw [hv]; exact hat2 (j + 1) hjz)
                have HU1 := Lib.hid (show wr.rangeAt b2 (off2 + j * 41) u.v.cells by rw [hu]; exact hat2 j (by omega))
                have HFU := Lib.hid (right_fit (HNZ.out.right u (by rw [hu]; exact List.getElem_mem _)))
                have HFV := Lib.hid (right_fit (HNZ.out.right v (by rw [hv]; exact List.getElem_mem _)))
                have HOL : Hid (oldF u.v v.v = true) := Lib.hid (by rw [hu, hv]; exact sorted_old HNZ.out HZS.out.2 (by omega) hjz)
                have hjl : j < lz.length := by omega
                have hj0 : (0 : Int) ≤ (j : Int) + 1 := by omega
                clear hat2 hu hv
                go_wp2_with fail
                refine wp_region_held_drew (S := fun u__ => u__.rangeAt b2 (off2 + j * 41) u.v.cells ∧ u__.rangeAt b2 (off2 + (j + 1) * 41) v.v.cells) (by kernel_rfl) ?_ (fun hHeld => ?_)
                focus (exact ⟨range_keep HU1.out bup, range_keep HV1.out bup⟩)
                refine tk 0 (oi := ⟨some 153, _, _, _, _, _⟩) (v := ?_) rfl (by kernel_rfl) (.inl ⟨by rfl, ?_⟩) hHeld ?_; rotate_left; focus (intro w hSw; (try dsimp only at hSw); go_simp; try with_reducible rfl)
                simp only [PT]
                refine tk 1 (oi := ⟨some 154, _, _, _, _, _⟩) (v := ?_) rfl (by kernel_rfl) (.inl ⟨by rfl, ?_⟩) hHeld ?_; rotate_left; focus (intro w hSw; (try dsimp only at hSw); go_simp; try with_reducible rfl)
                simp only [PT]
                refine' tk 2 (oi := ⟨some 155, _, _, _, _, _⟩) (v := _) rfl (by kernel_rfl) (yields_pred (by rfl) (.tmp 154) rfl j (by omega) (by first | rfl | exact congrArg _ (Int.natCast_succ j))) hHeld ?_
                simp only [PT]
                refine tk 3 (oi := ⟨some 156, _, _, _, _, _⟩) (v := ?_) rfl (by kernel_rfl) (.inl ⟨by rfl, ?_⟩) hHeld ?_; rotate_left; focus (intro w hSw; (try dsimp only at hSw); go_simp; try with_reducible rfl)
                simp only [PT]
                refine' tk 4 (oi := ⟨some 157, _, _, _, _, _⟩) (v := _) rfl (by kernel_rfl) (yieldsIf_load_mid (by rfl) _ _ rfl _ _ rfl (u.v.cells) _ (fun _ h => h.1) (Try.underlying28) rfl (one_size u)) hHeld ?_
                simp only [PT]
                refine tk 5 (oi := ⟨some 158, _, _, _, _, _⟩) (v := ?_) rfl (by kernel_rfl) (.inl ⟨by rfl, ?_⟩) hHeld ?_; rotate_left; focus (intro w hSw; (try dsimp only at hSw); go_simp; try with_reducible rfl)
                simp only [PT]
                refine tk 6 (oi := ⟨some 159, _, _, _, _, _⟩) (v := ?_) rfl (by kernel_rfl) (.inl ⟨by rfl, ?_⟩) hHeld ?_; rotate_left; focus (intro w hSw; (try dsimp only at hSw); go_simp; try with_reducible rfl)
                simp only [PT]
                refine tk 7 (oi := ⟨some 160, _, _, _, _, _⟩) (v := ?_) rfl (by kernel_rfl) (.inl ⟨by rfl, ?_⟩) hHeld ?_; rotate_left; focus (intro w hSw; (try dsimp only at hSw); go_simp; try with_reducible rfl)
                simp only [PT]
                refine' tk 8 (oi := ⟨some 161, _, _, _, _, _⟩) (v := _) rfl (by kernel_rfl) (yieldsIf_load_mid (by rfl) _ _ rfl _ _ rfl (v.v.cells) _ (fun _ h => h.2) (Try.underlying28) rfl (one_size v)) hHeld ?_
                simp only [PT]
                refine wpAnyH_ready (rs := [9]) (by kernel_rfl) (by simp) ?_
                refine (AllReadyH.cons (o := ⟨some 162, _, _, _, _, _⟩) rfl (fun K hK => ?_) AllReadyH.nil)
                focus (go_simp; go_must (refine (refOlder_any u.v v.v u.ok v.ok HFU.out HFV.out _).mono ?_); rw [HOL.out]; rintro e w5 ⟨rfl, hb__⟩; have hE__ := cU HB bup hb__; replace HB := ck HB hE__; (try replace HR1 := ck HR1 hE__); (try replace HR2 := ck HR2 hE__); (try replace HR4 := ck HR4 hE__); (try replace HZ3 := ck HZ3 hE__); (try replace HV1 := ck HV1 hE__); (try replace HU1 := ck HU1 hE__); clear hE__ hb__; go_wp2_with fail)
                refine hK.out _ _ ?_ (fun hHeld => ?_)
                focus (exact ⟨range_keep HU1.out bup, range_keep HV1.out bup⟩)
                clear hK K
                try simp only [PT]
                refine tk 10 (oi := ⟨some 163, _, _, _, _, _⟩) (v := ?_) rfl (by kernel_rfl) (.inl ⟨by rfl, ?_⟩) hHeld ?_; rotate_left; focus (intro w hSw; (try dsimp only at hSw); go_simp; try with_reducible rfl)
                simp only [PT]
                refine wpAnyH_done (by kernel_rfl) ?_ _
                go_wp2_with fail
                go_roundw
                case rel => exact ⟨j + 1 + 1, by omega, by omega, by go_num, Lib.hid (HB.out.trans (Below.mono bup HB.out.size)), Lib.hid (HR1.out.keep bup), Lib.hid (HR2.out.keep bup), Lib.hid (HR4.out.keep bup), Lib.hid (HZ3.out.below bup)⟩
                case measure => first | (simp [intOf]; done) | (simp [intOf]; omega)
              · have hVI : OneK xs → (flowsS T3).Perm (RF xs) := fun h => by have := HVI.out h; rwa [HLN.out, List.take_length] at this
                have hWI : OneK xs → (flowsS T4).Perm (RF xs) := fun h => by have := HWI.out h; rwa [List.drop_zero] at this
                have TK1 : True := trivial
                go_wp2_with (first
                  | (go_at_call 19; (with_reducible show Calls _ _ #[.pointer (some ⟨p1, 0, none⟩)] _ _); go_must (refine (list_law p1 q1 _ _ T1 _ (HR1.out.keep bup)).mono ?_); rintro e w40 ⟨ad1, c1, l1, rfl, hpm, hso, ho, hb__⟩; go_must (obtain rfl : ls = l1 := (HT1.out.eq HR1.out.good hso hpm).symm); have hE__ := cU HB bup hb__; replace HB := ck HB hE__; (try replace HR2 := ck HR2 hE__); (try replace HR4 := ck HR4 hE__); (try replace HZ3 := ck HZ3 hE__); clear hE__ hb__; have HZ1 := Lib.hid (Fls.of_own ho); clear ho hpm hso)
                  | (go_at_call 19; (with_reducible show Calls _ _ #[.pointer (some ⟨p2, 0, none⟩)] _ _); go_must (refine (list_law p2 q2 _ _ T2 _ (HR2.out.keep bup)).mono ?_); rintro e w41 ⟨ad2, c2, l2, rfl, hpm, hso, ho, hb__⟩; go_must (obtain rfl : ls = l2 := (HT2.out.eq HR2.out.good hso hpm).symm); have hE__ := cU HB bup hb__; replace HB := ck HB hE__; (try replace HR4 := ck HR4 hE__); (try replace HZ3 := ck HZ3 hE__); (try replace HZ1 := ck HZ1 hE__); clear hE__ hb__; have HZ2 := Lib.hid (Fls.of_own ho); clear ho hpm hso)
                  | (have hgd__ := TK1; clear hgd__ TK1; go_at_call 24; go_must (refine (same_at ad1 ad2 _ c1 _ c2 ls _ (HZ1.out.below bup) (HZ2.out.below bup)).mono ?_); rintro e w42 ⟨rfl, hb__⟩; have hE__ := cU HB bup hb__; replace HB := ck HB hE__; (try replace HR4 := ck HR4 hE__); (try replace HZ3 := ck HZ3 hE__); clear hE__ hb__)
                  | (go_at_call 25; go_must (refine (alone_any ad n c xs _ (HV.out.below (HB.out.trans (Below.mono bup HB.out.size)))).mono ?_); rintro e w43 ⟨⟨b9, rfl, hb9⟩, hb__⟩; have hE__ := cU HB bup hb__; replace HB := ck HB hE__; (try replace HR4 := ck HR4 hE__); (try replace HZ3 := ck HZ3 hE__); clear hE__ hb__; rcases b9 with _ | _)
                  | (go_at_call 19; (with_reducible show Calls _ _ #[.pointer (some ⟨p4, 0, none⟩)] _ _); go_must (refine (list_law p4 q4 _ _ T4 _ (HR4.out.keep bup)).mono ?_); rintro e w44 ⟨ad4, c4, l4, rfl, hpm, hso, ho, hb__⟩; go_must (obtain rfl : lz = l4 := sorted_one HNZ.out HZS.out.2 hso ((HZS.out.1.trans ((hVI (hb9 (by first | rfl | trivial))).trans (hWI (hb9 (by first | rfl | trivial))).symm)).trans hpm.symm)); have hE__ := cU HB bup hb__; replace HB := ck HB hE__; (try replace HZ3 := ck HZ3 hE__); clear hE__ hb__; have HZ4 := Lib.hid (Fls.of_own ho); clear ho hpm hso)
                  | (go_at_call 24; go_must (refine (same_at adz ad4 _ cz _ c4 lz _ (HZ3.out.below bup) (HZ4.out.below bup)).mono ?_); rintro e w45 ⟨rfl, hb__⟩; have hE__ := cU HB bup hb__; replace HB := ck HB hE__; clear hE__ hb__))
                all_goals
                  go_ret
                  exact ⟨rfl, (HB.out.trans (Below.mono bup HB.out.size))⟩
          · obtain rfl : i0 = (j : Int) := by omega
            have hjn : j < n := by omega
            obtain ⟨b, off, rfl, hbl, hat⟩ := HV.out.at (by have := HLN.out; omega)
            clear hat
            have hkx : j < xs.length := by have := HLN.out; omega
            have hx80 : xs.length ≤ 80 := by have := HLN.out; omega
            obtain ⟨x, hx⟩ : ∃ x, x = xs[j]'hkx := ⟨_, rfl⟩
            have HXG : Hid (∀ w', Below w.heap.size w w' → w'.rangeAt b (off + j * 41) x.v.cells) := Lib.hid (fun w' hb => by rw [hx]; exact (HV.out.below hb).get j _)
            have HSZ : Hid (x.v.name.size ≤ 140737488351232) := Lib.hid (by rw [hx]; have := HF.out.2 _ (List.getElem_mem hkx); omega)
            have HXE := Lib.hid hx
            clear hx hi0
            go_wp2_with (first
              | ((with_reducible refine sl 143 ?_); go_must (refine wpL_load rfl 28 (.tmp 142) rfl b (off + j * 41) rfl x.v.cells _ (HXG.out _ (HB.out.trans (Below.mono bup HB.out.size))) Try.underlying28 rfl (one_size x) ?_); simp only [PT])
              | (go_at_call 21; (with_reducible show Calls _ _ #[.pointer (some ⟨p4, 0, none⟩), .agg x.v.cells.toArray] _ _); go_must (refine (put_law p4 q4 ka 80 T4 x HSZ.out _ (HR4.out.keep bup)).mono ?_); rintro e w6 ⟨gone4, left4, err4, T4', rfl, hr, hb__, hps⟩; have HBn := Lib.hid (But.below (p := p4) (q := q4) hb__ (HB.out.trans (Below.mono bup HB.out.size)) HP4.out HQ4.out (Nat.le_refl _)); go_must (have HR1n := Lib.hid (Rep.but (HR1.out.keep bup) hb__ (by omega) (by omega) (by omega) (by omega))); go_must (have HR2n := Lib.hid (Rep.but (HR2.out.keep bup) hb__ (by omega) (by omega) (by omega) (by omega))); go_must (have HR3n := Lib.hid (Rep.but (HR3.out.keep bup) hb__ (by omega) (by omega) (by omega) (by omega))); clear HB hb__; have HB := HBn; clear HBn; clear HR1; have HR1 := HR1n; clear HR1n; clear HR2; have HR2 := HR2n; clear HR2n; clear HR3; have HR3 := HR3n; clear HR3n; have HP4W := HR4; clear HR4; have HR4 := Lib.hid hr; have HPS4 := Lib.hid hps; clear hr hps; have HP4 := HPS4; clear HPS4))
            go_roundw
            case rel => exact ⟨j, (j : Int) - 1, T4', by omega, by omega, by go_num, HB, HR1, HR2, HR3, HR4, Lib.hid (WI.put (kb := ka) HWI.out hkx hx80 (by rw [← HXE.out]; exact HP4.out))⟩
            case measure => first | (simp [intOf]; done) | (simp [intOf]; omega)
      have hlt : k < n := by omega
      obtain ⟨b, off, rfl, hbl, hat⟩ := HV.out.at (by have := HLN.out; omega)
      clear hat
      have hkx : k < xs.length := by have := HLN.out; omega
      have hx80 : xs.length ≤ 80 := by have := HLN.out; omega
      obtain ⟨x, hx⟩ : ∃ x, x = xs[k]'hkx := ⟨_, rfl⟩
      have HXG : Hid (∀ w', Below w.heap.size w w' → w'.rangeAt b (off + k * 41) x.v.cells) := Lib.hid (fun w' hb => by rw [hx]; exact (HV.out.below hb).get k _)
      have HSZ : Hid (x.v.name.size ≤ 140737488351232) := Lib.hid (by rw [hx]; have := HF.out.2 _ (List.getElem_mem hkx); omega)
      have HXE := Lib.hid hx
      clear hx
      go_upto_if 125 with (first
        | ((with_reducible refine sl 86 ?_); go_must (refine wpL_load rfl 28 (.tmp 85) rfl b (off + k * 41) rfl x.v.cells _ (HXG.out _ (HB.out.trans (Below.mono bup HB.out.size))) Try.underlying28 rfl (one_size x) ?_); simp only [PT])
        | (go_at_call 21; (with_reducible show Calls _ _ #[.pointer (some ⟨p1, 0, none⟩), .agg x.v.cells.toArray] _ _); go_must (refine (put_law p1 q1 ka (roomN nn) T1 x HSZ.out _ (HR1.out.keep bup)).mono ?_); rintro e w6 ⟨gone1, left1, err1, T1', rfl, hr, hb__, hps⟩; have HBn := Lib.hid (But.below (p := p1) (q := q1) hb__ (HB.out.trans (Below.mono bup HB.out.size)) HP1.out HQ1.out (Nat.le_refl _)); go_must (have HR2n := Lib.hid (Rep.but (HR2.out.keep bup) hb__ (by omega) (by omega) (by omega) (by omega))); go_must (have HR3n := Lib.hid (Rep.but (HR3.out.keep bup) hb__ (by omega) (by omega) (by omega) (by omega))); go_must (have HR4n := Lib.hid (Rep.but (HR4.out.keep bup) hb__ (by omega) (by omega) (by omega) (by omega))); clear HB hb__; have HB := HBn; clear HBn; clear HR2; have HR2 := HR2n; clear HR2n; clear HR3; have HR3 := HR3n; clear HR3n; clear HR4; have HR4 := HR4n; clear HR4n; have HP1W := HR1; clear HR1; have HR1 := Lib.hid hr; have HPS1 := Lib.hid hps; clear hr hps; )
        | ((with_reducible refine sl 18 ?_); go_must (refine wpL_newG rfl rfl 28 rfl (.tmp 18) (.tmp 88) rfl (gone1.v.cells).toArray zeroF.cells.toArray (new_info (by first | exact Flo.length zeroF_ok | exact FloW.length _ | exact LEN_18)) (new_size (by first | exact Flo.length zeroF_ok | exact FloW.length _ | exact LEN_18)) (flo_one _) (fun _ => rfl) (fun _ => rfl) ?_); intro wn18 g18 le_18 hg__ hb__; go_must (have l418 : p4 < g18 := Nat.lt_of_lt_of_le (lt_of_block HR4.out.tb.hp) le_18); have hE__ := cU HB bup hb__; replace HB := ck HB hE__; (try replace HR1 := ck HR1 hE__); (try replace HR2 := ck HR2 hE__); (try replace HR3 := ck HR3 hE__); (try replace HR4 := ck HR4 hE__); clear hE__ hb__; have HG18 := Lib.hid hg__; clear hg__; simp only [PT])
        | ((with_reducible refine sl 96 ?_); go_must (refine wpL_load rfl 28 (.tmp 95) rfl b (off + k * 41) rfl x.v.cells _ (HXG.out _ (HB.out.trans (Below.mono bup HB.out.size))) Try.underlying28 rfl (one_size x) ?_); simp only [PT])
        | (go_at_call 21; (with_reducible show Calls _ _ #[.pointer (some ⟨p2, 0, none⟩), .agg x.v.cells.toArray] _ _); go_must (refine (put_law p2 q2 kb (roomN nn) T2 x HSZ.out _ (HR2.out.keep bup)).mono ?_); rintro e w6 ⟨gone2, left2, err2, T2', rfl, hr, hb__, hps⟩; have HBn := Lib.hid (But.below (p := p2) (q := q2) hb__ (HB.out.trans (Below.mono bup HB.out.size)) HP2.out HQ2.out (Nat.le_refl _)); go_must (have HR1n := Lib.hid (Rep.but (HR1.out.keep bup) hb__ (by omega) (by omega) (by omega) (by omega))); go_must (have HR3n := Lib.hid (Rep.but (HR3.out.keep bup) hb__ (by omega) (by omega) (by omega) (by omega))); go_must (have HR4n := Lib.hid (Rep.but (HR4.out.keep bup) hb__ (by omega) (by omega) (by omega) (by omega))); go_must (have HG18n := Lib.hid (hb__.keep (hatB HG18 bup) (by omega) (by omega))); clear HB hb__; have HB := HBn; clear HBn; clear HR1; have HR1 := HR1n; clear HR1n; clear HR3; have HR3 := HR3n; clear HR3n; clear HR4; have HR4 := HR4n; clear HR4n; clear HG18; have HG18 := HG18n; clear HG18n; have HP2W := HR2; clear HR2; have HR2 := Lib.hid hr; have HPS2 := Lib.hid hps; clear hr hps; go_must (obtain ⟨rfl, rfl, rfl, ls', htw1, htw2⟩ := put_two HP1W.out.good HP2W.out.good HT1.out HT2.out HPS1.out HPS2.out); clear HT1 HT2 HPS1 HPS2 HP1W HP2W; have HT1 := Lib.hid htw1; have HT2 := Lib.hid htw2; clear htw1 htw2)
        | ((with_reducible refine sl 21 ?_); go_must (refine wpL_newG rfl rfl 28 rfl (.tmp 21) (.tmp 98) rfl (gone2.v.cells).toArray zeroF.cells.toArray (new_info (by first | exact Flo.length zeroF_ok | exact FloW.length _ | exact LEN_21)) (new_size (by first | exact Flo.length zeroF_ok | exact FloW.length _ | exact LEN_21)) (flo_one _) (fun _ => rfl) (fun _ => rfl) ?_); intro wn21 g21 le_21 hg__ hb__; have hE__ := cU HB bup hb__; replace HB := ck HB hE__; (try replace HR1 := ck HR1 hE__); (try replace HR2 := ck HR2 hE__); (try replace HR3 := ck HR3 hE__); (try replace HR4 := ck HR4 hE__); (try replace HG18 := ck HG18 hE__); clear hE__ hb__; have HG21 := Lib.hid hg__; clear hg__; simp only [PT])
        | ((with_reducible refine sl 101 ?_); go_must (refine wpL_load rfl 28 (.tmp 18) rfl g18 0 rfl gone2.v.cells _ (range_block (hatB HG18 bup)) Try.underlying28 rfl (one_size (gone2)) ?_); simp only [PT])
        | ((with_reducible refine sl 102 ?_); go_must (refine wpL_load rfl 28 (.tmp 21) rfl g21 0 rfl gone2.v.cells _ (range_block (hatB HG21 bup)) Try.underlying28 rfl (one_size (gone2)) ?_); simp only [PT])
        | ((with_reducible refine sl 103 ?_); go_must (refine wpL_neqF rfl (.tmp 101) (.tmp 102) rfl gone2 gone2 false (by simp) rfl rfl ?_); simp only [PT])
        | ((with_reducible refine sl 120 ?_); go_must (refine wpL_load rfl 26 (.tmp 119) rfl b (off + k * 41) rfl x.v.key.cells _ (range_key (HXG.out _ (HB.out.trans (Below.mono bup HB.out.size)))) Try.underlying26 rfl (tup_len x) ?_); simp only [PT])
        | (go_at_call 20; (with_reducible show Calls _ _ #[_, .agg x.v.key.cells.toArray] _ _); go_must (refine (get_law p3 q3 ka 200 T3 x _ (HR3.out.keep bup)).mono ?_); rintro e w5 ⟨⟨g1, ok, rfl, hg⟩, hb__⟩; have hE__ := cU HB bup hb__; replace HB := ck HB hE__; (try replace HR1 := ck HR1 hE__); (try replace HR2 := ck HR2 hE__); (try replace HR3 := ck HR3 hE__); (try replace HR4 := ck HR4 hE__); clear hE__ hb__; have HGL := Lib.hid hg; clear hg)
        | ((with_reducible refine sl 24 ?_); go_must (refine wpL_newG rfl rfl 28 rfl (.tmp 24) (.tmp 122) rfl (g1.v.cells).toArray zeroF.cells.toArray (new_info (by first | exact Flo.length zeroF_ok | exact FloW.length _ | exact LEN_24)) (new_size (by first | exact Flo.length zeroF_ok | exact FloW.length _ | exact LEN_24)) (flo_one _) (fun _ => rfl) (fun _ => rfl) ?_); intro wn24 g24 le_24 hg__ hb__; have hE__ := cU HB bup hb__; replace HB := ck HB hE__; (try replace HR1 := ck HR1 hE__); (try replace HR2 := ck HR2 hE__); (try replace HR3 := ck HR3 hE__); (try replace HR4 := ck HR4 hE__); clear hE__ hb__; have HG24 := Lib.hid hg__; clear hg__; simp only [PT]))
      rcases HGL.out with ⟨rfl, hlk⟩ | ⟨rfl, _, hlk⟩
      · as_aux_lemma =>
        have HLK := Lib.hid hlk
        clear hlk HGL
        go_wp2_with fail
        go_roundw
        case rel => exact ⟨k + 1, T1', T2', T3, ls', by omega, by go_num, Lib.hid (HB.out.trans (Below.mono bup HB.out.size)), Lib.hid (HR1.out.keep bup), Lib.hid (HR2.out.keep bup), Lib.hid (HR3.out.keep bup), Lib.hid (HR4.out.keep bup), HT1, HT2, Lib.hid (VI.skip HVI.out hkx (y := g1) (by rw [← HXE.out]; exact HLK.out))⟩
        case measure => first | (simp [intOf]; done) | (simp [intOf]; omega)
      · as_aux_lemma =>
        clear hlk HGL
        go_wp2_with (first
          | ((with_reducible refine sl 130 ?_); go_must (refine wpL_load rfl 28 (.tmp 129) rfl b (off + k * 41) rfl x.v.cells _ (HXG.out _ (HB.out.trans (Below.mono bup HB.out.size))) Try.underlying28 rfl (one_size x) ?_); simp only [PT])
          | (go_at_call 21; (with_reducible show Calls _ _ #[.pointer (some ⟨p3, 0, none⟩), .agg x.v.cells.toArray] _ _); go_must (refine (put_law p3 q3 ka 200 T3 x HSZ.out _ (HR3.out.keep bup)).mono ?_); rintro e w6 ⟨gone3, left3, err3, T3', rfl, hr, hb__, hps⟩; have HBn := Lib.hid (But.below (p := p3) (q := q3) hb__ (HB.out.trans (Below.mono bup HB.out.size)) HP3.out HQ3.out (Nat.le_refl _)); go_must (have HR1n := Lib.hid (Rep.but (HR1.out.keep bup) hb__ (by omega) (by omega) (by omega) (by omega))); go_must (have HR2n := Lib.hid (Rep.but (HR2.out.keep bup) hb__ (by omega) (by omega) (by omega) (by omega))); go_must (have HR4n := Lib.hid (Rep.but (HR4.out.keep bup) hb__ (by omega) (by omega) (by omega) (by omega))); clear HB hb__; have HB := HBn; clear HBn; clear HR1; have HR1 := HR1n; clear HR1n; clear HR2; have HR2 := HR2n; clear HR2n; clear HR4; have HR4 := HR4n; clear HR4n; have HP3W := HR3; clear HR3; have HR3 := Lib.hid hr; have HPS3 := Lib.hid hps; clear hr hps; have HP3 := HPS3; clear HPS3))
        go_roundw
        case rel => exact ⟨k + 1, T1', T2', T3', ls', by omega, by go_num, Lib.hid (HB.out.trans (Below.mono bup HB.out.size)), Lib.hid (HR1.out.keep bup), Lib.hid (HR2.out.keep bup), Lib.hid (HR3.out.keep bup), Lib.hid (HR4.out.keep bup), HT1, HT2, Lib.hid (VI.put (kb := ka) HVI.out hkx hx80 (by rw [← HXE.out]; exact HP3.out))⟩
        case measure => first | (simp [intOf]; done) | (simp [intOf]; omega)
end Go.Proofs.Ytgpdlhbndoeldaa
