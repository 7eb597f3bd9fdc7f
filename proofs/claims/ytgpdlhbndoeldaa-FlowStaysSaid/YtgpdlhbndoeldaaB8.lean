/-
  Joined by program (merge.py): FloB.
-/
import Derived.Test.YtgpdlhbndoeldaaB7
/-
  Chapter 21: the statement FlowStays: walked (written by gen/flawb.py).
-/
namespace Go.Proofs.Ytgpdlhbndoeldaa
open Go.RowKit Go.Sort
set_option linter.unusedVariables false
set_option linter.unusedSimpArgs false
set_option maxRecDepth 100000
set_option maxHeartbeats 16000000

/-- where the last act of a key stands -/
def LastI (xs : List ActV) (k : Tup) (m : Nat) (v : Value) : Prop := (v = .int .i64 (-1) ∧ lstA (xs.take m) k = none) ∨ ∃ (j : Nat) (a : ActV), j < m ∧ xs[j]? = some a ∧ v = .int .i64 (j : Int) ∧ lstA (xs.take m) k = some a
theorem LastI.hit {xs : List ActV} {k : Tup} {m : Nat} {z : ActV} (hz : xs[m]? = some z) (h : hits z k = true) : LastI xs k (m + 1) (.int .i64 (m : Int)) := by
  obtain ⟨hm, e⟩ := List.getElem?_eq_some_iff.1 hz
  exact .inr ⟨m, z, by omega, hz, rfl, by rw [take_snoc xs m hm, lstA_snoc, e, if_pos h]⟩
theorem LastI.miss {xs : List ActV} {k : Tup} {m : Nat} {z : ActV} {v : Value} (hz : xs[m]? = some z) (h : hits z k = false) (hi : LastI xs k m v) : LastI xs k (m + 1) v := by
  obtain ⟨hm, e⟩ := List.getElem?_eq_some_iff.1 hz
  have : lstA (xs.take (m + 1)) k = lstA (xs.take m) k := by rw [take_snoc xs m hm, lstA_snoc, e, if_neg (by rw [h]; simp)]
  unfold LastI
  rw [this]
  rcases hi with h | ⟨j, a, h1, h2⟩
  · exact .inl h
  · exact .inr ⟨j, a, by omega, h2⟩
theorem stays21_walk (kb : List UInt8) (hk : kb.length = 16) (ad : Option Addr) (n c : Nat) (xs : List ActV) (w : World) (hv : Acts w ad n c xs) :
    Calls Try.prog 5 #[.agg (BV kb).toArray, .slice ad n c] w fun e w' => e = .returned (.bool true) ∧ Below w.heap.size w w' := by
  have HB := Lib.hid (Below.refl w.heap.size w)
  have HIK : Hid ((Try.prog.info? 22).map (·.size) = some (BV kb).length) := Lib.hid (by rw [BV_length, hk]; kernel_rfl)
  have HK := Lib.hid hk
  have HV := Lib.hid hv
  have hle := hv.le
  have HLN := Lib.hid hv.len
  clear hk hv
  go_enter Try.func5, Try.ntmps5
  go_wp2_with (first
    | ((with_reducible refine sl 2 ?_); go_must (refine wpL_boxG rfl 22 (.tmp 0) rfl (BV kb).toArray rfl ?_); intro wb2 g2 he__ le_2 lt_2 hg__ hb__; have hE__ := cU HB bup hb__; replace HB := ck HB hE__; clear hE__ hb__; have HG2 := Lib.hid hg__; clear hg__ he__; simp only [PT])
    | (go_at_call 10; go_must (refine (awake_any _).mono ?_); rintro e wa ⟨rfl, hb__⟩; have hE__ := cU HB bup hb__; replace HB := ck HB hE__; (try replace HG2 := ck HG2 hE__); clear hE__ hb__))
  go_at_call 22
  refine (fewA_any ad n c xs _ (HV.out.below HB.out)).mono ?_
  rintro e w3 ⟨⟨bf, rfl, hf⟩, hb__⟩
  have hE__ := cU HB bup hb__; replace HB := ck HB hE__; (try replace HG2 := ck HG2 hE__); clear hE__ hb__
  cases bf with
  | false =>
    clear hf
    go_wp2_with (first
      | (go_at_call 10; go_must (refine (awake_any _).mono ?_); rintro e wa ⟨rfl, hb__⟩; have hE__ := cU HB bup hb__; replace HB := ck HB hE__; (try replace HG2 := ck HG2 hE__); clear hE__ hb__))
    go_ret
    exact ⟨rfl, HB.out⟩
  | true =>
    have HF := Lib.hid (hf rfl)
    clear hf
    go_wp2_with (first
      | ((with_reducible refine sl 22 ?_); go_must (refine wpL_load rfl 22 (.tmp 2) rfl g2 0 rfl (BV kb) _ (range_block HG2.out) Try.underlying22 rfl HIK.out ?_); simp only [PT]))
    go_at_call 11
    (with_reducible show Calls _ _ #[_, .int .i64 80] _ _)
    refine (new_rep kb HK.out 80 (by omega) (by omega) _).mono ?_
    rintro e w1 ⟨p, q, S0, rfl, hr, hS0, lq, lqp, hb__⟩
    have HQ : Hid (w.heap.size ≤ q) := Lib.hid (by have := HB.out.size; omega)
    have HP : Hid (w.heap.size ≤ p) := Lib.hid (by have := HQ.out; omega)
    have hE__ := cU HB bup hb__; replace HB := ck HB hE__; (try replace HG2 := ck HG2 hE__); clear hE__ hb__
    have HR := Lib.hid hr
    have HS := Lib.hid (StI.nil hS0)
    clear hr hS0 lq lqp HG2
    obtain ⟨wv, hwv⟩ : ∃ wv, wv = w1 := ⟨_, rfl⟩
    subst hwv
    go_wp2_with fail
    go_loopw [7] (fun i wr => ∃ (k : Nat) (S : List Slt), k ≤ n ∧ i = .int .i64 (k : Int) ∧ Hid (Below w.heap.size w wr) ∧ Hid (Rep wr p q kb 80 S) ∧ Hid (StI (xs.take k) S)) (fun i _ => n - (intOf i).toNat)
    case atStart => exact ⟨0, S0, by omega, rfl, HB, HR, HS⟩
    case round =>
      clear HB HR HS
      obtain ⟨k, S, hk, rfl, HB, HR, HS⟩ := hrel
      by_cases hend : k = n
      · subst k
        have HST : Hid (StI xs S) := Lib.hid (by have h := HS.out; rwa [HLN.out, List.take_length] at h)
        clear HS
        obtain ⟨wv, hwv⟩ : ∃ wv, wv = wr := ⟨_, rfl⟩
        subst hwv
        go_wp2_with fail
        go_loopw [8] (fun i wr => ∃ k : Nat, k ≤ n ∧ i = .int .i64 (k : Int) ∧ Hid (Below w.heap.size w wr) ∧ Hid (Rep wr p q kb 80 S)) (fun i _ => n - (intOf i).toNat)
        case atStart => exact ⟨0, by omega, rfl, HB, HR⟩
        case round =>
          clear HB HR
          obtain ⟨k, hk, rfl, HB, HR⟩ := hrel
          by_cases hend : k = n
          · subst k
            go_wp2_with fail
            go_ret
            exact ⟨rfl, HB.out⟩
          have hlt : k < n := by omega
          obtain ⟨b, off, rfl, hbl, hat⟩ := HV.out.at (by have := HLN.out; omega)
          clear hat
          obtain ⟨y, hy⟩ : ∃ y, y = xs[k]'(by have := HLN.out; omega) := ⟨_, rfl⟩
          have HYG : Hid (∀ w', Below w.heap.size w w' → w'.rangeAt b (off + k * 49) y.cells) := Lib.hid (fun w' hb => by rw [hy]; exact (HV.out.below hb).get k _)
          clear hy
          obtain ⟨wv, hwv⟩ : ∃ wv, wv = wr := ⟨_, rfl⟩
          subst hwv
          go_wp2_with fail
          go_loopw [9, 10] (fun v i wr => ∃ m : Nat, m ≤ n ∧ i = .int .i64 (m : Int) ∧ Hid (LastI xs y.fl.v.key m v) ∧ Hid (Below w.heap.size w wr) ∧ Hid (Rep wr p q kb 80 S)) (fun _ i _ => n - (intOf i).toNat)
          case atStart => exact ⟨0, by omega, rfl, Lib.hid (.inl ⟨rfl, rfl⟩), HB, HR⟩
          case round =>
            clear HB HR
            obtain ⟨m, hm, rfl, HI, HB, HR⟩ := hrel
            by_cases hend2 : m = n
            · subst m
              have HLS : Hid (look S y.fl.v.key = flowOf (lstA xs y.fl.v.key)) := Lib.hid (HST.out.look _)
              have hI := HI.out
              unfold LastI at hI
              rw [HLN.out, List.take_length] at hI
              clear HI
              rcases hI with ⟨rfl, hn⟩ | ⟨j, a, hj, ha, rfl, hn⟩
              · have HLK : Hid (look S y.fl.v.key = none) := Lib.hid (by rw [HLS.out, hn]; rfl)
                clear hn
                go_wp2_with (first
                  | ((with_reducible refine sl 118 ?_); go_must (refine wpL_load rfl 26 (.tmp 117) rfl b (off + k * 49 + 1) rfl y.fl.v.key.cells _ (range_key (act_flow (HYG.out _ HB.out))) Try.underlying26 rfl (tup_len y.fl) ?_); simp only [PT])
                  | (go_at_call 20; (with_reducible show Calls _ _ #[_, .agg y.fl.v.key.cells.toArray] _ _); go_must (refine (get_no p q kb 80 S y.fl HLK.out _ (HR.out.keep bup)).mono ?_); rintro e w5 ⟨rfl, hb__⟩; have hE__ := cU HB bup hb__; replace HB := ck HB hE__; (try replace HR := ck HR hE__); clear hE__ hb__)
                  | ((with_reducible refine sl 11 ?_); go_must (refine wpL_newG rfl rfl 28 rfl (.tmp 11) (.tmp 120) rfl (zeroF.cells).toArray zeroF.cells.toArray (new_info (by first | exact Flo.length zeroF_ok | exact FloW.length _ | exact LEN_11)) (new_size (by first | exact Flo.length zeroF_ok | exact FloW.length _ | exact LEN_11)) (flo_one _) (fun _ => rfl) (fun _ => rfl) ?_); intro wn11 g11 le_11 hg__ hb__; have hE__ := cU HB bup hb__; replace HB := ck HB hE__; (try replace HR := ck HR hE__); clear hE__ hb__; have HG11 := Lib.hid hg__; clear hg__; simp only [PT]))
                refine wp_region_held_drew (S := fun u__ => True) (by kernel_rfl) ?_ (fun hHeld => ?_)
                focus (exact trivial)
                refine tk 0 (oi := ⟨some 122, _, _, _, _, _⟩) (v := ?_) rfl (by kernel_rfl) (.inl ⟨by rfl, ?_⟩) hHeld ?_; rotate_left; focus (intro w hSw; (try dsimp only at hSw); go_simp; try with_reducible rfl)
                simp only [PT]
                refine tk 1 (oi := ⟨some 123, _, _, _, _, _⟩) (v := ?_) rfl (by kernel_rfl) (.inl ⟨by rfl, ?_⟩) hHeld ?_; rotate_left; focus (intro w hSw; (try dsimp only at hSw); go_simp; try with_reducible rfl)
                simp only [PT]
                refine tk 2 (oi := ⟨some 124, _, _, _, _, _⟩) (v := ?_) rfl (by kernel_rfl) (.inl ⟨by rfl, ?_⟩) hHeld ?_; rotate_left; focus (intro w hSw; (try dsimp only at hSw); go_simp; try with_reducible rfl)
                simp only [PT]
                refine tk 3 (oi := ⟨some 125, _, _, _, _, _⟩) (v := ?_) rfl (by kernel_rfl) (.inl ⟨by rfl, ?_⟩) hHeld ?_; rotate_left; focus (intro w hSw; (try dsimp only at hSw); go_simp; try with_reducible rfl)
                simp only [PT]
                first | (refine tk 4 (oi := ⟨some 126, _, _, _, _, _⟩) (v := undef) rfl (by kernel_rfl) (.inr ⟨by rfl, rfl⟩) hHeld ?_) | (refine tk 4 (oi := ⟨some 126, _, _, _, _, _⟩) (v := ?_) rfl (by kernel_rfl) (.inl ⟨by rfl, ?_⟩) hHeld ?_; rotate_left; focus (intro w hSw; (try dsimp only at hSw); go_simp; try with_reducible rfl))
                simp only [PT]
                first | (refine tk 5 (oi := ⟨some 127, _, _, _, _, _⟩) (v := undef) rfl (by kernel_rfl) (.inr ⟨by rfl, rfl⟩) hHeld ?_) | (refine tk 5 (oi := ⟨some 127, _, _, _, _, _⟩) (v := ?_) rfl (by kernel_rfl) (.inl ⟨by rfl, ?_⟩) hHeld ?_; rotate_left; focus (intro w hSw; (try dsimp only at hSw); go_simp; try with_reducible rfl))
                simp only [PT]
                first | (refine tk 6 (oi := ⟨some 128, _, _, _, _, _⟩) (v := undef) rfl (by kernel_rfl) (.inr ⟨by rfl, rfl⟩) hHeld ?_) | (refine tk 6 (oi := ⟨some 128, _, _, _, _, _⟩) (v := ?_) rfl (by kernel_rfl) (.inl ⟨by rfl, ?_⟩) hHeld ?_; rotate_left; focus (intro w hSw; (try dsimp only at hSw); go_simp; try with_reducible rfl))
                simp only [PT]
                first | (refine tk 7 (oi := ⟨some 129, _, _, _, _, _⟩) (v := undef) rfl (by kernel_rfl) (.inr ⟨by rfl, rfl⟩) hHeld ?_) | (refine tk 7 (oi := ⟨some 129, _, _, _, _, _⟩) (v := ?_) rfl (by kernel_rfl) (.inl ⟨by rfl, ?_⟩) hHeld ?_; rotate_left; focus (intro w hSw; (try dsimp only at hSw); go_simp; try with_reducible rfl))
                simp only [PT]
                first | (refine tk 8 (oi := ⟨some 130, _, _, _, _, _⟩) (v := undef) rfl (by kernel_rfl) (.inr ⟨by rfl, rfl⟩) hHeld ?_) | (refine tk 8 (oi := ⟨some 130, _, _, _, _, _⟩) (v := ?_) rfl (by kernel_rfl) (.inl ⟨by rfl, ?_⟩) hHeld ?_; rotate_left; focus (intro w hSw; (try dsimp only at hSw); go_simp; try with_reducible rfl))
                simp only [PT]
                first | (refine tk 9 (oi := ⟨some 131, _, _, _, _, _⟩) (v := undef) rfl (by kernel_rfl) (.inr ⟨by rfl, rfl⟩) hHeld ?_) | (refine tk 9 (oi := ⟨some 131, _, _, _, _, _⟩) (v := ?_) rfl (by kernel_rfl) (.inl ⟨by rfl, ?_⟩) hHeld ?_; rotate_left; focus (intro w hSw; (try dsimp only at hSw); go_simp; try with_reducible rfl))
                simp only [PT]
                refine tk 10 (oi := ⟨some 132, _, _, _, _, _⟩) (v := ?_) rfl (by kernel_rfl) (.inl ⟨by rfl, ?_⟩) hHeld ?_; rotate_left; focus (intro w hSw; (try dsimp only at hSw); go_simp; try with_reducible rfl)
                simp only [PT]
                refine tk 11 (oi := ⟨some 133, _, _, _, _, _⟩) (v := ?_) rfl (by kernel_rfl) (.inl ⟨by rfl, ?_⟩) hHeld ?_; rotate_left; focus (intro w hSw; (try dsimp only at hSw); go_simp; try with_reducible rfl)
                simp only [PT]
                refine tk 12 (oi := ⟨some 134, _, _, _, _, _⟩) (v := ?_) rfl (by kernel_rfl) (.inl ⟨by rfl, ?_⟩) hHeld ?_; rotate_left; focus (intro w hSw; (try dsimp only at hSw); go_simp; try with_reducible rfl)
                simp only [PT]
                first | (refine tk 13 (oi := ⟨some 135, _, _, _, _, _⟩) (v := undef) rfl (by kernel_rfl) (.inr ⟨by rfl, rfl⟩) hHeld ?_) | (refine tk 13 (oi := ⟨some 135, _, _, _, _, _⟩) (v := ?_) rfl (by kernel_rfl) (.inl ⟨by rfl, ?_⟩) hHeld ?_; rotate_left; focus (intro w hSw; (try dsimp only at hSw); go_simp; try with_reducible rfl))
                simp only [PT]
                first | (refine tk 14 (oi := ⟨some 136, _, _, _, _, _⟩) (v := undef) rfl (by kernel_rfl) (.inr ⟨by rfl, rfl⟩) hHeld ?_) | (refine tk 14 (oi := ⟨some 136, _, _, _, _, _⟩) (v := ?_) rfl (by kernel_rfl) (.inl ⟨by rfl, ?_⟩) hHeld ?_; rotate_left; focus (intro w hSw; (try dsimp only at hSw); go_simp; try with_reducible rfl))
                simp only [PT]
                first | (refine tk 15 (oi := ⟨some 137, _, _, _, _, _⟩) (v := undef) rfl (by kernel_rfl) (.inr ⟨by rfl, rfl⟩) hHeld ?_) | (refine tk 15 (oi := ⟨some 137, _, _, _, _, _⟩) (v := ?_) rfl (by kernel_rfl) (.inl ⟨by rfl, ?_⟩) hHeld ?_; rotate_left; focus (intro w hSw; (try dsimp only at hSw); go_simp; try with_reducible rfl))
                simp only [PT]
                first | (refine tk 16 (oi := ⟨some 138, _, _, _, _, _⟩) (v := undef) rfl (by kernel_rfl) (.inr ⟨by rfl, rfl⟩) hHeld ?_) | (refine tk 16 (oi := ⟨some 138, _, _, _, _, _⟩) (v := ?_) rfl (by kernel_rfl) (.inl ⟨by rfl, ?_⟩) hHeld ?_; rotate_left; focus (intro w hSw; (try dsimp only at hSw); go_simp; try with_reducible rfl))
                simp only [PT]
                first | (refine tk 17 (oi := ⟨some 139, _, _, _, _, _⟩) (v := undef) rfl (by kernel_rfl) (.inr ⟨by rfl, rfl⟩) hHeld ?_) | (refine tk 17 (oi := ⟨some 139, _, _, _, _, _⟩) (v := ?_) rfl (by kernel_rfl) (.inl ⟨by rfl, ?_⟩) hHeld ?_; rotate_left; focus (intro w hSw; (try dsimp only at hSw); go_simp; try with_reducible rfl))
                simp only [PT]
                first | (refine tk 18 (oi := ⟨some 140, _, _, _, _, _⟩) (v := undef) rfl (by kernel_rfl) (.inr ⟨by rfl, rfl⟩) hHeld ?_) | (refine tk 18 (oi := ⟨some 140, _, _, _, _, _⟩) (v := ?_) rfl (by kernel_rfl) (.inl ⟨by rfl, ?_⟩) hHeld ?_; rotate_left; focus (intro w hSw; (try dsimp only at hSw); go_simp; try with_reducible rfl))
                simp only [PT]
                first | (refine tk 19 (oi := ⟨some 141, _, _, _, _, _⟩) (v := undef) rfl (by kernel_rfl) (.inr ⟨by rfl, rfl⟩) hHeld ?_) | (refine tk 19 (oi := ⟨some 141, _, _, _, _, _⟩) (v := ?_) rfl (by kernel_rfl) (.inl ⟨by rfl, ?_⟩) hHeld ?_; rotate_left; focus (intro w hSw; (try dsimp only at hSw); go_simp; try with_reducible rfl))
                simp only [PT]
                first | (refine tk 20 (oi := ⟨some 142, _, _, _, _, _⟩) (v := undef) rfl (by kernel_rfl) (.inr ⟨by rfl, rfl⟩) hHeld ?_) | (refine tk 20 (oi := ⟨some 142, _, _, _, _, _⟩) (v := ?_) rfl (by kernel_rfl) (.inl ⟨by rfl, ?_⟩) hHeld ?_; rotate_left; focus (intro w hSw; (try dsimp only at hSw); go_simp; try with_reducible rfl))
                simp only [PT]
                first | (refine tk 21 (oi := ⟨some 143, _, _, _, _, _⟩) (v := undef) rfl (by kernel_rfl) (.inr ⟨by rfl, rfl⟩) hHeld ?_) | (refine tk 21 (oi := ⟨some 143, _, _, _, _, _⟩) (v := ?_) rfl (by kernel_rfl) (.inl ⟨by rfl, ?_⟩) hHeld ?_; rotate_left; focus (intro w hSw; (try dsimp only at hSw); go_simp; try with_reducible rfl))
                simp only [PT]
                first | (refine tk 22 (oi := ⟨some 144, _, _, _, _, _⟩) (v := undef) rfl (by kernel_rfl) (.inr ⟨by rfl, rfl⟩) hHeld ?_) | (refine tk 22 (oi := ⟨some 144, _, _, _, _, _⟩) (v := ?_) rfl (by kernel_rfl) (.inl ⟨by rfl, ?_⟩) hHeld ?_; rotate_left; focus (intro w hSw; (try dsimp only at hSw); go_simp; try with_reducible rfl))
                simp only [PT]
                refine tk 23 (oi := ⟨some 145, _, _, _, _, _⟩) (v := ?_) rfl (by kernel_rfl) (.inl ⟨by rfl, ?_⟩) hHeld ?_; rotate_left; focus (intro w hSw; (try dsimp only at hSw); go_simp; try with_reducible rfl)
                simp only [PT]
                refine wpAnyH_done (by kernel_rfl) ?_ _
                go_wp2_with fail
                go_roundw
                case rel => exact ⟨k + 1, by omega, by go_num, Lib.hid (HB.out.trans (Below.mono bup HB.out.size)), Lib.hid (HR.out.keep bup)⟩
                case measure => first | (simp [intOf]; done) | (simp [intOf]; omega)
              have hjm : j < n := by rw [HLN.out]; exact hj
              have HAG : Hid (∀ w', Below w.heap.size w w' → w'.rangeAt b (off + j * 49) a.cells) := Lib.hid (fun w' hb => by
                obtain ⟨h1, h2⟩ := List.getElem?_eq_some_iff.1 ha
                rw [← h2]
                exact (HV.out.below hb).get j _)
              by_cases a0 : a.kind = 0
              · have HLK : Hid (look S y.fl.v.key = some a.fl) := Lib.hid (by rw [HLS.out, hn]; exact if_pos a0)
                clear hn ha hj
                go_wp2_with (first
                  | ((with_reducible refine sl 118 ?_); go_must (refine wpL_load rfl 26 (.tmp 117) rfl b (off + k * 49 + 1) rfl y.fl.v.key.cells _ (range_key (act_flow (HYG.out _ HB.out))) Try.underlying26 rfl (tup_len y.fl) ?_); simp only [PT])
                  | (go_at_call 20; (with_reducible show Calls _ _ #[_, .agg y.fl.v.key.cells.toArray] _ _); go_must (refine (get_yes p q kb 80 S y.fl a.fl HLK.out _ (HR.out.keep bup)).mono ?_); rintro e w5 ⟨rfl, hb__⟩; have hE__ := cU HB bup hb__; replace HB := ck HB hE__; (try replace HR := ck HR hE__); clear hE__ hb__)
                  | ((with_reducible refine sl 11 ?_); go_must (refine wpL_newG rfl rfl 28 rfl (.tmp 11) (.tmp 120) rfl (a.fl.v.cells).toArray zeroF.cells.toArray (new_info (by first | exact Flo.length zeroF_ok | exact FloW.length _ | exact LEN_11)) (new_size (by first | exact Flo.length zeroF_ok | exact FloW.length _ | exact LEN_11)) (flo_one _) (fun _ => rfl) (fun _ => rfl) ?_); intro wn11 g11 le_11 hg__ hb__; have hE__ := cU HB bup hb__; replace HB := ck HB hE__; (try replace HR := ck HR hE__); clear hE__ hb__; have HG11 := Lib.hid hg__; clear hg__; simp only [PT]))
                refine wp_region_held_drew (S := fun u__ => u__.rangeAt b (off + j * 49) a.cells ∧ u__.heap[g11]? = some (.cells a.fl.v.cells.toArray 28 (0, 0))) (by kernel_rfl) ?_ (fun hHeld => ?_)
                focus (exact ⟨HAG.out _ (HB.out.trans (Below.mono bup HB.out.size)), hatB HG11 bup⟩)
                refine tk 0 (oi := ⟨some 122, _, _, _, _, _⟩) (v := ?_) rfl (by kernel_rfl) (.inl ⟨by rfl, ?_⟩) hHeld ?_; rotate_left; focus (intro w hSw; (try dsimp only at hSw); go_simp; try with_reducible rfl)
                simp only [PT]
                refine tk 1 (oi := ⟨some 123, _, _, _, _, _⟩) (v := ?_) rfl (by kernel_rfl) (.inl ⟨by rfl, ?_⟩) hHeld ?_; rotate_left; focus (intro w hSw; (try dsimp only at hSw); go_simp; try with_reducible rfl)
                simp only [PT]
                refine tk 2 (oi := ⟨some 124, _, _, _, _, _⟩) (v := ?_) rfl (by kernel_rfl) (.inl ⟨by rfl, ?_⟩) hHeld ?_; rotate_left; focus (intro w hSw; (try dsimp only at hSw); go_simp; try with_reducible rfl)
                simp only [PT]
                refine tk 3 (oi := ⟨some 125, _, _, _, _, _⟩) (v := ?_) rfl (by kernel_rfl) (.inl ⟨by rfl, ?_⟩) hHeld ?_; rotate_left; focus (intro w hSw; (try dsimp only at hSw); go_simp; try with_reducible rfl)
                simp only [PT]
                first | (refine tk 4 (oi := ⟨some 126, _, _, _, _, _⟩) (v := undef) rfl (by kernel_rfl) (.inr ⟨by rfl, rfl⟩) hHeld ?_) | (refine tk 4 (oi := ⟨some 126, _, _, _, _, _⟩) (v := ?_) rfl (by kernel_rfl) (.inl ⟨by rfl, ?_⟩) hHeld ?_; rotate_left; focus (intro w hSw; (try dsimp only at hSw); go_simp; try with_reducible rfl))
                simp only [PT]
                first | (refine tk 5 (oi := ⟨some 127, _, _, _, _, _⟩) (v := undef) rfl (by kernel_rfl) (.inr ⟨by rfl, rfl⟩) hHeld ?_) | (refine tk 5 (oi := ⟨some 127, _, _, _, _, _⟩) (v := ?_) rfl (by kernel_rfl) (.inl ⟨by rfl, ?_⟩) hHeld ?_; rotate_left; focus (intro w hSw; (try dsimp only at hSw); go_simp; try with_reducible rfl))
                simp only [PT]
                first | (refine tk 6 (oi := ⟨some 128, _, _, _, _, _⟩) (v := undef) rfl (by kernel_rfl) (.inr ⟨by rfl, rfl⟩) hHeld ?_) | (refine tk 6 (oi := ⟨some 128, _, _, _, _, _⟩) (v := ?_) rfl (by kernel_rfl) (.inl ⟨by rfl, ?_⟩) hHeld ?_; rotate_left; focus (intro w hSw; (try dsimp only at hSw); go_simp; try with_reducible rfl))
                simp only [PT]
                first | (refine tk 7 (oi := ⟨some 129, _, _, _, _, _⟩) (v := undef) rfl (by kernel_rfl) (.inr ⟨by rfl, rfl⟩) hHeld ?_) | (refine tk 7 (oi := ⟨some 129, _, _, _, _, _⟩) (v := ?_) rfl (by kernel_rfl) (.inl ⟨by rfl, ?_⟩) hHeld ?_; rotate_left; focus (intro w hSw; (try dsimp only at hSw); go_simp; try with_reducible rfl))
                simp only [PT]
                first | (refine tk 8 (oi := ⟨some 130, _, _, _, _, _⟩) (v := undef) rfl (by kernel_rfl) (.inr ⟨by rfl, rfl⟩) hHeld ?_) | (refine' tk 8 (oi := ⟨some 130, _, _, _, _, _⟩) (v := _) rfl (by kernel_rfl) (yields_loadC (by rfl) 3 (.tmp 129) rfl b (off + j * 49) rfl (.int .i64 a.kind) (fun _ h => act_kind h.1) Try.underlying3 rfl) hHeld ?_)
                simp only [PT]
                first | (refine tk 9 (oi := ⟨some 131, _, _, _, _, _⟩) (v := undef) rfl (by kernel_rfl) (.inr ⟨by rfl, rfl⟩) hHeld ?_) | (refine' tk 9 (oi := ⟨some 131, _, _, _, _, _⟩) (v := (.bool false)) rfl (by kernel_rfl) (.inl ⟨by rfl, ?_⟩) hHeld ?_; focus (intro w hSw; (try dsimp only at hSw); go_simp; first | done | rfl | (simp [*]; done) | (simp [*]; omega))) | (refine' tk 9 (oi := ⟨some 131, _, _, _, _, _⟩) (v := (.bool true)) rfl (by kernel_rfl) (.inl ⟨by rfl, ?_⟩) hHeld ?_; focus (intro w hSw; (try dsimp only at hSw); go_simp; first | done | rfl | (simp [*]; done) | (simp [*]; omega)))
                simp only [PT]
                refine tk 10 (oi := ⟨some 132, _, _, _, _, _⟩) (v := ?_) rfl (by kernel_rfl) (.inl ⟨by rfl, ?_⟩) hHeld ?_; rotate_left; focus (intro w hSw; (try dsimp only at hSw); go_simp; try with_reducible rfl)
                simp only [PT]
                refine tk 11 (oi := ⟨some 133, _, _, _, _, _⟩) (v := ?_) rfl (by kernel_rfl) (.inl ⟨by rfl, ?_⟩) hHeld ?_; rotate_left; focus (intro w hSw; (try dsimp only at hSw); go_simp; try with_reducible rfl)
                simp only [PT]
                refine tk 12 (oi := ⟨some 134, _, _, _, _, _⟩) (v := ?_) rfl (by kernel_rfl) (.inl ⟨by rfl, ?_⟩) hHeld ?_; rotate_left; focus (intro w hSw; (try dsimp only at hSw); go_simp; try with_reducible rfl)
                simp only [PT]
                first | (refine tk 13 (oi := ⟨some 135, _, _, _, _, _⟩) (v := undef) rfl (by kernel_rfl) (.inr ⟨by rfl, rfl⟩) hHeld ?_) | (refine tk 13 (oi := ⟨some 135, _, _, _, _, _⟩) (v := ?_) rfl (by kernel_rfl) (.inl ⟨by rfl, ?_⟩) hHeld ?_; rotate_left; focus (intro w hSw; (try dsimp only at hSw); go_simp; try with_reducible rfl))
                simp only [PT]
                first | (refine tk 14 (oi := ⟨some 136, _, _, _, _, _⟩) (v := undef) rfl (by kernel_rfl) (.inr ⟨by rfl, rfl⟩) hHeld ?_) | (refine tk 14 (oi := ⟨some 136, _, _, _, _, _⟩) (v := ?_) rfl (by kernel_rfl) (.inl ⟨by rfl, ?_⟩) hHeld ?_; rotate_left; focus (intro w hSw; (try dsimp only at hSw); go_simp; try with_reducible rfl))
                simp only [PT]
                first | (refine tk 15 (oi := ⟨some 137, _, _, _, _, _⟩) (v := undef) rfl (by kernel_rfl) (.inr ⟨by rfl, rfl⟩) hHeld ?_) | (refine' tk 15 (oi := ⟨some 137, _, _, _, _, _⟩) (v := _) rfl (by kernel_rfl) (yieldsIf_load_mid (by rfl) _ _ rfl _ _ rfl (a.fl.v.cells) _ (fun _ h => range_block h.2) (Try.underlying28) rfl (one_size a.fl)) hHeld ?_)
                simp only [PT]
                first | (refine tk 16 (oi := ⟨some 138, _, _, _, _, _⟩) (v := undef) rfl (by kernel_rfl) (.inr ⟨by rfl, rfl⟩) hHeld ?_) | (refine tk 16 (oi := ⟨some 138, _, _, _, _, _⟩) (v := ?_) rfl (by kernel_rfl) (.inl ⟨by rfl, ?_⟩) hHeld ?_; rotate_left; focus (intro w hSw; (try dsimp only at hSw); go_simp; try with_reducible rfl))
                simp only [PT]
                first | (refine tk 17 (oi := ⟨some 139, _, _, _, _, _⟩) (v := undef) rfl (by kernel_rfl) (.inr ⟨by rfl, rfl⟩) hHeld ?_) | (refine tk 17 (oi := ⟨some 139, _, _, _, _, _⟩) (v := ?_) rfl (by kernel_rfl) (.inl ⟨by rfl, ?_⟩) hHeld ?_; rotate_left; focus (intro w hSw; (try dsimp only at hSw); go_simp; try with_reducible rfl))
                simp only [PT]
                first | (refine tk 18 (oi := ⟨some 140, _, _, _, _, _⟩) (v := undef) rfl (by kernel_rfl) (.inr ⟨by rfl, rfl⟩) hHeld ?_) | (refine tk 18 (oi := ⟨some 140, _, _, _, _, _⟩) (v := ?_) rfl (by kernel_rfl) (.inl ⟨by rfl, ?_⟩) hHeld ?_; rotate_left; focus (intro w hSw; (try dsimp only at hSw); go_simp; try with_reducible rfl))
                simp only [PT]
                first | (refine tk 19 (oi := ⟨some 141, _, _, _, _, _⟩) (v := undef) rfl (by kernel_rfl) (.inr ⟨by rfl, rfl⟩) hHeld ?_) | (refine tk 19 (oi := ⟨some 141, _, _, _, _, _⟩) (v := ?_) rfl (by kernel_rfl) (.inl ⟨by rfl, ?_⟩) hHeld ?_; rotate_left; focus (intro w hSw; (try dsimp only at hSw); go_simp; try with_reducible rfl))
                simp only [PT]
                first | (refine tk 20 (oi := ⟨some 142, _, _, _, _, _⟩) (v := undef) rfl (by kernel_rfl) (.inr ⟨by rfl, rfl⟩) hHeld ?_) | (refine' tk 20 (oi := ⟨some 142, _, _, _, _, _⟩) (v := _) rfl (by kernel_rfl) (yieldsIf_load_mid (by rfl) _ _ rfl _ _ rfl (a.fl.v.cells) _ (fun _ h => act_flow h.1) (Try.underlying28) rfl (one_size a.fl)) hHeld ?_)
                simp only [PT]
                first | (refine tk 21 (oi := ⟨some 143, _, _, _, _, _⟩) (v := undef) rfl (by kernel_rfl) (.inr ⟨by rfl, rfl⟩) hHeld ?_) | (refine' tk 21 (oi := ⟨some 143, _, _, _, _, _⟩) (v := _) rfl (by kernel_rfl) (yields_neqF a.fl a.fl false (by simp) (by rfl) (.tmp 137) (.tmp 142) rfl rfl rfl) hHeld ?_)
                simp only [PT]
                first | (refine tk 22 (oi := ⟨some 144, _, _, _, _, _⟩) (v := undef) rfl (by kernel_rfl) (.inr ⟨by rfl, rfl⟩) hHeld ?_) | (refine tk 22 (oi := ⟨some 144, _, _, _, _, _⟩) (v := ?_) rfl (by kernel_rfl) (.inl ⟨by rfl, ?_⟩) hHeld ?_; rotate_left; focus (intro w hSw; (try dsimp only at hSw); go_simp; try with_reducible rfl))
                simp only [PT]
                refine tk 23 (oi := ⟨some 145, _, _, _, _, _⟩) (v := ?_) rfl (by kernel_rfl) (.inl ⟨by rfl, ?_⟩) hHeld ?_; rotate_left; focus (intro w hSw; (try dsimp only at hSw); go_simp; try with_reducible rfl)
                simp only [PT]
                refine wpAnyH_done (by kernel_rfl) ?_ _
                go_wp2_with fail
                go_roundw
                case rel => exact ⟨k + 1, by omega, by go_num, Lib.hid (HB.out.trans (Below.mono bup HB.out.size)), Lib.hid (HR.out.keep bup)⟩
                case measure => first | (simp [intOf]; done) | (simp [intOf]; omega)
              · have HLK : Hid (look S y.fl.v.key = none) := Lib.hid (by rw [HLS.out, hn]; exact if_neg a0)
                clear hn ha hj
                go_wp2_with (first
                  | ((with_reducible refine sl 118 ?_); go_must (refine wpL_load rfl 26 (.tmp 117) rfl b (off + k * 49 + 1) rfl y.fl.v.key.cells _ (range_key (act_flow (HYG.out _ HB.out))) Try.underlying26 rfl (tup_len y.fl) ?_); simp only [PT])
                  | (go_at_call 20; (with_reducible show Calls _ _ #[_, .agg y.fl.v.key.cells.toArray] _ _); go_must (refine (get_no p q kb 80 S y.fl HLK.out _ (HR.out.keep bup)).mono ?_); rintro e w5 ⟨rfl, hb__⟩; have hE__ := cU HB bup hb__; replace HB := ck HB hE__; (try replace HR := ck HR hE__); clear hE__ hb__)
                  | ((with_reducible refine sl 11 ?_); go_must (refine wpL_newG rfl rfl 28 rfl (.tmp 11) (.tmp 120) rfl (zeroF.cells).toArray zeroF.cells.toArray (new_info (by first | exact Flo.length zeroF_ok | exact FloW.length _ | exact LEN_11)) (new_size (by first | exact Flo.length zeroF_ok | exact FloW.length _ | exact LEN_11)) (flo_one _) (fun _ => rfl) (fun _ => rfl) ?_); intro wn11 g11 le_11 hg__ hb__; have hE__ := cU HB bup hb__; replace HB := ck HB hE__; (try replace HR := ck HR hE__); clear hE__ hb__; have HG11 := Lib.hid hg__; clear hg__; simp only [PT]))
                refine wp_region_held_drew (S := fun u__ => u__.rangeAt b (off + j * 49) a.cells) (by kernel_rfl) ?_ (fun hHeld => ?_)
                focus (exact HAG.out _ (HB.out.trans (Below.mono bup HB.out.size)))
                refine tk 0 (oi := ⟨some 122, _, _, _, _, _⟩) (v := ?_) rfl (by kernel_rfl) (.inl ⟨by rfl, ?_⟩) hHeld ?_; rotate_left; focus (intro w hSw; (try dsimp only at hSw); go_simp; try with_reducible rfl)
                simp only [PT]
                refine tk 1 (oi := ⟨some 123, _, _, _, _, _⟩) (v := ?_) rfl (by kernel_rfl) (.inl ⟨by rfl, ?_⟩) hHeld ?_; rotate_left; focus (intro w hSw; (try dsimp only at hSw); go_simp; try with_reducible rfl)
                simp only [PT]
                refine tk 2 (oi := ⟨some 124, _, _, _, _, _⟩) (v := ?_) rfl (by kernel_rfl) (.inl ⟨by rfl, ?_⟩) hHeld ?_; rotate_left; focus (intro w hSw; (try dsimp only at hSw); go_simp; try with_reducible rfl)
                simp only [PT]
                refine tk 3 (oi := ⟨some 125, _, _, _, _, _⟩) (v := ?_) rfl (by kernel_rfl) (.inl ⟨by rfl, ?_⟩) hHeld ?_; rotate_left; focus (intro w hSw; (try dsimp only at hSw); go_simp; try with_reducible rfl)
                simp only [PT]
                first | (refine tk 4 (oi := ⟨some 126, _, _, _, _, _⟩) (v := undef) rfl (by kernel_rfl) (.inr ⟨by rfl, rfl⟩) hHeld ?_) | (refine tk 4 (oi := ⟨some 126, _, _, _, _, _⟩) (v := ?_) rfl (by kernel_rfl) (.inl ⟨by rfl, ?_⟩) hHeld ?_; rotate_left; focus (intro w hSw; (try dsimp only at hSw); go_simp; try with_reducible rfl))
                simp only [PT]
                first | (refine tk 5 (oi := ⟨some 127, _, _, _, _, _⟩) (v := undef) rfl (by kernel_rfl) (.inr ⟨by rfl, rfl⟩) hHeld ?_) | (refine tk 5 (oi := ⟨some 127, _, _, _, _, _⟩) (v := ?_) rfl (by kernel_rfl) (.inl ⟨by rfl, ?_⟩) hHeld ?_; rotate_left; focus (intro w hSw; (try dsimp only at hSw); go_simp; try with_reducible rfl))
                simp only [PT]
                first | (refine tk 6 (oi := ⟨some 128, _, _, _, _, _⟩) (v := undef) rfl (by kernel_rfl) (.inr ⟨by rfl, rfl⟩) hHeld ?_) | (refine tk 6 (oi := ⟨some 128, _, _, _, _, _⟩) (v := ?_) rfl (by kernel_rfl) (.inl ⟨by rfl, ?_⟩) hHeld ?_; rotate_left; focus (intro w hSw; (try dsimp only at hSw); go_simp; try with_reducible rfl))
                simp only [PT]
                first | (refine tk 7 (oi := ⟨some 129, _, _, _, _, _⟩) (v := undef) rfl (by kernel_rfl) (.inr ⟨by rfl, rfl⟩) hHeld ?_) | (refine tk 7 (oi := ⟨some 129, _, _, _, _, _⟩) (v := ?_) rfl (by kernel_rfl) (.inl ⟨by rfl, ?_⟩) hHeld ?_; rotate_left; focus (intro w hSw; (try dsimp only at hSw); go_simp; try with_reducible rfl))
                simp only [PT]
                first | (refine tk 8 (oi := ⟨some 130, _, _, _, _, _⟩) (v := undef) rfl (by kernel_rfl) (.inr ⟨by rfl, rfl⟩) hHeld ?_) | (refine' tk 8 (oi := ⟨some 130, _, _, _, _, _⟩) (v := _) rfl (by kernel_rfl) (yields_loadC (by rfl) 3 (.tmp 129) rfl b (off + j * 49) rfl (.int .i64 a.kind) (fun _ h => act_kind h) Try.underlying3 rfl) hHeld ?_)
                simp only [PT]
                first | (refine tk 9 (oi := ⟨some 131, _, _, _, _, _⟩) (v := undef) rfl (by kernel_rfl) (.inr ⟨by rfl, rfl⟩) hHeld ?_) | (refine' tk 9 (oi := ⟨some 131, _, _, _, _, _⟩) (v := (.bool false)) rfl (by kernel_rfl) (.inl ⟨by rfl, ?_⟩) hHeld ?_; focus (intro w hSw; (try dsimp only at hSw); go_simp; first | done | rfl | (simp [*]; done) | (simp [*]; omega))) | (refine' tk 9 (oi := ⟨some 131, _, _, _, _, _⟩) (v := (.bool true)) rfl (by kernel_rfl) (.inl ⟨by rfl, ?_⟩) hHeld ?_; focus (intro w hSw; (try dsimp only at hSw); go_simp; first | done | rfl | (simp [*]; done) | (simp [*]; omega)))
                simp only [PT]
                refine tk 10 (oi := ⟨some 132, _, _, _, _, _⟩) (v := ?_) rfl (by kernel_rfl) (.inl ⟨by rfl, ?_⟩) hHeld ?_; rotate_left; focus (intro w hSw; (try dsimp only at hSw); go_simp; try with_reducible rfl)
                simp only [PT]
                refine tk 11 (oi := ⟨some 133, _, _, _, _, _⟩) (v := ?_) rfl (by kernel_rfl) (.inl ⟨by rfl, ?_⟩) hHeld ?_; rotate_left; focus (intro w hSw; (try dsimp only at hSw); go_simp; try with_reducible rfl)
                simp only [PT]
                refine tk 12 (oi := ⟨some 134, _, _, _, _, _⟩) (v := ?_) rfl (by kernel_rfl) (.inl ⟨by rfl, ?_⟩) hHeld ?_; rotate_left; focus (intro w hSw; (try dsimp only at hSw); go_simp; try with_reducible rfl)
                simp only [PT]
                first | (refine tk 13 (oi := ⟨some 135, _, _, _, _, _⟩) (v := undef) rfl (by kernel_rfl) (.inr ⟨by rfl, rfl⟩) hHeld ?_) | (refine tk 13 (oi := ⟨some 135, _, _, _, _, _⟩) (v := ?_) rfl (by kernel_rfl) (.inl ⟨by rfl, ?_⟩) hHeld ?_; rotate_left; focus (intro w hSw; (try dsimp only at hSw); go_simp; try with_reducible rfl))
                simp only [PT]
                first | (refine tk 14 (oi := ⟨some 136, _, _, _, _, _⟩) (v := undef) rfl (by kernel_rfl) (.inr ⟨by rfl, rfl⟩) hHeld ?_) | (refine tk 14 (oi := ⟨some 136, _, _, _, _, _⟩) (v := ?_) rfl (by kernel_rfl) (.inl ⟨by rfl, ?_⟩) hHeld ?_; rotate_left; focus (intro w hSw; (try dsimp only at hSw); go_simp; try with_reducible rfl))
                simp only [PT]
                first | (refine tk 15 (oi := ⟨some 137, _, _, _, _, _⟩) (v := undef) rfl (by kernel_rfl) (.inr ⟨by rfl, rfl⟩) hHeld ?_) | (refine tk 15 (oi := ⟨some 137, _, _, _, _, _⟩) (v := ?_) rfl (by kernel_rfl) (.inl ⟨by rfl, ?_⟩) hHeld ?_; rotate_left; focus (intro w hSw; (try dsimp only at hSw); go_simp; try with_reducible rfl))
                simp only [PT]
                first | (refine tk 16 (oi := ⟨some 138, _, _, _, _, _⟩) (v := undef) rfl (by kernel_rfl) (.inr ⟨by rfl, rfl⟩) hHeld ?_) | (refine tk 16 (oi := ⟨some 138, _, _, _, _, _⟩) (v := ?_) rfl (by kernel_rfl) (.inl ⟨by rfl, ?_⟩) hHeld ?_; rotate_left; focus (intro w hSw; (try dsimp only at hSw); go_simp; try with_reducible rfl))
                simp only [PT]
                first | (refine tk 17 (oi := ⟨some 139, _, _, _, _, _⟩) (v := undef) rfl (by kernel_rfl) (.inr ⟨by rfl, rfl⟩) hHeld ?_) | (refine tk 17 (oi := ⟨some 139, _, _, _, _, _⟩) (v := ?_) rfl (by kernel_rfl) (.inl ⟨by rfl, ?_⟩) hHeld ?_; rotate_left; focus (intro w hSw; (try dsimp only at hSw); go_simp; try with_reducible rfl))
                simp only [PT]
                first | (refine tk 18 (oi := ⟨some 140, _, _, _, _, _⟩) (v := undef) rfl (by kernel_rfl) (.inr ⟨by rfl, rfl⟩) hHeld ?_) | (refine tk 18 (oi := ⟨some 140, _, _, _, _, _⟩) (v := ?_) rfl (by kernel_rfl) (.inl ⟨by rfl, ?_⟩) hHeld ?_; rotate_left; focus (intro w hSw; (try dsimp only at hSw); go_simp; try with_reducible rfl))
                simp only [PT]
                first | (refine tk 19 (oi := ⟨some 141, _, _, _, _, _⟩) (v := undef) rfl (by kernel_rfl) (.inr ⟨by rfl, rfl⟩) hHeld ?_) | (refine tk 19 (oi := ⟨some 141, _, _, _, _, _⟩) (v := ?_) rfl (by kernel_rfl) (.inl ⟨by rfl, ?_⟩) hHeld ?_; rotate_left; focus (intro w hSw; (try dsimp only at hSw); go_simp; try with_reducible rfl))
                simp only [PT]
                first | (refine tk 20 (oi := ⟨some 142, _, _, _, _, _⟩) (v := undef) rfl (by kernel_rfl) (.inr ⟨by rfl, rfl⟩) hHeld ?_) | (refine tk 20 (oi := ⟨some 142, _, _, _, _, _⟩) (v := ?_) rfl (by kernel_rfl) (.inl ⟨by rfl, ?_⟩) hHeld ?_; rotate_left; focus (intro w hSw; (try dsimp only at hSw); go_simp; try with_reducible rfl))
                simp only [PT]
                first | (refine tk 21 (oi := ⟨some 143, _, _, _, _, _⟩) (v := undef) rfl (by kernel_rfl) (.inr ⟨by rfl, rfl⟩) hHeld ?_) | (refine tk 21 (oi := ⟨some 143, _, _, _, _, _⟩) (v := ?_) rfl (by kernel_rfl) (.inl ⟨by rfl, ?_⟩) hHeld ?_; rotate_left; focus (intro w hSw; (try dsimp only at hSw); go_simp; try with_reducible rfl))
                simp only [PT]
                first | (refine tk 22 (oi := ⟨some 144, _, _, _, _, _⟩) (v := undef) rfl (by kernel_rfl) (.inr ⟨by rfl, rfl⟩) hHeld ?_) | (refine tk 22 (oi := ⟨some 144, _, _, _, _, _⟩) (v := ?_) rfl (by kernel_rfl) (.inl ⟨by rfl, ?_⟩) hHeld ?_; rotate_left; focus (intro w hSw; (try dsimp only at hSw); go_simp; try with_reducible rfl))
                simp only [PT]
                refine tk 23 (oi := ⟨some 145, _, _, _, _, _⟩) (v := ?_) rfl (by kernel_rfl) (.inl ⟨by rfl, ?_⟩) hHeld ?_; rotate_left; focus (intro w hSw; (try dsimp only at hSw); go_simp; try with_reducible rfl)
                simp only [PT]
                refine wpAnyH_done (by kernel_rfl) ?_ _
                go_wp2_with fail
                go_roundw
                case rel => exact ⟨k + 1, by omega, by go_num, Lib.hid (HB.out.trans (Below.mono bup HB.out.size)), Lib.hid (HR.out.keep bup)⟩
                case measure => first | (simp [intOf]; done) | (simp [intOf]; omega)
            have hlt2 : m < n := by omega
            obtain ⟨z, hz⟩ : ∃ z, z = xs[m]'(by have := HLN.out; omega) := ⟨_, rfl⟩
            have HZG : Hid (∀ w', Below w.heap.size w w' → w'.rangeAt b (off + m * 49) z.cells) := Lib.hid (fun w' hb => by rw [hz]; exact (HV.out.below hb).get m _)
            have HZ : Hid (xs[m]? = some z) := Lib.hid (by rw [hz]; exact List.getElem?_eq_getElem _)
            have HZS : Hid (z.fl.v.name.size ≤ 140737488351232) := Lib.hid (by rw [hz]; have := HF.out.2 _ (List.getElem_mem (show m < xs.length by have := HLN.out; omega)); omega)
            clear hz
            go_wp2_with fail
            by_cases hkey : z.fl.v.key = y.fl.v.key
            · have HD : Hid (true = true ↔ z.fl.v.key = y.fl.v.key) := Lib.hid ⟨fun _ => hkey, fun _ => rfl⟩
              by_cases k2 : z.kind = 2
              · have HH : Hid (hits z y.fl.v.key = true) := Lib.hid (by unfold hits; rw [decide_eq_true hkey, decide_eq_true k2]; rfl)
                clear hkey
                refine wp_region_held_drew (S := fun u__ => u__.rangeAt b (off + m * 49) z.cells ∧ u__.rangeAt b (off + k * 49) y.cells) (by kernel_rfl) ?_ (fun hHeld => ?_)
                focus (exact ⟨HZG.out _ (HB.out.trans (Below.mono bup HB.out.size)), HYG.out _ (HB.out.trans (Below.mono bup HB.out.size))⟩)
                refine tk 0 (oi := ⟨some 73, _, _, _, _, _⟩) (v := ?_) rfl (by kernel_rfl) (.inl ⟨by rfl, ?_⟩) hHeld ?_; rotate_left; focus (intro w hSw; (try dsimp only at hSw); go_simp; try with_reducible rfl)
                simp only [PT]
                refine tk 1 (oi := ⟨some 74, _, _, _, _, _⟩) (v := ?_) rfl (by kernel_rfl) (.inl ⟨by rfl, ?_⟩) hHeld ?_; rotate_left; focus (intro w hSw; (try dsimp only at hSw); go_simp; try with_reducible rfl)
                simp only [PT]
                refine tk 2 (oi := ⟨some 75, _, _, _, _, _⟩) (v := ?_) rfl (by kernel_rfl) (.inl ⟨by rfl, ?_⟩) hHeld ?_; rotate_left; focus (intro w hSw; (try dsimp only at hSw); go_simp; try with_reducible rfl)
                simp only [PT]
                refine tk 3 (oi := ⟨some 76, _, _, _, _, _⟩) (v := ?_) rfl (by kernel_rfl) (.inl ⟨by rfl, ?_⟩) hHeld ?_; rotate_left; focus (intro w hSw; (try dsimp only at hSw); go_simp; try with_reducible rfl)
                simp only [PT]
                refine tk 4 (oi := ⟨some 77, _, _, _, _, _⟩) (v := ?_) rfl (by kernel_rfl) (.inl ⟨by rfl, ?_⟩) hHeld ?_; rotate_left; focus (intro w hSw; (try dsimp only at hSw); go_simp; try with_reducible rfl)
                simp only [PT]
                refine' tk 5 (oi := ⟨some 78, _, _, _, _, _⟩) (v := _) rfl (by kernel_rfl) (yieldsIf_load_mid (by rfl) _ _ rfl _ _ rfl (z.fl.v.key.cells) _ (fun _ h => range_key (act_flow h.1)) (Try.underlying26) rfl (tup_len z.fl)) hHeld ?_
                simp only [PT]
                refine tk 6 (oi := ⟨some 79, _, _, _, _, _⟩) (v := ?_) rfl (by kernel_rfl) (.inl ⟨by rfl, ?_⟩) hHeld ?_; rotate_left; focus (intro w hSw; (try dsimp only at hSw); go_simp; try with_reducible rfl)
                simp only [PT]
                refine tk 7 (oi := ⟨some 80, _, _, _, _, _⟩) (v := ?_) rfl (by kernel_rfl) (.inl ⟨by rfl, ?_⟩) hHeld ?_; rotate_left; focus (intro w hSw; (try dsimp only at hSw); go_simp; try with_reducible rfl)
                simp only [PT]
                refine tk 8 (oi := ⟨some 81, _, _, _, _, _⟩) (v := ?_) rfl (by kernel_rfl) (.inl ⟨by rfl, ?_⟩) hHeld ?_; rotate_left; focus (intro w hSw; (try dsimp only at hSw); go_simp; try with_reducible rfl)
                simp only [PT]
                refine tk 9 (oi := ⟨some 82, _, _, _, _, _⟩) (v := ?_) rfl (by kernel_rfl) (.inl ⟨by rfl, ?_⟩) hHeld ?_; rotate_left; focus (intro w hSw; (try dsimp only at hSw); go_simp; try with_reducible rfl)
                simp only [PT]
                refine tk 10 (oi := ⟨some 83, _, _, _, _, _⟩) (v := ?_) rfl (by kernel_rfl) (.inl ⟨by rfl, ?_⟩) hHeld ?_; rotate_left; focus (intro w hSw; (try dsimp only at hSw); go_simp; try with_reducible rfl)
                simp only [PT]
                refine' tk 11 (oi := ⟨some 84, _, _, _, _, _⟩) (v := _) rfl (by kernel_rfl) (yieldsIf_load_mid (by rfl) _ _ rfl _ _ rfl (y.fl.v.key.cells) _ (fun _ h => range_key (act_flow h.2)) (Try.underlying26) rfl (tup_len y.fl)) hHeld ?_
                simp only [PT]
                refine' tk 12 (oi := ⟨some 85, _, _, _, _, _⟩) (v := _) rfl (by kernel_rfl) (yields_eqT z.fl y.fl _ HD.out (by rfl) (.tmp 78) (.tmp 84) rfl rfl rfl) hHeld ?_
                simp only [PT]
                refine tk 13 (oi := ⟨some 86, _, _, _, _, _⟩) (v := ?_) rfl (by kernel_rfl) (.inl ⟨by rfl, ?_⟩) hHeld ?_; rotate_left; focus (intro w hSw; (try dsimp only at hSw); go_simp; try with_reducible rfl)
                simp only [PT]
                first | (refine tk 14 (oi := ⟨some 87, _, _, _, _, _⟩) (v := undef) rfl (by kernel_rfl) (.inr ⟨by rfl, rfl⟩) hHeld ?_) | (refine tk 14 (oi := ⟨some 87, _, _, _, _, _⟩) (v := ?_) rfl (by kernel_rfl) (.inl ⟨by rfl, ?_⟩) hHeld ?_; rotate_left; focus (intro w hSw; (try dsimp only at hSw); go_simp; try with_reducible rfl))
                simp only [PT]
                first | (refine tk 15 (oi := ⟨some 88, _, _, _, _, _⟩) (v := undef) rfl (by kernel_rfl) (.inr ⟨by rfl, rfl⟩) hHeld ?_) | (refine tk 15 (oi := ⟨some 88, _, _, _, _, _⟩) (v := ?_) rfl (by kernel_rfl) (.inl ⟨by rfl, ?_⟩) hHeld ?_; rotate_left; focus (intro w hSw; (try dsimp only at hSw); go_simp; try with_reducible rfl))
                simp only [PT]
                first | (refine tk 16 (oi := ⟨some 89, _, _, _, _, _⟩) (v := undef) rfl (by kernel_rfl) (.inr ⟨by rfl, rfl⟩) hHeld ?_) | (refine tk 16 (oi := ⟨some 89, _, _, _, _, _⟩) (v := ?_) rfl (by kernel_rfl) (.inl ⟨by rfl, ?_⟩) hHeld ?_; rotate_left; focus (intro w hSw; (try dsimp only at hSw); go_simp; try with_reducible rfl))
                simp only [PT]
                first | (refine tk 17 (oi := ⟨some 90, _, _, _, _, _⟩) (v := undef) rfl (by kernel_rfl) (.inr ⟨by rfl, rfl⟩) hHeld ?_) | (refine tk 17 (oi := ⟨some 90, _, _, _, _, _⟩) (v := ?_) rfl (by kernel_rfl) (.inl ⟨by rfl, ?_⟩) hHeld ?_; rotate_left; focus (intro w hSw; (try dsimp only at hSw); go_simp; try with_reducible rfl))
                simp only [PT]
                first | (refine tk 18 (oi := ⟨some 91, _, _, _, _, _⟩) (v := undef) rfl (by kernel_rfl) (.inr ⟨by rfl, rfl⟩) hHeld ?_) | (refine' tk 18 (oi := ⟨some 91, _, _, _, _, _⟩) (v := _) rfl (by kernel_rfl) (yields_loadC (by rfl) 3 (.tmp 90) rfl b (off + m * 49) rfl (.int .i64 z.kind) (fun _ h => act_kind h.1) Try.underlying3 rfl) hHeld ?_)
                simp only [PT]
                first | (refine tk 19 (oi := ⟨some 92, _, _, _, _, _⟩) (v := undef) rfl (by kernel_rfl) (.inr ⟨by rfl, rfl⟩) hHeld ?_) | (refine' tk 19 (oi := ⟨some 92, _, _, _, _, _⟩) (v := (.bool false)) rfl (by kernel_rfl) (.inl ⟨by rfl, ?_⟩) hHeld ?_; focus (intro w hSw; (try dsimp only at hSw); go_simp; first | done | rfl | (simp [*]; done) | (simp [*]; omega))) | (refine' tk 19 (oi := ⟨some 92, _, _, _, _, _⟩) (v := (.bool true)) rfl (by kernel_rfl) (.inl ⟨by rfl, ?_⟩) hHeld ?_; focus (intro w hSw; (try dsimp only at hSw); go_simp; first | done | rfl | (simp [*]; done) | (simp [*]; omega)))
                simp only [PT]
                first | (refine tk 20 (oi := ⟨some 93, _, _, _, _, _⟩) (v := undef) rfl (by kernel_rfl) (.inr ⟨by rfl, rfl⟩) hHeld ?_) | (refine tk 20 (oi := ⟨some 93, _, _, _, _, _⟩) (v := ?_) rfl (by kernel_rfl) (.inl ⟨by rfl, ?_⟩) hHeld ?_; rotate_left; focus (intro w hSw; (try dsimp only at hSw); go_simp; try with_reducible rfl))
                simp only [PT]
                first | (refine tk 21 (oi := ⟨some 94, _, _, _, _, _⟩) (v := undef) rfl (by kernel_rfl) (.inr ⟨by rfl, rfl⟩) hHeld ?_) | (refine tk 21 (oi := ⟨some 94, _, _, _, _, _⟩) (v := ?_) rfl (by kernel_rfl) (.inl ⟨by rfl, ?_⟩) hHeld ?_; rotate_left; focus (intro w hSw; (try dsimp only at hSw); go_simp; try with_reducible rfl))
                simp only [PT]
                first | (refine tk 22 (oi := ⟨some 95, _, _, _, _, _⟩) (v := undef) rfl (by kernel_rfl) (.inr ⟨by rfl, rfl⟩) hHeld ?_) | (refine tk 22 (oi := ⟨some 95, _, _, _, _, _⟩) (v := ?_) rfl (by kernel_rfl) (.inl ⟨by rfl, ?_⟩) hHeld ?_; rotate_left; focus (intro w hSw; (try dsimp only at hSw); go_simp; try with_reducible rfl))
                simp only [PT]
                first | (refine tk 23 (oi := ⟨some 96, _, _, _, _, _⟩) (v := undef) rfl (by kernel_rfl) (.inr ⟨by rfl, rfl⟩) hHeld ?_) | (refine tk 23 (oi := ⟨some 96, _, _, _, _, _⟩) (v := ?_) rfl (by kernel_rfl) (.inl ⟨by rfl, ?_⟩) hHeld ?_; rotate_left; focus (intro w hSw; (try dsimp only at hSw); go_simp; try with_reducible rfl))
                simp only [PT]
                first | (refine tk 24 (oi := ⟨some 97, _, _, _, _, _⟩) (v := undef) rfl (by kernel_rfl) (.inr ⟨by rfl, rfl⟩) hHeld ?_) | (refine tk 24 (oi := ⟨some 97, _, _, _, _, _⟩) (v := ?_) rfl (by kernel_rfl) (.inl ⟨by rfl, ?_⟩) hHeld ?_; rotate_left; focus (intro w hSw; (try dsimp only at hSw); go_simp; try with_reducible rfl))
                simp only [PT]
                first | (refine tk 25 (oi := ⟨some 98, _, _, _, _, _⟩) (v := undef) rfl (by kernel_rfl) (.inr ⟨by rfl, rfl⟩) hHeld ?_) | (refine' tk 25 (oi := ⟨some 98, _, _, _, _, _⟩) (v := _) rfl (by kernel_rfl) (yields_loadC (by rfl) 3 (.tmp 97) rfl b (off + m * 49) rfl (.int .i64 z.kind) (fun _ h => act_kind h.1) Try.underlying3 rfl) hHeld ?_)
                simp only [PT]
                first | (refine tk 26 (oi := ⟨some 99, _, _, _, _, _⟩) (v := undef) rfl (by kernel_rfl) (.inr ⟨by rfl, rfl⟩) hHeld ?_) | (refine' tk 26 (oi := ⟨some 99, _, _, _, _, _⟩) (v := (.bool false)) rfl (by kernel_rfl) (.inl ⟨by rfl, ?_⟩) hHeld ?_; focus (intro w hSw; (try dsimp only at hSw); go_simp; first | done | rfl | (simp [*]; done) | (simp [*]; omega))) | (refine' tk 26 (oi := ⟨some 99, _, _, _, _, _⟩) (v := (.bool true)) rfl (by kernel_rfl) (.inl ⟨by rfl, ?_⟩) hHeld ?_; focus (intro w hSw; (try dsimp only at hSw); go_simp; first | done | rfl | (simp [*]; done) | (simp [*]; omega)))
                simp only [PT]
                first | (refine tk 27 (oi := ⟨some 100, _, _, _, _, _⟩) (v := undef) rfl (by kernel_rfl) (.inr ⟨by rfl, rfl⟩) hHeld ?_) | (refine tk 27 (oi := ⟨some 100, _, _, _, _, _⟩) (v := ?_) rfl (by kernel_rfl) (.inl ⟨by rfl, ?_⟩) hHeld ?_; rotate_left; focus (intro w hSw; (try dsimp only at hSw); go_simp; try with_reducible rfl))
                simp only [PT]
                first | (refine tk 28 (oi := ⟨some 101, _, _, _, _, _⟩) (v := undef) rfl (by kernel_rfl) (.inr ⟨by rfl, rfl⟩) hHeld ?_) | (refine tk 28 (oi := ⟨some 101, _, _, _, _, _⟩) (v := ?_) rfl (by kernel_rfl) (.inl ⟨by rfl, ?_⟩) hHeld ?_; rotate_left; focus (intro w hSw; (try dsimp only at hSw); go_simp; try with_reducible rfl))
                simp only [PT]
                first | (refine tk 29 (oi := ⟨some 102, _, _, _, _, _⟩) (v := undef) rfl (by kernel_rfl) (.inr ⟨by rfl, rfl⟩) hHeld ?_) | (refine tk 29 (oi := ⟨some 102, _, _, _, _, _⟩) (v := ?_) rfl (by kernel_rfl) (.inl ⟨by rfl, ?_⟩) hHeld ?_; rotate_left; focus (intro w hSw; (try dsimp only at hSw); go_simp; try with_reducible rfl))
                simp only [PT]
                first | (refine tk 30 (oi := ⟨some 103, _, _, _, _, _⟩) (v := undef) rfl (by kernel_rfl) (.inr ⟨by rfl, rfl⟩) hHeld ?_) | (refine tk 30 (oi := ⟨some 103, _, _, _, _, _⟩) (v := ?_) rfl (by kernel_rfl) (.inl ⟨by rfl, ?_⟩) hHeld ?_; rotate_left; focus (intro w hSw; (try dsimp only at hSw); go_simp; try with_reducible rfl))
                simp only [PT]
                first | (refine tk 31 (oi := ⟨some 104, _, _, _, _, _⟩) (v := undef) rfl (by kernel_rfl) (.inr ⟨by rfl, rfl⟩) hHeld ?_) | (refine tk 31 (oi := ⟨some 104, _, _, _, _, _⟩) (v := ?_) rfl (by kernel_rfl) (.inl ⟨by rfl, ?_⟩) hHeld ?_; rotate_left; focus (intro w hSw; (try dsimp only at hSw); go_simp; try with_reducible rfl))
                simp only [PT]
                first | (refine tk 32 (oi := ⟨some 105, _, _, _, _, _⟩) (v := undef) rfl (by kernel_rfl) (.inr ⟨by rfl, rfl⟩) hHeld ?_) | (refine' tk 32 (oi := ⟨some 105, _, _, _, _, _⟩) (v := _) rfl (by kernel_rfl) (yieldsIf_load_mid (by rfl) _ _ rfl _ _ rfl (z.fl.v.cells) _ (fun _ h => act_flow h.1) (Try.underlying28) rfl (one_size z.fl)) hHeld ?_)
                simp only [PT]
                refine wpAnyH_ready (rs := [33]) (by kernel_rfl) (by simp) ?_
                refine (AllReadyH.cons (o := ⟨some 106, _, _, _, _, _⟩) rfl (fun K hK => ?_) AllReadyH.nil)
                focus (first | (refine skip_step ?_ ?_; focus (rfl)) | (go_simp; go_must (refine (refRight_any z.fl.v z.fl.ok HZS.out _).mono ?_); rw [hr]; rintro e w5 ⟨rfl, hb__⟩; have hE__ := cU HB bup hb__; replace HB := ck HB hE__; (try replace HR := ck HR hE__); clear hE__ hb__; go_wp2_with fail))
                refine hK.out _ _ ?_ (fun hHeld => ?_)
                focus (exact ⟨HZG.out _ (HB.out.trans (Below.mono bup HB.out.size)), HYG.out _ (HB.out.trans (Below.mono bup HB.out.size))⟩)
                clear hK K
                try simp only [PT]
                first | (refine tk 34 (oi := ⟨some 107, _, _, _, _, _⟩) (v := undef) rfl (by kernel_rfl) (.inr ⟨by rfl, rfl⟩) hHeld ?_) | (refine tk 34 (oi := ⟨some 107, _, _, _, _, _⟩) (v := ?_) rfl (by kernel_rfl) (.inl ⟨by rfl, ?_⟩) hHeld ?_; rotate_left; focus (intro w hSw; (try dsimp only at hSw); go_simp; try with_reducible rfl))
                simp only [PT]
                first | (refine tk 35 (oi := ⟨some 108, _, _, _, _, _⟩) (v := undef) rfl (by kernel_rfl) (.inr ⟨by rfl, rfl⟩) hHeld ?_) | (refine tk 35 (oi := ⟨some 108, _, _, _, _, _⟩) (v := ?_) rfl (by kernel_rfl) (.inl ⟨by rfl, ?_⟩) hHeld ?_; rotate_left; focus (intro w hSw; (try dsimp only at hSw); go_simp; try with_reducible rfl))
                simp only [PT]
                refine tk 36 (oi := ⟨some 109, _, _, _, _, _⟩) (v := ?_) rfl (by kernel_rfl) (.inl ⟨by rfl, ?_⟩) hHeld ?_; rotate_left; focus (intro w hSw; (try dsimp only at hSw); go_simp; try with_reducible rfl)
                simp only [PT]
                refine wpAnyH_done (by kernel_rfl) ?_ _
                go_wp2_with fail
                go_roundw
                case rel => exact ⟨m + 1, by omega, by go_num, Lib.hid (LastI.hit HZ.out HH.out), Lib.hid (HB.out.trans (Below.mono bup HB.out.size)), Lib.hid (HR.out.keep bup)⟩
                case measure => first | (simp [intOf]; done) | (simp [intOf]; omega)
              by_cases k0 : z.kind = 0
              · rcases two (rightF z.fl.v) with hr | hr
                · have HH : Hid (hits z y.fl.v.key = true) := Lib.hid (by unfold hits; rw [decide_eq_true hkey, decide_eq_true k0, hr]; simp)
                  clear hkey
                  refine wp_region_held_drew (S := fun u__ => u__.rangeAt b (off + m * 49) z.cells ∧ u__.rangeAt b (off + k * 49) y.cells) (by kernel_rfl) ?_ (fun hHeld => ?_)
                  focus (exact ⟨HZG.out _ (HB.out.trans (Below.mono bup HB.out.size)), HYG.out _ (HB.out.trans (Below.mono bup HB.out.size))⟩)
                  refine tk 0 (oi := ⟨some 73, _, _, _, _, _⟩) (v := ?_) rfl (by kernel_rfl) (.inl ⟨by rfl, ?_⟩) hHeld ?_; rotate_left; focus (intro w hSw; (try dsimp only at hSw); go_simp; try with_reducible rfl)
                  simp only [PT]
                  refine tk 1 (oi := ⟨some 74, _, _, _, _, _⟩) (v := ?_) rfl (by kernel_rfl) (.inl ⟨by rfl, ?_⟩) hHeld ?_; rotate_left; focus (intro w hSw; (try dsimp only at hSw); go_simp; try with_reducible rfl)
                  simp only [PT]
                  refine tk 2 (oi := ⟨some 75, _, _, _, _, _⟩) (v := ?_) rfl (by kernel_rfl) (.inl ⟨by rfl, ?_⟩) hHeld ?_; rotate_left; focus (intro w hSw; (try dsimp only at hSw); go_simp; try with_reducible rfl)
                  simp only [PT]
                  refine tk 3 (oi := ⟨some 76, _, _, _, _, _⟩) (v := ?_) rfl (by kernel_rfl) (.inl ⟨by rfl, ?_⟩) hHeld ?_; rotate_left; focus (intro w hSw; (try dsimp only at hSw); go_simp; try with_reducible rfl)
                  simp only [PT]
                  refine tk 4 (oi := ⟨some 77, _, _, _, _, _⟩) (v := ?_) rfl (by kernel_rfl) (.inl ⟨by rfl, ?_⟩) hHeld ?_; rotate_left; focus (intro w hSw; (try dsimp only at hSw); go_simp; try with_reducible rfl)
                  simp only [PT]
                  refine' tk 5 (oi := ⟨some 78, _, _, _, _, _⟩) (v := _) rfl (by kernel_rfl) (yieldsIf_load_mid (by rfl) _ _ rfl _ _ rfl (z.fl.v.key.cells) _ (fun _ h => range_key (act_flow h.1)) (Try.underlying26) rfl (tup_len z.fl)) hHeld ?_
                  simp only [PT]
                  refine tk 6 (oi := ⟨some 79, _, _, _, _, _⟩) (v := ?_) rfl (by kernel_rfl) (.inl ⟨by rfl, ?_⟩) hHeld ?_; rotate_left; focus (intro w hSw; (try dsimp only at hSw); go_simp; try with_reducible rfl)
                  simp only [PT]
                  refine tk 7 (oi := ⟨some 80, _, _, _, _, _⟩) (v := ?_) rfl (by kernel_rfl) (.inl ⟨by rfl, ?_⟩) hHeld ?_; rotate_left; focus (intro w hSw; (try dsimp only at hSw); go_simp; try with_reducible rfl)
                  simp only [PT]
                  refine tk 8 (oi := ⟨some 81, _, _, _, _, _⟩) (v := ?_) rfl (by kernel_rfl) (.inl ⟨by rfl, ?_⟩) hHeld ?_; rotate_left; focus (intro w hSw; (try dsimp only at hSw); go_simp; try with_reducible rfl)
                  simp only [PT]
                  refine tk 9 (oi := ⟨some 82, _, _, _, _, _⟩) (v := ?_) rfl (by kernel_rfl) (.inl ⟨by rfl, ?_⟩) hHeld ?_; rotate_left; focus (intro w hSw; (try dsimp only at hSw); go_simp; try with_reducible rfl)
                  simp only [PT]
                  refine tk 10 (oi := ⟨some 83, _, _, _, _, _⟩) (v := ?_) rfl (by kernel_rfl) (.inl ⟨by rfl, ?_⟩) hHeld ?_; rotate_left; focus (intro w hSw; (try dsimp only at hSw); go_simp; try with_reducible rfl)
                  simp only [PT]
                  refine' tk 11 (oi := ⟨some 84, _, _, _, _, _⟩) (v := _) rfl (by kernel_rfl) (yieldsIf_load_mid (by rfl) _ _ rfl _ _ rfl (y.fl.v.key.cells) _ (fun _ h => range_key (act_flow h.2)) (Try.underlying26) rfl (tup_len y.fl)) hHeld ?_
                  simp only [PT]
                  refine' tk 12 (oi := ⟨some 85, _, _, _, _, _⟩) (v := _) rfl (by kernel_rfl) (yields_eqT z.fl y.fl _ HD.out (by rfl) (.tmp 78) (.tmp 84) rfl rfl rfl) hHeld ?_
                  simp only [PT]
                  refine tk 13 (oi := ⟨some 86, _, _, _, _, _⟩) (v := ?_) rfl (by kernel_rfl) (.inl ⟨by rfl, ?_⟩) hHeld ?_; rotate_left; focus (intro w hSw; (try dsimp only at hSw); go_simp; try with_reducible rfl)
                  simp only [PT]
                  first | (refine tk 14 (oi := ⟨some 87, _, _, _, _, _⟩) (v := undef) rfl (by kernel_rfl) (.inr ⟨by rfl, rfl⟩) hHeld ?_) | (refine tk 14 (oi := ⟨some 87, _, _, _, _, _⟩) (v := ?_) rfl (by kernel_rfl) (.inl ⟨by rfl, ?_⟩) hHeld ?_; rotate_left; focus (intro w hSw; (try dsimp only at hSw); go_simp; try with_reducible rfl))
                  simp only [PT]
                  first | (refine tk 15 (oi := ⟨some 88, _, _, _, _, _⟩) (v := undef) rfl (by kernel_rfl) (.inr ⟨by rfl, rfl⟩) hHeld ?_) | (refine tk 15 (oi := ⟨some 88, _, _, _, _, _⟩) (v := ?_) rfl (by kernel_rfl) (.inl ⟨by rfl, ?_⟩) hHeld ?_; rotate_left; focus (intro w hSw; (try dsimp only at hSw); go_simp; try with_reducible rfl))
                  simp only [PT]
                  first | (refine tk 16 (oi := ⟨some 89, _, _, _, _, _⟩) (v := undef) rfl (by kernel_rfl) (.inr ⟨by rfl, rfl⟩) hHeld ?_) | (refine tk 16 (oi := ⟨some 89, _, _, _, _, _⟩) (v := ?_) rfl (by kernel_rfl) (.inl ⟨by rfl, ?_⟩) hHeld ?_; rotate_left; focus (intro w hSw; (try dsimp only at hSw); go_simp; try with_reducible rfl))
                  simp only [PT]
                  first | (refine tk 17 (oi := ⟨some 90, _, _, _, _, _⟩) (v := undef) rfl (by kernel_rfl) (.inr ⟨by rfl, rfl⟩) hHeld ?_) | (refine tk 17 (oi := ⟨some 90, _, _, _, _, _⟩) (v := ?_) rfl (by kernel_rfl) (.inl ⟨by rfl, ?_⟩) hHeld ?_; rotate_left; focus (intro w hSw; (try dsimp only at hSw); go_simp; try with_reducible rfl))
                  simp only [PT]
                  first | (refine tk 18 (oi := ⟨some 91, _, _, _, _, _⟩) (v := undef) rfl (by kernel_rfl) (.inr ⟨by rfl, rfl⟩) hHeld ?_) | (refine' tk 18 (oi := ⟨some 91, _, _, _, _, _⟩) (v := _) rfl (by kernel_rfl) (yields_loadC (by rfl) 3 (.tmp 90) rfl b (off + m * 49) rfl (.int .i64 z.kind) (fun _ h => act_kind h.1) Try.underlying3 rfl) hHeld ?_)
                  simp only [PT]
                  first | (refine tk 19 (oi := ⟨some 92, _, _, _, _, _⟩) (v := undef) rfl (by kernel_rfl) (.inr ⟨by rfl, rfl⟩) hHeld ?_) | (refine' tk 19 (oi := ⟨some 92, _, _, _, _, _⟩) (v := (.bool false)) rfl (by kernel_rfl) (.inl ⟨by rfl, ?_⟩) hHeld ?_; focus (intro w hSw; (try dsimp only at hSw); go_simp; first | done | rfl | (simp [*]; done) | (simp [*]; omega))) | (refine' tk 19 (oi := ⟨some 92, _, _, _, _, _⟩) (v := (.bool true)) rfl (by kernel_rfl) (.inl ⟨by rfl, ?_⟩) hHeld ?_; focus (intro w hSw; (try dsimp only at hSw); go_simp; first | done | rfl | (simp [*]; done) | (simp [*]; omega)))
                  simp only [PT]
                  first | (refine tk 20 (oi := ⟨some 93, _, _, _, _, _⟩) (v := undef) rfl (by kernel_rfl) (.inr ⟨by rfl, rfl⟩) hHeld ?_) | (refine tk 20 (oi := ⟨some 93, _, _, _, _, _⟩) (v := ?_) rfl (by kernel_rfl) (.inl ⟨by rfl, ?_⟩) hHeld ?_; rotate_left; focus (intro w hSw; (try dsimp only at hSw); go_simp; try with_reducible rfl))
                  simp only [PT]
                  first | (refine tk 21 (oi := ⟨some 94, _, _, _, _, _⟩) (v := undef) rfl (by kernel_rfl) (.inr ⟨by rfl, rfl⟩) hHeld ?_) | (refine tk 21 (oi := ⟨some 94, _, _, _, _, _⟩) (v := ?_) rfl (by kernel_rfl) (.inl ⟨by rfl, ?_⟩) hHeld ?_; rotate_left; focus (intro w hSw; (try dsimp only at hSw); go_simp; try with_reducible rfl))
                  simp only [PT]
                  first | (refine tk 22 (oi := ⟨some 95, _, _, _, _, _⟩) (v := undef) rfl (by kernel_rfl) (.inr ⟨by rfl, rfl⟩) hHeld ?_) | (refine tk 22 (oi := ⟨some 95, _, _, _, _, _⟩) (v := ?_) rfl (by kernel_rfl) (.inl ⟨by rfl, ?_⟩) hHeld ?_; rotate_left; focus (intro w hSw; (try dsimp only at hSw); go_simp; try with_reducible rfl))
                  simp only [PT]
                  first | (refine tk 23 (oi := ⟨some 96, _, _, _, _, _⟩) (v := undef) rfl (by kernel_rfl) (.inr ⟨by rfl, rfl⟩) hHeld ?_) | (refine tk 23 (oi := ⟨some 96, _, _, _, _, _⟩) (v := ?_) rfl (by kernel_rfl) (.inl ⟨by rfl, ?_⟩) hHeld ?_; rotate_left; focus (intro w hSw; (try dsimp only at hSw); go_simp; try with_reducible rfl))
                  simp only [PT]
                  first | (refine tk 24 (oi := ⟨some 97, _, _, _, _, _⟩) (v := undef) rfl (by kernel_rfl) (.inr ⟨by rfl, rfl⟩) hHeld ?_) | (refine tk 24 (oi := ⟨some 97, _, _, _, _, _⟩) (v := ?_) rfl (by kernel_rfl) (.inl ⟨by rfl, ?_⟩) hHeld ?_; rotate_left; focus (intro w hSw; (try dsimp only at hSw); go_simp; try with_reducible rfl))
                  simp only [PT]
                  first | (refine tk 25 (oi := ⟨some 98, _, _, _, _, _⟩) (v := undef) rfl (by kernel_rfl) (.inr ⟨by rfl, rfl⟩) hHeld ?_) | (refine' tk 25 (oi := ⟨some 98, _, _, _, _, _⟩) (v := _) rfl (by kernel_rfl) (yields_loadC (by rfl) 3 (.tmp 97) rfl b (off + m * 49) rfl (.int .i64 z.kind) (fun _ h => act_kind h.1) Try.underlying3 rfl) hHeld ?_)
                  simp only [PT]
                  first | (refine tk 26 (oi := ⟨some 99, _, _, _, _, _⟩) (v := undef) rfl (by kernel_rfl) (.inr ⟨by rfl, rfl⟩) hHeld ?_) | (refine' tk 26 (oi := ⟨some 99, _, _, _, _, _⟩) (v := (.bool false)) rfl (by kernel_rfl) (.inl ⟨by rfl, ?_⟩) hHeld ?_; focus (intro w hSw; (try dsimp only at hSw); go_simp; first | done | rfl | (simp [*]; done) | (simp [*]; omega))) | (refine' tk 26 (oi := ⟨some 99, _, _, _, _, _⟩) (v := (.bool true)) rfl (by kernel_rfl) (.inl ⟨by rfl, ?_⟩) hHeld ?_; focus (intro w hSw; (try dsimp only at hSw); go_simp; first | done | rfl | (simp [*]; done) | (simp [*]; omega)))
                  simp only [PT]
                  first | (refine tk 27 (oi := ⟨some 100, _, _, _, _, _⟩) (v := undef) rfl (by kernel_rfl) (.inr ⟨by rfl, rfl⟩) hHeld ?_) | (refine tk 27 (oi := ⟨some 100, _, _, _, _, _⟩) (v := ?_) rfl (by kernel_rfl) (.inl ⟨by rfl, ?_⟩) hHeld ?_; rotate_left; focus (intro w hSw; (try dsimp only at hSw); go_simp; try with_reducible rfl))
                  simp only [PT]
                  first | (refine tk 28 (oi := ⟨some 101, _, _, _, _, _⟩) (v := undef) rfl (by kernel_rfl) (.inr ⟨by rfl, rfl⟩) hHeld ?_) | (refine tk 28 (oi := ⟨some 101, _, _, _, _, _⟩) (v := ?_) rfl (by kernel_rfl) (.inl ⟨by rfl, ?_⟩) hHeld ?_; rotate_left; focus (intro w hSw; (try dsimp only at hSw); go_simp; try with_reducible rfl))
                  simp only [PT]
                  first | (refine tk 29 (oi := ⟨some 102, _, _, _, _, _⟩) (v := undef) rfl (by kernel_rfl) (.inr ⟨by rfl, rfl⟩) hHeld ?_) | (refine tk 29 (oi := ⟨some 102, _, _, _, _, _⟩) (v := ?_) rfl (by kernel_rfl) (.inl ⟨by rfl, ?_⟩) hHeld ?_; rotate_left; focus (intro w hSw; (try dsimp only at hSw); go_simp; try with_reducible rfl))
                  simp only [PT]
                  first | (refine tk 30 (oi := ⟨some 103, _, _, _, _, _⟩) (v := undef) rfl (by kernel_rfl) (.inr ⟨by rfl, rfl⟩) hHeld ?_) | (refine tk 30 (oi := ⟨some 103, _, _, _, _, _⟩) (v := ?_) rfl (by kernel_rfl) (.inl ⟨by rfl, ?_⟩) hHeld ?_; rotate_left; focus (intro w hSw; (try dsimp only at hSw); go_simp; try with_reducible rfl))
                  simp only [PT]
                  first | (refine tk 31 (oi := ⟨some 104, _, _, _, _, _⟩) (v := undef) rfl (by kernel_rfl) (.inr ⟨by rfl, rfl⟩) hHeld ?_) | (refine tk 31 (oi := ⟨some 104, _, _, _, _, _⟩) (v := ?_) rfl (by kernel_rfl) (.inl ⟨by rfl, ?_⟩) hHeld ?_; rotate_left; focus (intro w hSw; (try dsimp only at hSw); go_simp; try with_reducible rfl))
                  simp only [PT]
                  first | (refine tk 32 (oi := ⟨some 105, _, _, _, _, _⟩) (v := undef) rfl (by kernel_rfl) (.inr ⟨by rfl, rfl⟩) hHeld ?_) | (refine' tk 32 (oi := ⟨some 105, _, _, _, _, _⟩) (v := _) rfl (by kernel_rfl) (yieldsIf_load_mid (by rfl) _ _ rfl _ _ rfl (z.fl.v.cells) _ (fun _ h => act_flow h.1) (Try.underlying28) rfl (one_size z.fl)) hHeld ?_)
                  simp only [PT]
                  refine wpAnyH_ready (rs := [33]) (by kernel_rfl) (by simp) ?_
                  refine (AllReadyH.cons (o := ⟨some 106, _, _, _, _, _⟩) rfl (fun K hK => ?_) AllReadyH.nil)
                  focus (first | (refine skip_step ?_ ?_; focus (rfl)) | (go_simp; go_must (refine (refRight_any z.fl.v z.fl.ok HZS.out _).mono ?_); rw [hr]; rintro e w5 ⟨rfl, hb__⟩; have hE__ := cU HB bup hb__; replace HB := ck HB hE__; (try replace HR := ck HR hE__); clear hE__ hb__; go_wp2_with fail))
                  refine hK.out _ _ ?_ (fun hHeld => ?_)
                  focus (exact ⟨HZG.out _ (HB.out.trans (Below.mono bup HB.out.size)), HYG.out _ (HB.out.trans (Below.mono bup HB.out.size))⟩)
                  clear hK K
                  try simp only [PT]
                  first | (refine tk 34 (oi := ⟨some 107, _, _, _, _, _⟩) (v := undef) rfl (by kernel_rfl) (.inr ⟨by rfl, rfl⟩) hHeld ?_) | (refine tk 34 (oi := ⟨some 107, _, _, _, _, _⟩) (v := ?_) rfl (by kernel_rfl) (.inl ⟨by rfl, ?_⟩) hHeld ?_; rotate_left; focus (intro w hSw; (try dsimp only at hSw); go_simp; try with_reducible rfl))
                  simp only [PT]
                  first | (refine tk 35 (oi := ⟨some 108, _, _, _, _, _⟩) (v := undef) rfl (by kernel_rfl) (.inr ⟨by rfl, rfl⟩) hHeld ?_) | (refine tk 35 (oi := ⟨some 108, _, _, _, _, _⟩) (v := ?_) rfl (by kernel_rfl) (.inl ⟨by rfl, ?_⟩) hHeld ?_; rotate_left; focus (intro w hSw; (try dsimp only at hSw); go_simp; try with_reducible rfl))
                  simp only [PT]
                  refine tk 36 (oi := ⟨some 109, _, _, _, _, _⟩) (v := ?_) rfl (by kernel_rfl) (.inl ⟨by rfl, ?_⟩) hHeld ?_; rotate_left; focus (intro w hSw; (try dsimp only at hSw); go_simp; try with_reducible rfl)
                  simp only [PT]
                  refine wpAnyH_done (by kernel_rfl) ?_ _
                  go_wp2_with fail
                  go_roundw
                  case rel => exact ⟨m + 1, by omega, by go_num, Lib.hid (LastI.hit HZ.out HH.out), Lib.hid (HB.out.trans (Below.mono bup HB.out.size)), Lib.hid (HR.out.keep bup)⟩
                  case measure => first | (simp [intOf]; done) | (simp [intOf]; omega)
                · have HH : Hid (hits z y.fl.v.key = false) := Lib.hid (by unfold hits; rw [decide_eq_true hkey, decide_eq_true k0, decide_eq_false k2, hr]; rfl)
                  clear hkey
                  refine wp_region_held_drew (S := fun u__ => u__.rangeAt b (off + m * 49) z.cells ∧ u__.rangeAt b (off + k * 49) y.cells) (by kernel_rfl) ?_ (fun hHeld => ?_)
                  focus (exact ⟨HZG.out _ (HB.out.trans (Below.mono bup HB.out.size)), HYG.out _ (HB.out.trans (Below.mono bup HB.out.size))⟩)
                  refine tk 0 (oi := ⟨some 73, _, _, _, _, _⟩) (v := ?_) rfl (by kernel_rfl) (.inl ⟨by rfl, ?_⟩) hHeld ?_; rotate_left; focus (intro w hSw; (try dsimp only at hSw); go_simp; try with_reducible rfl)
                  simp only [PT]
                  refine tk 1 (oi := ⟨some 74, _, _, _, _, _⟩) (v := ?_) rfl (by kernel_rfl) (.inl ⟨by rfl, ?_⟩) hHeld ?_; rotate_left; focus (intro w hSw; (try dsimp only at hSw); go_simp; try with_reducible rfl)
                  simp only [PT]
                  refine tk 2 (oi := ⟨some 75, _, _, _, _, _⟩) (v := ?_) rfl (by kernel_rfl) (.inl ⟨by rfl, ?_⟩) hHeld ?_; rotate_left; focus (intro w hSw; (try dsimp only at hSw); go_simp; try with_reducible rfl)
                  simp only [PT]
                  refine tk 3 (oi := ⟨some 76, _, _, _, _, _⟩) (v := ?_) rfl (by kernel_rfl) (.inl ⟨by rfl, ?_⟩) hHeld ?_; rotate_left; focus (intro w hSw; (try dsimp only at hSw); go_simp; try with_reducible rfl)
                  simp only [PT]
                  refine tk 4 (oi := ⟨some 77, _, _, _, _, _⟩) (v := ?_) rfl (by kernel_rfl) (.inl ⟨by rfl, ?_⟩) hHeld ?_; rotate_left; focus (intro w hSw; (try dsimp only at hSw); go_simp; try with_reducible rfl)
                  simp only [PT]
                  refine' tk 5 (oi := ⟨some 78, _, _, _, _, _⟩) (v := _) rfl (by kernel_rfl) (yieldsIf_load_mid (by rfl) _ _ rfl _ _ rfl (z.fl.v.key.cells) _ (fun _ h => range_key (act_flow h.1)) (Try.underlying26) rfl (tup_len z.fl)) hHeld ?_
                  simp only [PT]
                  refine tk 6 (oi := ⟨some 79, _, _, _, _, _⟩) (v := ?_) rfl (by kernel_rfl) (.inl ⟨by rfl, ?_⟩) hHeld ?_; rotate_left; focus (intro w hSw; (try dsimp only at hSw); go_simp; try with_reducible rfl)
                  simp only [PT]
                  refine tk 7 (oi := ⟨some 80, _, _, _, _, _⟩) (v := ?_) rfl (by kernel_rfl) (.inl ⟨by rfl, ?_⟩) hHeld ?_; rotate_left; focus (intro w hSw; (try dsimp only at hSw); go_simp; try with_reducible rfl)
                  simp only [PT]
                  refine tk 8 (oi := ⟨some 81, _, _, _, _, _⟩) (v := ?_) rfl (by kernel_rfl) (.inl ⟨by rfl, ?_⟩) hHeld ?_; rotate_left; focus (intro w hSw; (try dsimp only at hSw); go_simp; try with_reducible rfl)
                  simp only [PT]
                  refine tk 9 (oi := ⟨some 82, _, _, _, _, _⟩) (v := ?_) rfl (by kernel_rfl) (.inl ⟨by rfl, ?_⟩) hHeld ?_; rotate_left; focus (intro w hSw; (try dsimp only at hSw); go_simp; try with_reducible rfl)
                  simp only [PT]
                  refine tk 10 (oi := ⟨some 83, _, _, _, _, _⟩) (v := ?_) rfl (by kernel_rfl) (.inl ⟨by rfl, ?_⟩) hHeld ?_; rotate_left; focus (intro w hSw; (try dsimp only at hSw); go_simp; try with_reducible rfl)
                  simp only [PT]
                  refine' tk 11 (oi := ⟨some 84, _, _, _, _, _⟩) (v := _) rfl (by kernel_rfl) (yieldsIf_load_mid (by rfl) _ _ rfl _ _ rfl (y.fl.v.key.cells) _ (fun _ h => range_key (act_flow h.2)) (Try.underlying26) rfl (tup_len y.fl)) hHeld ?_
                  simp only [PT]
                  refine' tk 12 (oi := ⟨some 85, _, _, _, _, _⟩) (v := _) rfl (by kernel_rfl) (yields_eqT z.fl y.fl _ HD.out (by rfl) (.tmp 78) (.tmp 84) rfl rfl rfl) hHeld ?_
                  simp only [PT]
                  refine tk 13 (oi := ⟨some 86, _, _, _, _, _⟩) (v := ?_) rfl (by kernel_rfl) (.inl ⟨by rfl, ?_⟩) hHeld ?_; rotate_left; focus (intro w hSw; (try dsimp only at hSw); go_simp; try with_reducible rfl)
                  simp only [PT]
                  first | (refine tk 14 (oi := ⟨some 87, _, _, _, _, _⟩) (v := undef) rfl (by kernel_rfl) (.inr ⟨by rfl, rfl⟩) hHeld ?_) | (refine tk 14 (oi := ⟨some 87, _, _, _, _, _⟩) (v := ?_) rfl (by kernel_rfl) (.inl ⟨by rfl, ?_⟩) hHeld ?_; rotate_left; focus (intro w hSw; (try dsimp only at hSw); go_simp; try with_reducible rfl))
                  simp only [PT]
                  first | (refine tk 15 (oi := ⟨some 88, _, _, _, _, _⟩) (v := undef) rfl (by kernel_rfl) (.inr ⟨by rfl, rfl⟩) hHeld ?_) | (refine tk 15 (oi := ⟨some 88, _, _, _, _, _⟩) (v := ?_) rfl (by kernel_rfl) (.inl ⟨by rfl, ?_⟩) hHeld ?_; rotate_left; focus (intro w hSw; (try dsimp only at hSw); go_simp; try with_reducible rfl))
                  simp only [PT]
                  first | (refine tk 16 (oi := ⟨some 89, _, _, _, _, _⟩) (v := undef) rfl (by kernel_rfl) (.inr ⟨by rfl, rfl⟩) hHeld ?_) | (refine tk 16 (oi := ⟨some 89, _, _, _, _, _⟩) (v := ?_) rfl (by kernel_rfl) (.inl ⟨by rfl, ?_⟩) hHeld ?_; rotate_left; focus (intro w hSw; (try dsimp only at hSw); go_simp; try with_reducible rfl))
                  simp only [PT]
                  first | (refine tk 17 (oi := ⟨some 90, _, _, _, _, _⟩) (v := undef) rfl (by kernel_rfl) (.inr ⟨by rfl, rfl⟩) hHeld ?_) | (refine tk 17 (oi := ⟨some 90, _, _, _, _, _⟩) (v := ?_) rfl (by kernel_rfl) (.inl ⟨by rfl, ?_⟩) hHeld ?_; rotate_left; focus (intro w hSw; (try dsimp only at hSw); go_simp; try with_reducible rfl))
                  simp only [PT]
                  first | (refine tk 18 (oi := ⟨some 91, _, _, _, _, _⟩) (v := undef) rfl (by kernel_rfl) (.inr ⟨by rfl, rfl⟩) hHeld ?_) | (refine' tk 18 (oi := ⟨some 91, _, _, _, _, _⟩) (v := _) rfl (by kernel_rfl) (yields_loadC (by rfl) 3 (.tmp 90) rfl b (off + m * 49) rfl (.int .i64 z.kind) (fun _ h => act_kind h.1) Try.underlying3 rfl) hHeld ?_)
                  simp only [PT]
                  first | (refine tk 19 (oi := ⟨some 92, _, _, _, _, _⟩) (v := undef) rfl (by kernel_rfl) (.inr ⟨by rfl, rfl⟩) hHeld ?_) | (refine' tk 19 (oi := ⟨some 92, _, _, _, _, _⟩) (v := (.bool false)) rfl (by kernel_rfl) (.inl ⟨by rfl, ?_⟩) hHeld ?_; focus (intro w hSw; (try dsimp only at hSw); go_simp; first | done | rfl | (simp [*]; done) | (simp [*]; omega))) | (refine' tk 19 (oi := ⟨some 92, _, _, _, _, _⟩) (v := (.bool true)) rfl (by kernel_rfl) (.inl ⟨by rfl, ?_⟩) hHeld ?_; focus (intro w hSw; (try dsimp only at hSw); go_simp; first | done | rfl | (simp [*]; done) | (simp [*]; omega)))
                  simp only [PT]
                  first | (refine tk 20 (oi := ⟨some 93, _, _, _, _, _⟩) (v := undef) rfl (by kernel_rfl) (.inr ⟨by rfl, rfl⟩) hHeld ?_) | (refine tk 20 (oi := ⟨some 93, _, _, _, _, _⟩) (v := ?_) rfl (by kernel_rfl) (.inl ⟨by rfl, ?_⟩) hHeld ?_; rotate_left; focus (intro w hSw; (try dsimp only at hSw); go_simp; try with_reducible rfl))
                  simp only [PT]
                  first | (refine tk 21 (oi := ⟨some 94, _, _, _, _, _⟩) (v := undef) rfl (by kernel_rfl) (.inr ⟨by rfl, rfl⟩) hHeld ?_) | (refine tk 21 (oi := ⟨some 94, _, _, _, _, _⟩) (v := ?_) rfl (by kernel_rfl) (.inl ⟨by rfl, ?_⟩) hHeld ?_; rotate_left; focus (intro w hSw; (try dsimp only at hSw); go_simp; try with_reducible rfl))
                  simp only [PT]
                  first | (refine tk 22 (oi := ⟨some 95, _, _, _, _, _⟩) (v := undef) rfl (by kernel_rfl) (.inr ⟨by rfl, rfl⟩) hHeld ?_) | (refine tk 22 (oi := ⟨some 95, _, _, _, _, _⟩) (v := ?_) rfl (by kernel_rfl) (.inl ⟨by rfl, ?_⟩) hHeld ?_; rotate_left; focus (intro w hSw; (try dsimp only at hSw); go_simp; try with_reducible rfl))
                  simp only [PT]
                  first | (refine tk 23 (oi := ⟨some 96, _, _, _, _, _⟩) (v := undef) rfl (by kernel_rfl) (.inr ⟨by rfl, rfl⟩) hHeld ?_) | (refine tk 23 (oi := ⟨some 96, _, _, _, _, _⟩) (v := ?_) rfl (by kernel_rfl) (.inl ⟨by rfl, ?_⟩) hHeld ?_; rotate_left; focus (intro w hSw; (try dsimp only at hSw); go_simp; try with_reducible rfl))
                  simp only [PT]
                  first | (refine tk 24 (oi := ⟨some 97, _, _, _, _, _⟩) (v := undef) rfl (by kernel_rfl) (.inr ⟨by rfl, rfl⟩) hHeld ?_) | (refine tk 24 (oi := ⟨some 97, _, _, _, _, _⟩) (v := ?_) rfl (by kernel_rfl) (.inl ⟨by rfl, ?_⟩) hHeld ?_; rotate_left; focus (intro w hSw; (try dsimp only at hSw); go_simp; try with_reducible rfl))
                  simp only [PT]
                  first | (refine tk 25 (oi := ⟨some 98, _, _, _, _, _⟩) (v := undef) rfl (by kernel_rfl) (.inr ⟨by rfl, rfl⟩) hHeld ?_) | (refine' tk 25 (oi := ⟨some 98, _, _, _, _, _⟩) (v := _) rfl (by kernel_rfl) (yields_loadC (by rfl) 3 (.tmp 97) rfl b (off + m * 49) rfl (.int .i64 z.kind) (fun _ h => act_kind h.1) Try.underlying3 rfl) hHeld ?_)
                  simp only [PT]
                  first | (refine tk 26 (oi := ⟨some 99, _, _, _, _, _⟩) (v := undef) rfl (by kernel_rfl) (.inr ⟨by rfl, rfl⟩) hHeld ?_) | (refine' tk 26 (oi := ⟨some 99, _, _, _, _, _⟩) (v := (.bool false)) rfl (by kernel_rfl) (.inl ⟨by rfl, ?_⟩) hHeld ?_; focus (intro w hSw; (try dsimp only at hSw); go_simp; first | done | rfl | (simp [*]; done) | (simp [*]; omega))) | (refine' tk 26 (oi := ⟨some 99, _, _, _, _, _⟩) (v := (.bool true)) rfl (by kernel_rfl) (.inl ⟨by rfl, ?_⟩) hHeld ?_; focus (intro w hSw; (try dsimp only at hSw); go_simp; first | done | rfl | (simp [*]; done) | (simp [*]; omega)))
                  simp only [PT]
                  first | (refine tk 27 (oi := ⟨some 100, _, _, _, _, _⟩) (v := undef) rfl (by kernel_rfl) (.inr ⟨by rfl, rfl⟩) hHeld ?_) | (refine tk 27 (oi := ⟨some 100, _, _, _, _, _⟩) (v := ?_) rfl (by kernel_rfl) (.inl ⟨by rfl, ?_⟩) hHeld ?_; rotate_left; focus (intro w hSw; (try dsimp only at hSw); go_simp; try with_reducible rfl))
                  simp only [PT]
                  first | (refine tk 28 (oi := ⟨some 101, _, _, _, _, _⟩) (v := undef) rfl (by kernel_rfl) (.inr ⟨by rfl, rfl⟩) hHeld ?_) | (refine tk 28 (oi := ⟨some 101, _, _, _, _, _⟩) (v := ?_) rfl (by kernel_rfl) (.inl ⟨by rfl, ?_⟩) hHeld ?_; rotate_left; focus (intro w hSw; (try dsimp only at hSw); go_simp; try with_reducible rfl))
                  simp only [PT]
                  first | (refine tk 29 (oi := ⟨some 102, _, _, _, _, _⟩) (v := undef) rfl (by kernel_rfl) (.inr ⟨by rfl, rfl⟩) hHeld ?_) | (refine tk 29 (oi := ⟨some 102, _, _, _, _, _⟩) (v := ?_) rfl (by kernel_rfl) (.inl ⟨by rfl, ?_⟩) hHeld ?_; rotate_left; focus (intro w hSw; (try dsimp only at hSw); go_simp; try with_reducible rfl))
                  simp only [PT]
                  first | (refine tk 30 (oi := ⟨some 103, _, _, _, _, _⟩) (v := undef) rfl (by kernel_rfl) (.inr ⟨by rfl, rfl⟩) hHeld ?_) | (refine tk 30 (oi := ⟨some 103, _, _, _, _, _⟩) (v := ?_) rfl (by kernel_rfl) (.inl ⟨by rfl, ?_⟩) hHeld ?_; rotate_left; focus (intro w hSw; (try dsimp only at hSw); go_simp; try with_reducible rfl))
                  simp only [PT]
                  first | (refine tk 31 (oi := ⟨some 104, _, _, _, _, _⟩) (v := undef) rfl (by kernel_rfl) (.inr ⟨by rfl, rfl⟩) hHeld ?_) | (refine tk 31 (oi := ⟨some 104, _, _, _, _, _⟩) (v := ?_) rfl (by kernel_rfl) (.inl ⟨by rfl, ?_⟩) hHeld ?_; rotate_left; focus (intro w hSw; (try dsimp only at hSw); go_simp; try with_reducible rfl))
                  simp only [PT]
                  first | (refine tk 32 (oi := ⟨some 105, _, _, _, _, _⟩) (v := undef) rfl (by kernel_rfl) (.inr ⟨by rfl, rfl⟩) hHeld ?_) | (refine' tk 32 (oi := ⟨some 105, _, _, _, _, _⟩) (v := _) rfl (by kernel_rfl) (yieldsIf_load_mid (by rfl) _ _ rfl _ _ rfl (z.fl.v.cells) _ (fun _ h => act_flow h.1) (Try.underlying28) rfl (one_size z.fl)) hHeld ?_)
                  simp only [PT]
                  refine wpAnyH_ready (rs := [33]) (by kernel_rfl) (by simp) ?_
                  refine (AllReadyH.cons (o := ⟨some 106, _, _, _, _, _⟩) rfl (fun K hK => ?_) AllReadyH.nil)
                  focus (first | (refine skip_step ?_ ?_; focus (rfl)) | (go_simp; go_must (refine (refRight_any z.fl.v z.fl.ok HZS.out _).mono ?_); rw [hr]; rintro e w5 ⟨rfl, hb__⟩; have hE__ := cU HB bup hb__; replace HB := ck HB hE__; (try replace HR := ck HR hE__); clear hE__ hb__; go_wp2_with fail))
                  refine hK.out _ _ ?_ (fun hHeld => ?_)
                  focus (exact ⟨HZG.out _ (HB.out.trans (Below.mono bup HB.out.size)), HYG.out _ (HB.out.trans (Below.mono bup HB.out.size))⟩)
                  clear hK K
                  try simp only [PT]
                  first | (refine tk 34 (oi := ⟨some 107, _, _, _, _, _⟩) (v := undef) rfl (by kernel_rfl) (.inr ⟨by rfl, rfl⟩) hHeld ?_) | (refine tk 34 (oi := ⟨some 107, _, _, _, _, _⟩) (v := ?_) rfl (by kernel_rfl) (.inl ⟨by rfl, ?_⟩) hHeld ?_; rotate_left; focus (intro w hSw; (try dsimp only at hSw); go_simp; try with_reducible rfl))
                  simp only [PT]
                  first | (refine tk 35 (oi := ⟨some 108, _, _, _, _, _⟩) (v := undef) rfl (by kernel_rfl) (.inr ⟨by rfl, rfl⟩) hHeld ?_) | (refine tk 35 (oi := ⟨some 108, _, _, _, _, _⟩) (v := ?_) rfl (by kernel_rfl) (.inl ⟨by rfl, ?_⟩) hHeld ?_; rotate_left; focus (intro w hSw; (try dsimp only at hSw); go_simp; try with_reducible rfl))
                  simp only [PT]
                  refine tk 36 (oi := ⟨some 109, _, _, _, _, _⟩) (v := ?_) rfl (by kernel_rfl) (.inl ⟨by rfl, ?_⟩) hHeld ?_; rotate_left; focus (intro w hSw; (try dsimp only at hSw); go_simp; try with_reducible rfl)
                  simp only [PT]
                  refine wpAnyH_done (by kernel_rfl) ?_ _
                  go_wp2_with fail
                  go_roundw
                  case rel => exact ⟨m + 1, by omega, by go_num, Lib.hid (LastI.miss HZ.out HH.out HI.out), Lib.hid (HB.out.trans (Below.mono bup HB.out.size)), Lib.hid (HR.out.keep bup)⟩
                  case measure => first | (simp [intOf]; done) | (simp [intOf]; omega)
              · have HH : Hid (hits z y.fl.v.key = false) := Lib.hid (by unfold hits; rw [decide_eq_false k0, decide_eq_false k2]; simp)
                clear hkey
                refine wp_region_held_drew (S := fun u__ => u__.rangeAt b (off + m * 49) z.cells ∧ u__.rangeAt b (off + k * 49) y.cells) (by kernel_rfl) ?_ (fun hHeld => ?_)
                focus (exact ⟨HZG.out _ (HB.out.trans (Below.mono bup HB.out.size)), HYG.out _ (HB.out.trans (Below.mono bup HB.out.size))⟩)
                refine tk 0 (oi := ⟨some 73, _, _, _, _, _⟩) (v := ?_) rfl (by kernel_rfl) (.inl ⟨by rfl, ?_⟩) hHeld ?_; rotate_left; focus (intro w hSw; (try dsimp only at hSw); go_simp; try with_reducible rfl)
                simp only [PT]
                refine tk 1 (oi := ⟨some 74, _, _, _, _, _⟩) (v := ?_) rfl (by kernel_rfl) (.inl ⟨by rfl, ?_⟩) hHeld ?_; rotate_left; focus (intro w hSw; (try dsimp only at hSw); go_simp; try with_reducible rfl)
                simp only [PT]
                refine tk 2 (oi := ⟨some 75, _, _, _, _, _⟩) (v := ?_) rfl (by kernel_rfl) (.inl ⟨by rfl, ?_⟩) hHeld ?_; rotate_left; focus (intro w hSw; (try dsimp only at hSw); go_simp; try with_reducible rfl)
                simp only [PT]
                refine tk 3 (oi := ⟨some 76, _, _, _, _, _⟩) (v := ?_) rfl (by kernel_rfl) (.inl ⟨by rfl, ?_⟩) hHeld ?_; rotate_left; focus (intro w hSw; (try dsimp only at hSw); go_simp; try with_reducible rfl)
                simp only [PT]
                refine tk 4 (oi := ⟨some 77, _, _, _, _, _⟩) (v := ?_) rfl (by kernel_rfl) (.inl ⟨by rfl, ?_⟩) hHeld ?_; rotate_left; focus (intro w hSw; (try dsimp only at hSw); go_simp; try with_reducible rfl)
                simp only [PT]
                refine' tk 5 (oi := ⟨some 78, _, _, _, _, _⟩) (v := _) rfl (by kernel_rfl) (yieldsIf_load_mid (by rfl) _ _ rfl _ _ rfl (z.fl.v.key.cells) _ (fun _ h => range_key (act_flow h.1)) (Try.underlying26) rfl (tup_len z.fl)) hHeld ?_
                simp only [PT]
                refine tk 6 (oi := ⟨some 79, _, _, _, _, _⟩) (v := ?_) rfl (by kernel_rfl) (.inl ⟨by rfl, ?_⟩) hHeld ?_; rotate_left; focus (intro w hSw; (try dsimp only at hSw); go_simp; try with_reducible rfl)
                simp only [PT]
                refine tk 7 (oi := ⟨some 80, _, _, _, _, _⟩) (v := ?_) rfl (by kernel_rfl) (.inl ⟨by rfl, ?_⟩) hHeld ?_; rotate_left; focus (intro w hSw; (try dsimp only at hSw); go_simp; try with_reducible rfl)
                simp only [PT]
                refine tk 8 (oi := ⟨some 81, _, _, _, _, _⟩) (v := ?_) rfl (by kernel_rfl) (.inl ⟨by rfl, ?_⟩) hHeld ?_; rotate_left; focus (intro w hSw; (try dsimp only at hSw); go_simp; try with_reducible rfl)
                simp only [PT]
                refine tk 9 (oi := ⟨some 82, _, _, _, _, _⟩) (v := ?_) rfl (by kernel_rfl) (.inl ⟨by rfl, ?_⟩) hHeld ?_; rotate_left; focus (intro w hSw; (try dsimp only at hSw); go_simp; try with_reducible rfl)
                simp only [PT]
                refine tk 10 (oi := ⟨some 83, _, _, _, _, _⟩) (v := ?_) rfl (by kernel_rfl) (.inl ⟨by rfl, ?_⟩) hHeld ?_; rotate_left; focus (intro w hSw; (try dsimp only at hSw); go_simp; try with_reducible rfl)
                simp only [PT]
                refine' tk 11 (oi := ⟨some 84, _, _, _, _, _⟩) (v := _) rfl (by kernel_rfl) (yieldsIf_load_mid (by rfl) _ _ rfl _ _ rfl (y.fl.v.key.cells) _ (fun _ h => range_key (act_flow h.2)) (Try.underlying26) rfl (tup_len y.fl)) hHeld ?_
                simp only [PT]
                refine' tk 12 (oi := ⟨some 85, _, _, _, _, _⟩) (v := _) rfl (by kernel_rfl) (yields_eqT z.fl y.fl _ HD.out (by rfl) (.tmp 78) (.tmp 84) rfl rfl rfl) hHeld ?_
                simp only [PT]
                refine tk 13 (oi := ⟨some 86, _, _, _, _, _⟩) (v := ?_) rfl (by kernel_rfl) (.inl ⟨by rfl, ?_⟩) hHeld ?_; rotate_left; focus (intro w hSw; (try dsimp only at hSw); go_simp; try with_reducible rfl)
                simp only [PT]
                first | (refine tk 14 (oi := ⟨some 87, _, _, _, _, _⟩) (v := undef) rfl (by kernel_rfl) (.inr ⟨by rfl, rfl⟩) hHeld ?_) | (refine tk 14 (oi := ⟨some 87, _, _, _, _, _⟩) (v := ?_) rfl (by kernel_rfl) (.inl ⟨by rfl, ?_⟩) hHeld ?_; rotate_left; focus (intro w hSw; (try dsimp only at hSw); go_simp; try with_reducible rfl))
                simp only [PT]
                first | (refine tk 15 (oi := ⟨some 88, _, _, _, _, _⟩) (v := undef) rfl (by kernel_rfl) (.inr ⟨by rfl, rfl⟩) hHeld ?_) | (refine tk 15 (oi := ⟨some 88, _, _, _, _, _⟩) (v := ?_) rfl (by kernel_rfl) (.inl ⟨by rfl, ?_⟩) hHeld ?_; rotate_left; focus (intro w hSw; (try dsimp only at hSw); go_simp; try with_reducible rfl))
                simp only [PT]
                first | (refine tk 16 (oi := ⟨some 89, _, _, _, _, _⟩) (v := undef) rfl (by kernel_rfl) (.inr ⟨by rfl, rfl⟩) hHeld ?_) | (refine tk 16 (oi := ⟨some 89, _, _, _, _, _⟩) (v := ?_) rfl (by kernel_rfl) (.inl ⟨by rfl, ?_⟩) hHeld ?_; rotate_left; focus (intro w hSw; (try dsimp only at hSw); go_simp; try with_reducible rfl))
                simp only [PT]
                first | (refine tk 17 (oi := ⟨some 90, _, _, _, _, _⟩) (v := undef) rfl (by kernel_rfl) (.inr ⟨by rfl, rfl⟩) hHeld ?_) | (refine tk 17 (oi := ⟨some 90, _, _, _, _, _⟩) (v := ?_) rfl (by kernel_rfl) (.inl ⟨by rfl, ?_⟩) hHeld ?_; rotate_left; focus (intro w hSw; (try dsimp only at hSw); go_simp; try with_reducible rfl))
                simp only [PT]
                first | (refine tk 18 (oi := ⟨some 91, _, _, _, _, _⟩) (v := undef) rfl (by kernel_rfl) (.inr ⟨by rfl, rfl⟩) hHeld ?_) | (refine' tk 18 (oi := ⟨some 91, _, _, _, _, _⟩) (v := _) rfl (by kernel_rfl) (yields_loadC (by rfl) 3 (.tmp 90) rfl b (off + m * 49) rfl (.int .i64 z.kind) (fun _ h => act_kind h.1) Try.underlying3 rfl) hHeld ?_)
                simp only [PT]
                first | (refine tk 19 (oi := ⟨some 92, _, _, _, _, _⟩) (v := undef) rfl (by kernel_rfl) (.inr ⟨by rfl, rfl⟩) hHeld ?_) | (refine' tk 19 (oi := ⟨some 92, _, _, _, _, _⟩) (v := (.bool false)) rfl (by kernel_rfl) (.inl ⟨by rfl, ?_⟩) hHeld ?_; focus (intro w hSw; (try dsimp only at hSw); go_simp; first | done | rfl | (simp [*]; done) | (simp [*]; omega))) | (refine' tk 19 (oi := ⟨some 92, _, _, _, _, _⟩) (v := (.bool true)) rfl (by kernel_rfl) (.inl ⟨by rfl, ?_⟩) hHeld ?_; focus (intro w hSw; (try dsimp only at hSw); go_simp; first | done | rfl | (simp [*]; done) | (simp [*]; omega)))
                simp only [PT]
                first | (refine tk 20 (oi := ⟨some 93, _, _, _, _, _⟩) (v := undef) rfl (by kernel_rfl) (.inr ⟨by rfl, rfl⟩) hHeld ?_) | (refine tk 20 (oi := ⟨some 93, _, _, _, _, _⟩) (v := ?_) rfl (by kernel_rfl) (.inl ⟨by rfl, ?_⟩) hHeld ?_; rotate_left; focus (intro w hSw; (try dsimp only at hSw); go_simp; try with_reducible rfl))
                simp only [PT]
                first | (refine tk 21 (oi := ⟨some 94, _, _, _, _, _⟩) (v := undef) rfl (by kernel_rfl) (.inr ⟨by rfl, rfl⟩) hHeld ?_) | (refine tk 21 (oi := ⟨some 94, _, _, _, _, _⟩) (v := ?_) rfl (by kernel_rfl) (.inl ⟨by rfl, ?_⟩) hHeld ?_; rotate_left; focus (intro w hSw; (try dsimp only at hSw); go_simp; try with_reducible rfl))
                simp only [PT]
                first | (refine tk 22 (oi := ⟨some 95, _, _, _, _, _⟩) (v := undef) rfl (by kernel_rfl) (.inr ⟨by rfl, rfl⟩) hHeld ?_) | (refine tk 22 (oi := ⟨some 95, _, _, _, _, _⟩) (v := ?_) rfl (by kernel_rfl) (.inl ⟨by rfl, ?_⟩) hHeld ?_; rotate_left; focus (intro w hSw; (try dsimp only at hSw); go_simp; try with_reducible rfl))
                simp only [PT]
                first | (refine tk 23 (oi := ⟨some 96, _, _, _, _, _⟩) (v := undef) rfl (by kernel_rfl) (.inr ⟨by rfl, rfl⟩) hHeld ?_) | (refine tk 23 (oi := ⟨some 96, _, _, _, _, _⟩) (v := ?_) rfl (by kernel_rfl) (.inl ⟨by rfl, ?_⟩) hHeld ?_; rotate_left; focus (intro w hSw; (try dsimp only at hSw); go_simp; try with_reducible rfl))
                simp only [PT]
                first | (refine tk 24 (oi := ⟨some 97, _, _, _, _, _⟩) (v := undef) rfl (by kernel_rfl) (.inr ⟨by rfl, rfl⟩) hHeld ?_) | (refine tk 24 (oi := ⟨some 97, _, _, _, _, _⟩) (v := ?_) rfl (by kernel_rfl) (.inl ⟨by rfl, ?_⟩) hHeld ?_; rotate_left; focus (intro w hSw; (try dsimp only at hSw); go_simp; try with_reducible rfl))
                simp only [PT]
                first | (refine tk 25 (oi := ⟨some 98, _, _, _, _, _⟩) (v := undef) rfl (by kernel_rfl) (.inr ⟨by rfl, rfl⟩) hHeld ?_) | (refine' tk 25 (oi := ⟨some 98, _, _, _, _, _⟩) (v := _) rfl (by kernel_rfl) (yields_loadC (by rfl) 3 (.tmp 97) rfl b (off + m * 49) rfl (.int .i64 z.kind) (fun _ h => act_kind h.1) Try.underlying3 rfl) hHeld ?_)
                simp only [PT]
                first | (refine tk 26 (oi := ⟨some 99, _, _, _, _, _⟩) (v := undef) rfl (by kernel_rfl) (.inr ⟨by rfl, rfl⟩) hHeld ?_) | (refine' tk 26 (oi := ⟨some 99, _, _, _, _, _⟩) (v := (.bool false)) rfl (by kernel_rfl) (.inl ⟨by rfl, ?_⟩) hHeld ?_; focus (intro w hSw; (try dsimp only at hSw); go_simp; first | done | rfl | (simp [*]; done) | (simp [*]; omega))) | (refine' tk 26 (oi := ⟨some 99, _, _, _, _, _⟩) (v := (.bool true)) rfl (by kernel_rfl) (.inl ⟨by rfl, ?_⟩) hHeld ?_; focus (intro w hSw; (try dsimp only at hSw); go_simp; first | done | rfl | (simp [*]; done) | (simp [*]; omega)))
                simp only [PT]
                first | (refine tk 27 (oi := ⟨some 100, _, _, _, _, _⟩) (v := undef) rfl (by kernel_rfl) (.inr ⟨by rfl, rfl⟩) hHeld ?_) | (refine tk 27 (oi := ⟨some 100, _, _, _, _, _⟩) (v := ?_) rfl (by kernel_rfl) (.inl ⟨by rfl, ?_⟩) hHeld ?_; rotate_left; focus (intro w hSw; (try dsimp only at hSw); go_simp; try with_reducible rfl))
                simp only [PT]
                first | (refine tk 28 (oi := ⟨some 101, _, _, _, _, _⟩) (v := undef) rfl (by kernel_rfl) (.inr ⟨by rfl, rfl⟩) hHeld ?_) | (refine tk 28 (oi := ⟨some 101, _, _, _, _, _⟩) (v := ?_) rfl (by kernel_rfl) (.inl ⟨by rfl, ?_⟩) hHeld ?_; rotate_left; focus (intro w hSw; (try dsimp only at hSw); go_simp; try with_reducible rfl))
                simp only [PT]
                first | (refine tk 29 (oi := ⟨some 102, _, _, _, _, _⟩) (v := undef) rfl (by kernel_rfl) (.inr ⟨by rfl, rfl⟩) hHeld ?_) | (refine tk 29 (oi := ⟨some 102, _, _, _, _, _⟩) (v := ?_) rfl (by kernel_rfl) (.inl ⟨by rfl, ?_⟩) hHeld ?_; rotate_left; focus (intro w hSw; (try dsimp only at hSw); go_simp; try with_reducible rfl))
                simp only [PT]
                first | (refine tk 30 (oi := ⟨some 103, _, _, _, _, _⟩) (v := undef) rfl (by kernel_rfl) (.inr ⟨by rfl, rfl⟩) hHeld ?_) | (refine tk 30 (oi := ⟨some 103, _, _, _, _, _⟩) (v := ?_) rfl (by kernel_rfl) (.inl ⟨by rfl, ?_⟩) hHeld ?_; rotate_left; focus (intro w hSw; (try dsimp only at hSw); go_simp; try with_reducible rfl))
                simp only [PT]
                first | (refine tk 31 (oi := ⟨some 104, _, _, _, _, _⟩) (v := undef) rfl (by kernel_rfl) (.inr ⟨by rfl, rfl⟩) hHeld ?_) | (refine tk 31 (oi := ⟨some 104, _, _, _, _, _⟩) (v := ?_) rfl (by kernel_rfl) (.inl ⟨by rfl, ?_⟩) hHeld ?_; rotate_left; focus (intro w hSw; (try dsimp only at hSw); go_simp; try with_reducible rfl))
                simp only [PT]
                first | (refine tk 32 (oi := ⟨some 105, _, _, _, _, _⟩) (v := undef) rfl (by kernel_rfl) (.inr ⟨by rfl, rfl⟩) hHeld ?_) | (refine' tk 32 (oi := ⟨some 105, _, _, _, _, _⟩) (v := _) rfl (by kernel_rfl) (yieldsIf_load_mid (by rfl) _ _ rfl _ _ rfl (z.fl.v.cells) _ (fun _ h => act_flow h.1) (Try.underlying28) rfl (one_size z.fl)) hHeld ?_)
                simp only [PT]
                refine wpAnyH_ready (rs := [33]) (by kernel_rfl) (by simp) ?_
                refine (AllReadyH.cons (o := ⟨some 106, _, _, _, _, _⟩) rfl (fun K hK => ?_) AllReadyH.nil)
                focus (first | (refine skip_step ?_ ?_; focus (rfl)) | (go_simp; go_must (refine (refRight_any z.fl.v z.fl.ok HZS.out _).mono ?_); rw [hr]; rintro e w5 ⟨rfl, hb__⟩; have hE__ := cU HB bup hb__; replace HB := ck HB hE__; (try replace HR := ck HR hE__); clear hE__ hb__; go_wp2_with fail))
                refine hK.out _ _ ?_ (fun hHeld => ?_)
                focus (exact ⟨HZG.out _ (HB.out.trans (Below.mono bup HB.out.size)), HYG.out _ (HB.out.trans (Below.mono bup HB.out.size))⟩)
                clear hK K
                try simp only [PT]
                first | (refine tk 34 (oi := ⟨some 107, _, _, _, _, _⟩) (v := undef) rfl (by kernel_rfl) (.inr ⟨by rfl, rfl⟩) hHeld ?_) | (refine tk 34 (oi := ⟨some 107, _, _, _, _, _⟩) (v := ?_) rfl (by kernel_rfl) (.inl ⟨by rfl, ?_⟩) hHeld ?_; rotate_left; focus (intro w hSw; (try dsimp only at hSw); go_simp; try with_reducible rfl))
                simp only [PT]
                first | (refine tk 35 (oi := ⟨some 108, _, _, _, _, _⟩) (v := undef) rfl (by kernel_rfl) (.inr ⟨by rfl, rfl⟩) hHeld ?_) | (refine tk 35 (oi := ⟨some 108, _, _, _, _, _⟩) (v := ?_) rfl (by kernel_rfl) (.inl ⟨by rfl, ?_⟩) hHeld ?_; rotate_left; focus (intro w hSw; (try dsimp only at hSw); go_simp; try with_reducible rfl))
                simp only [PT]
                refine tk 36 (oi := ⟨some 109, _, _, _, _, _⟩) (v := ?_) rfl (by kernel_rfl) (.inl ⟨by rfl, ?_⟩) hHeld ?_; rotate_left; focus (intro w hSw; (try dsimp only at hSw); go_simp; try with_reducible rfl)
                simp only [PT]
                refine wpAnyH_done (by kernel_rfl) ?_ _
                go_wp2_with fail
                go_roundw
                case rel => exact ⟨m + 1, by omega, by go_num, Lib.hid (LastI.miss HZ.out HH.out HI.out), Lib.hid (HB.out.trans (Below.mono bup HB.out.size)), Lib.hid (HR.out.keep bup)⟩
                case measure => first | (simp [intOf]; done) | (simp [intOf]; omega)
            · have HD : Hid (false = true ↔ z.fl.v.key = y.fl.v.key) := Lib.hid ⟨fun h => by simp at h, fun h => absurd h hkey⟩
              have HH : Hid (hits z y.fl.v.key = false) := Lib.hid (by unfold hits; rw [decide_eq_false hkey]; rfl)
              clear hkey
              refine wp_region_held_drew (S := fun u__ => u__.rangeAt b (off + m * 49) z.cells ∧ u__.rangeAt b (off + k * 49) y.cells) (by kernel_rfl) ?_ (fun hHeld => ?_)
              focus (exact ⟨HZG.out _ (HB.out.trans (Below.mono bup HB.out.size)), HYG.out _ (HB.out.trans (Below.mono bup HB.out.size))⟩)
              refine tk 0 (oi := ⟨some 73, _, _, _, _, _⟩) (v := ?_) rfl (by kernel_rfl) (.inl ⟨by rfl, ?_⟩) hHeld ?_; rotate_left; focus (intro w hSw; (try dsimp only at hSw); go_simp; try with_reducible rfl)
              simp only [PT]
              refine tk 1 (oi := ⟨some 74, _, _, _, _, _⟩) (v := ?_) rfl (by kernel_rfl) (.inl ⟨by rfl, ?_⟩) hHeld ?_; rotate_left; focus (intro w hSw; (try dsimp only at hSw); go_simp; try with_reducible rfl)
              simp only [PT]
              refine tk 2 (oi := ⟨some 75, _, _, _, _, _⟩) (v := ?_) rfl (by kernel_rfl) (.inl ⟨by rfl, ?_⟩) hHeld ?_; rotate_left; focus (intro w hSw; (try dsimp only at hSw); go_simp; try with_reducible rfl)
              simp only [PT]
              refine tk 3 (oi := ⟨some 76, _, _, _, _, _⟩) (v := ?_) rfl (by kernel_rfl) (.inl ⟨by rfl, ?_⟩) hHeld ?_; rotate_left; focus (intro w hSw; (try dsimp only at hSw); go_simp; try with_reducible rfl)
              simp only [PT]
              refine tk 4 (oi := ⟨some 77, _, _, _, _, _⟩) (v := ?_) rfl (by kernel_rfl) (.inl ⟨by rfl, ?_⟩) hHeld ?_; rotate_left; focus (intro w hSw; (try dsimp only at hSw); go_simp; try with_reducible rfl)
              simp only [PT]
              refine' tk 5 (oi := ⟨some 78, _, _, _, _, _⟩) (v := _) rfl (by kernel_rfl) (yieldsIf_load_mid (by rfl) _ _ rfl _ _ rfl (z.fl.v.key.cells) _ (fun _ h => range_key (act_flow h.1)) (Try.underlying26) rfl (tup_len z.fl)) hHeld ?_
              simp only [PT]
              refine tk 6 (oi := ⟨some 79, _, _, _, _, _⟩) (v := ?_) rfl (by kernel_rfl) (.inl ⟨by rfl, ?_⟩) hHeld ?_; rotate_left; focus (intro w hSw; (try dsimp only at hSw); go_simp; try with_reducible rfl)
              simp only [PT]
              refine tk 7 (oi := ⟨some 80, _, _, _, _, _⟩) (v := ?_) rfl (by kernel_rfl) (.inl ⟨by rfl, ?_⟩) hHeld ?_; rotate_left; focus (intro w hSw; (try dsimp only at hSw); go_simp; try with_reducible rfl)
              simp only [PT]
              refine tk 8 (oi := ⟨some 81, _, _, _, _, _⟩) (v := ?_) rfl (by kernel_rfl) (.inl ⟨by rfl, ?_⟩) hHeld ?_; rotate_left; focus (intro w hSw; (try dsimp only at hSw); go_simp; try with_reducible rfl)
              simp only [PT]
              refine tk 9 (oi := ⟨some 82, _, _, _, _, _⟩) (v := ?_) rfl (by kernel_rfl) (.inl ⟨by rfl, ?_⟩) hHeld ?_; rotate_left; focus (intro w hSw; (try dsimp only at hSw); go_simp; try with_reducible rfl)
              simp only [PT]
              refine tk 10 (oi := ⟨some 83, _, _, _, _, _⟩) (v := ?_) rfl (by kernel_rfl) (.inl ⟨by rfl, ?_⟩) hHeld ?_; rotate_left; focus (intro w hSw; (try dsimp only at hSw); go_simp; try with_reducible rfl)
              simp only [PT]
              refine' tk 11 (oi := ⟨some 84, _, _, _, _, _⟩) (v := _) rfl (by kernel_rfl) (yieldsIf_load_mid (by rfl) _ _ rfl _ _ rfl (y.fl.v.key.cells) _ (fun _ h => range_key (act_flow h.2)) (Try.underlying26) rfl (tup_len y.fl)) hHeld ?_
              simp only [PT]
              refine' tk 12 (oi := ⟨some 85, _, _, _, _, _⟩) (v := _) rfl (by kernel_rfl) (yields_eqT z.fl y.fl _ HD.out (by rfl) (.tmp 78) (.tmp 84) rfl rfl rfl) hHeld ?_
              simp only [PT]
              refine tk 13 (oi := ⟨some 86, _, _, _, _, _⟩) (v := ?_) rfl (by kernel_rfl) (.inl ⟨by rfl, ?_⟩) hHeld ?_; rotate_left; focus (intro w hSw; (try dsimp only at hSw); go_simp; try with_reducible rfl)
              simp only [PT]
              first | (refine tk 14 (oi := ⟨some 87, _, _, _, _, _⟩) (v := undef) rfl (by kernel_rfl) (.inr ⟨by rfl, rfl⟩) hHeld ?_) | (refine tk 14 (oi := ⟨some 87, _, _, _, _, _⟩) (v := ?_) rfl (by kernel_rfl) (.inl ⟨by rfl, ?_⟩) hHeld ?_; rotate_left; focus (intro w hSw; (try dsimp only at hSw); go_simp; try with_reducible rfl))
              simp only [PT]
              first | (refine tk 15 (oi := ⟨some 88, _, _, _, _, _⟩) (v := undef) rfl (by kernel_rfl) (.inr ⟨by rfl, rfl⟩) hHeld ?_) | (refine tk 15 (oi := ⟨some 88, _, _, _, _, _⟩) (v := ?_) rfl (by kernel_rfl) (.inl ⟨by rfl, ?_⟩) hHeld ?_; rotate_left; focus (intro w hSw; (try dsimp only at hSw); go_simp; try with_reducible rfl))
              simp only [PT]
              first | (refine tk 16 (oi := ⟨some 89, _, _, _, _, _⟩) (v := undef) rfl (by kernel_rfl) (.inr ⟨by rfl, rfl⟩) hHeld ?_) | (refine tk 16 (oi := ⟨some 89, _, _, _, _, _⟩) (v := ?_) rfl (by kernel_rfl) (.inl ⟨by rfl, ?_⟩) hHeld ?_; rotate_left; focus (intro w hSw; (try dsimp only at hSw); go_simp; try with_reducible rfl))
              simp only [PT]
              first | (refine tk 17 (oi := ⟨some 90, _, _, _, _, _⟩) (v := undef) rfl (by kernel_rfl) (.inr ⟨by rfl, rfl⟩) hHeld ?_) | (refine tk 17 (oi := ⟨some 90, _, _, _, _, _⟩) (v := ?_) rfl (by kernel_rfl) (.inl ⟨by rfl, ?_⟩) hHeld ?_; rotate_left; focus (intro w hSw; (try dsimp only at hSw); go_simp; try with_reducible rfl))
              simp only [PT]
              first | (refine tk 18 (oi := ⟨some 91, _, _, _, _, _⟩) (v := undef) rfl (by kernel_rfl) (.inr ⟨by rfl, rfl⟩) hHeld ?_) | (refine' tk 18 (oi := ⟨some 91, _, _, _, _, _⟩) (v := _) rfl (by kernel_rfl) (yields_loadC (by rfl) 3 (.tmp 90) rfl b (off + m * 49) rfl (.int .i64 z.kind) (fun _ h => act_kind h.1) Try.underlying3 rfl) hHeld ?_)
              simp only [PT]
              first | (refine tk 19 (oi := ⟨some 92, _, _, _, _, _⟩) (v := undef) rfl (by kernel_rfl) (.inr ⟨by rfl, rfl⟩) hHeld ?_) | (refine' tk 19 (oi := ⟨some 92, _, _, _, _, _⟩) (v := (.bool false)) rfl (by kernel_rfl) (.inl ⟨by rfl, ?_⟩) hHeld ?_; focus (intro w hSw; (try dsimp only at hSw); go_simp; first | done | rfl | (simp [*]; done) | (simp [*]; omega))) | (refine' tk 19 (oi := ⟨some 92, _, _, _, _, _⟩) (v := (.bool true)) rfl (by kernel_rfl) (.inl ⟨by rfl, ?_⟩) hHeld ?_; focus (intro w hSw; (try dsimp only at hSw); go_simp; first | done | rfl | (simp [*]; done) | (simp [*]; omega)))
              simp only [PT]
              first | (refine tk 20 (oi := ⟨some 93, _, _, _, _, _⟩) (v := undef) rfl (by kernel_rfl) (.inr ⟨by rfl, rfl⟩) hHeld ?_) | (refine tk 20 (oi := ⟨some 93, _, _, _, _, _⟩) (v := ?_) rfl (by kernel_rfl) (.inl ⟨by rfl, ?_⟩) hHeld ?_; rotate_left; focus (intro w hSw; (try dsimp only at hSw); go_simp; try with_reducible rfl))
              simp only [PT]
              first | (refine tk 21 (oi := ⟨some 94, _, _, _, _, _⟩) (v := undef) rfl (by kernel_rfl) (.inr ⟨by rfl, rfl⟩) hHeld ?_) | (refine tk 21 (oi := ⟨some 94, _, _, _, _, _⟩) (v := ?_) rfl (by kernel_rfl) (.inl ⟨by rfl, ?_⟩) hHeld ?_; rotate_left; focus (intro w hSw; (try dsimp only at hSw); go_simp; try with_reducible rfl))
              simp only [PT]
              first | (refine tk 22 (oi := ⟨some 95, _, _, _, _, _⟩) (v := undef) rfl (by kernel_rfl) (.inr ⟨by rfl, rfl⟩) hHeld ?_) | (refine tk 22 (oi := ⟨some 95, _, _, _, _, _⟩) (v := ?_) rfl (by kernel_rfl) (.inl ⟨by rfl, ?_⟩) hHeld ?_; rotate_left; focus (intro w hSw; (try dsimp only at hSw); go_simp; try with_reducible rfl))
              simp only [PT]
              first | (refine tk 23 (oi := ⟨some 96, _, _, _, _, _⟩) (v := undef) rfl (by kernel_rfl) (.inr ⟨by rfl, rfl⟩) hHeld ?_) | (refine tk 23 (oi := ⟨some 96, _, _, _, _, _⟩) (v := ?_) rfl (by kernel_rfl) (.inl ⟨by rfl, ?_⟩) hHeld ?_; rotate_left; focus (intro w hSw; (try dsimp only at hSw); go_simp; try with_reducible rfl))
              simp only [PT]
              first | (refine tk 24 (oi := ⟨some 97, _, _, _, _, _⟩) (v := undef) rfl (by kernel_rfl) (.inr ⟨by rfl, rfl⟩) hHeld ?_) | (refine tk 24 (oi := ⟨some 97, _, _, _, _, _⟩) (v := ?_) rfl (by kernel_rfl) (.inl ⟨by rfl, ?_⟩) hHeld ?_; rotate_left; focus (intro w hSw; (try dsimp only at hSw); go_simp; try with_reducible rfl))
              simp only [PT]
              first | (refine tk 25 (oi := ⟨some 98, _, _, _, _, _⟩) (v := undef) rfl (by kernel_rfl) (.inr ⟨by rfl, rfl⟩) hHeld ?_) | (refine' tk 25 (oi := ⟨some 98, _, _, _, _, _⟩) (v := _) rfl (by kernel_rfl) (yields_loadC (by rfl) 3 (.tmp 97) rfl b (off + m * 49) rfl (.int .i64 z.kind) (fun _ h => act_kind h.1) Try.underlying3 rfl) hHeld ?_)
              simp only [PT]
              first | (refine tk 26 (oi := ⟨some 99, _, _, _, _, _⟩) (v := undef) rfl (by kernel_rfl) (.inr ⟨by rfl, rfl⟩) hHeld ?_) | (refine' tk 26 (oi := ⟨some 99, _, _, _, _, _⟩) (v := (.bool false)) rfl (by kernel_rfl) (.inl ⟨by rfl, ?_⟩) hHeld ?_; focus (intro w hSw; (try dsimp only at hSw); go_simp; first | done | rfl | (simp [*]; done) | (simp [*]; omega))) | (refine' tk 26 (oi := ⟨some 99, _, _, _, _, _⟩) (v := (.bool true)) rfl (by kernel_rfl) (.inl ⟨by rfl, ?_⟩) hHeld ?_; focus (intro w hSw; (try dsimp only at hSw); go_simp; first | done | rfl | (simp [*]; done) | (simp [*]; omega)))
              simp only [PT]
              first | (refine tk 27 (oi := ⟨some 100, _, _, _, _, _⟩) (v := undef) rfl (by kernel_rfl) (.inr ⟨by rfl, rfl⟩) hHeld ?_) | (refine tk 27 (oi := ⟨some 100, _, _, _, _, _⟩) (v := ?_) rfl (by kernel_rfl) (.inl ⟨by rfl, ?_⟩) hHeld ?_; rotate_left; focus (intro w hSw; (try dsimp only at hSw); go_simp; try with_reducible rfl))
              simp only [PT]
              first | (refine tk 28 (oi := ⟨some 101, _, _, _, _, _⟩) (v := undef) rfl (by kernel_rfl) (.inr ⟨by rfl, rfl⟩) hHeld ?_) | (refine tk 28 (oi := ⟨some 101, _, _, _, _, _⟩) (v := ?_) rfl (by kernel_rfl) (.inl ⟨by rfl, ?_⟩) hHeld ?_; rotate_left; focus (intro w hSw; (try dsimp only at hSw); go_simp; try with_reducible rfl))
              simp only [PT]
              first | (refine tk 29 (oi := ⟨some 102, _, _, _, _, _⟩) (v := undef) rfl (by kernel_rfl) (.inr ⟨by rfl, rfl⟩) hHeld ?_) | (refine tk 29 (oi := ⟨some 102, _, _, _, _, _⟩) (v := ?_) rfl (by kernel_rfl) (.inl ⟨by rfl, ?_⟩) hHeld ?_; rotate_left; focus (intro w hSw; (try dsimp only at hSw); go_simp; try with_reducible rfl))
              simp only [PT]
              first | (refine tk 30 (oi := ⟨some 103, _, _, _, _, _⟩) (v := undef) rfl (by kernel_rfl) (.inr ⟨by rfl, rfl⟩) hHeld ?_) | (refine tk 30 (oi := ⟨some 103, _, _, _, _, _⟩) (v := ?_) rfl (by kernel_rfl) (.inl ⟨by rfl, ?_⟩) hHeld ?_; rotate_left; focus (intro w hSw; (try dsimp only at hSw); go_simp; try with_reducible rfl))
              simp only [PT]
              first | (refine tk 31 (oi := ⟨some 104, _, _, _, _, _⟩) (v := undef) rfl (by kernel_rfl) (.inr ⟨by rfl, rfl⟩) hHeld ?_) | (refine tk 31 (oi := ⟨some 104, _, _, _, _, _⟩) (v := ?_) rfl (by kernel_rfl) (.inl ⟨by rfl, ?_⟩) hHeld ?_; rotate_left; focus (intro w hSw; (try dsimp only at hSw); go_simp; try with_reducible rfl))
              simp only [PT]
              first | (refine tk 32 (oi := ⟨some 105, _, _, _, _, _⟩) (v := undef) rfl (by kernel_rfl) (.inr ⟨by rfl, rfl⟩) hHeld ?_) | (refine' tk 32 (oi := ⟨some 105, _, _, _, _, _⟩) (v := _) rfl (by kernel_rfl) (yieldsIf_load_mid (by rfl) _ _ rfl _ _ rfl (z.fl.v.cells) _ (fun _ h => act_flow h.1) (Try.underlying28) rfl (one_size z.fl)) hHeld ?_)
              simp only [PT]
              refine wpAnyH_ready (rs := [33]) (by kernel_rfl) (by simp) ?_
              refine (AllReadyH.cons (o := ⟨some 106, _, _, _, _, _⟩) rfl (fun K hK => ?_) AllReadyH.nil)
              focus (first | (refine skip_step ?_ ?_; focus (rfl)) | (go_simp; go_must (refine (refRight_any z.fl.v z.fl.ok HZS.out _).mono ?_); rw [hr]; rintro e w5 ⟨rfl, hb__⟩; have hE__ := cU HB bup hb__; replace HB := ck HB hE__; (try replace HR := ck HR hE__); clear hE__ hb__; go_wp2_with fail))
              refine hK.out _ _ ?_ (fun hHeld => ?_)
              focus (exact ⟨HZG.out _ (HB.out.trans (Below.mono bup HB.out.size)), HYG.out _ (HB.out.trans (Below.mono bup HB.out.size))⟩)
              clear hK K
              try simp only [PT]
              first | (refine tk 34 (oi := ⟨some 107, _, _, _, _, _⟩) (v := undef) rfl (by kernel_rfl) (.inr ⟨by rfl, rfl⟩) hHeld ?_) | (refine tk 34 (oi := ⟨some 107, _, _, _, _, _⟩) (v := ?_) rfl (by kernel_rfl) (.inl ⟨by rfl, ?_⟩) hHeld ?_; rotate_left; focus (intro w hSw; (try dsimp only at hSw); go_simp; try with_reducible rfl))
              simp only [PT]
              first | (refine tk 35 (oi := ⟨some 108, _, _, _, _, _⟩) (v := undef) rfl (by kernel_rfl) (.inr ⟨by rfl, rfl⟩) hHeld ?_) | (refine tk 35 (oi := ⟨some 108, _, _, _, _, _⟩) (v := ?_) rfl (by kernel_rfl) (.inl ⟨by rfl, ?_⟩) hHeld ?_; rotate_left; focus (intro w hSw; (try dsimp only at hSw); go_simp; try with_reducible rfl))
              simp only [PT]
              refine tk 36 (oi := ⟨some 109, _, _, _, _, _⟩) (v := ?_) rfl (by kernel_rfl) (.inl ⟨by rfl, ?_⟩) hHeld ?_; rotate_left; focus (intro w hSw; (try dsimp only at hSw); go_simp; try with_reducible rfl)
              simp only [PT]
              refine wpAnyH_done (by kernel_rfl) ?_ _
              go_wp2_with fail
              go_roundw
              case rel => exact ⟨m + 1, by omega, by go_num, Lib.hid (LastI.miss HZ.out HH.out HI.out), Lib.hid (HB.out.trans (Below.mono bup HB.out.size)), Lib.hid (HR.out.keep bup)⟩
              case measure => first | (simp [intOf]; done) | (simp [intOf]; omega)

      have hlt : k < n := by omega
      obtain ⟨b, off, rfl, hbl, hat⟩ := HV.out.at (by have := HLN.out; omega)
      clear hat
      obtain ⟨x, hx⟩ : ∃ x, x = xs[k]'(by have := HLN.out; omega) := ⟨_, rfl⟩
      have HXG : Hid (∀ w', Below w.heap.size w w' → w'.rangeAt b (off + k * 49) x.cells) := Lib.hid (fun w' hb => by rw [hx]; exact (HV.out.below hb).get k _)
      have HTK : Hid (xs.take (k + 1) = xs.take k ++ [x]) := Lib.hid (by rw [hx]; exact take_snoc xs k _)
      have HLT : Hid ((xs.take k).length = k) := Lib.hid (by rw [List.length_take]; have := HLN.out; omega)
      have HSZ : Hid (x.fl.v.name.size ≤ 140737488351232) := Lib.hid (by rw [hx]; have := HF.out.2 _ (List.getElem_mem (show k < xs.length by have := HLN.out; omega)); omega)
      have h80 : k < 80 := by have := HF.out.1; have := HLN.out; omega
      clear hx
      by_cases k0 : x.kind = 0
      · have k2 : ¬ x.kind = 2 := by omega
        go_wp2_with (first
          | ((with_reducible refine sl 38 ?_); go_must (refine wpL_loadC rfl 3 (.tmp 37) rfl b (off + k * 49) rfl (.int .i64 x.kind) (act_kind (HXG.out _ HB.out)) Try.underlying3 rfl ?_); simp only [PT])
          | ((with_reducible refine sl 51 ?_); go_must (refine wpL_loadC rfl 3 (.tmp 50) rfl b (off + k * 49) rfl (.int .i64 x.kind) (act_kind (HXG.out _ HB.out)) Try.underlying3 rfl ?_); simp only [PT])
          | ((with_reducible refine sl 45 ?_); go_must (refine wpL_load rfl 28 (.tmp 44) rfl b (off + k * 49 + 1) rfl x.fl.v.cells _ (act_flow (HXG.out _ HB.out)) Try.underlying28 rfl (one_size x.fl) ?_); simp only [PT])
          | (go_at_call 21; (with_reducible show Calls _ _ #[_, .agg x.fl.v.cells.toArray] _ _); go_must (refine (put_all p q kb 80 S x.fl HSZ.out _ (HR.out.keep bup)).mono ?_); rintro e w4 ⟨gone, left, err, S', rfl, hr, hb__, hps⟩; have HBn := Lib.hid (But.below (p := p) (q := q) hb__ (HB.out.trans (Below.mono bup HB.out.size)) HP.out HQ.out (Nat.le_refl _)); clear HB hb__; have HB := HBn; clear HBn; have HPS := Lib.hid hps; have HRn := Lib.hid hr; clear hr hps))
        go_roundw
        case rel => exact ⟨k + 1, S', by omega, by go_num, HB, HRn, Lib.hid (by
          rw [HTK.out]
          rcases HPS.out with ⟨hr, _, _, _, rfl⟩ | ⟨hr, _, hp⟩
          · exact HS.out.none x (fun _ => hr) k2
          · exact HS.out.put HR.out.good HRn.out.good x k0 hr (by rw [HLT.out]; exact h80) hp)⟩
        case measure => first | (simp [intOf]; done) | (simp [intOf]; omega)
      by_cases k2 : x.kind = 2
      ·
        go_wp2_with (first
          | ((with_reducible refine sl 38 ?_); go_must (refine wpL_loadC rfl 3 (.tmp 37) rfl b (off + k * 49) rfl (.int .i64 x.kind) (act_kind (HXG.out _ HB.out)) Try.underlying3 rfl ?_); simp only [PT])
          | ((with_reducible refine sl 51 ?_); go_must (refine wpL_loadC rfl 3 (.tmp 50) rfl b (off + k * 49) rfl (.int .i64 x.kind) (act_kind (HXG.out _ HB.out)) Try.underlying3 rfl ?_); simp only [PT])
          | ((with_reducible refine sl 59 ?_); go_must (refine wpL_load rfl 26 (.tmp 58) rfl b (off + k * 49 + 1) rfl x.fl.v.key.cells _ (range_key (act_flow (HXG.out _ HB.out))) Try.underlying26 rfl (tup_len x.fl) ?_); simp only [PT])
          | (go_at_call 23; (with_reducible show Calls _ _ #[_, .agg x.fl.v.key.cells.toArray] _ _); go_must (refine (drop_rep p q kb 80 S x.fl.v.key x.fl.ok.1 x.fl.ok.2.1 _ (HR.out.keep bup)).mono ?_); rintro e w4 ⟨S', rfl, hr, hs, hb__⟩; have HBn := Lib.hid (But.below (p := p) (q := q) hb__ (HB.out.trans (Below.mono bup HB.out.size)) HP.out HQ.out (Nat.le_refl _)); clear HB hb__; have HB := HBn; clear HBn; have HPS := Lib.hid hs; have HRn := Lib.hid hr; clear hr hs))
        go_roundw
        case rel => exact ⟨k + 1, S', by omega, by go_num, HB, HRn, Lib.hid (by
          rw [HTK.out]
          exact HS.out.drop HR.out.good HRn.out.good x k2 HPS.out)⟩
        case measure => first | (simp [intOf]; done) | (simp [intOf]; omega)
      ·
        go_wp2_with (first
          | ((with_reducible refine sl 38 ?_); go_must (refine wpL_loadC rfl 3 (.tmp 37) rfl b (off + k * 49) rfl (.int .i64 x.kind) (act_kind (HXG.out _ HB.out)) Try.underlying3 rfl ?_); simp only [PT])
          | ((with_reducible refine sl 51 ?_); go_must (refine wpL_loadC rfl 3 (.tmp 50) rfl b (off + k * 49) rfl (.int .i64 x.kind) (act_kind (HXG.out _ HB.out)) Try.underlying3 rfl ?_); simp only [PT]))
        go_roundw
        case rel => exact ⟨k + 1, S, by omega, by go_num, HB, HR, Lib.hid (by
          rw [HTK.out]
          exact HS.out.none x (fun h => absurd h k0) k2)⟩
        case measure => first | (simp [intOf]; done) | (simp [intOf]; omega)
end Go.Proofs.Ytgpdlhbndoeldaa
