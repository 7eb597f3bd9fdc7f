/-
  Joined by program (merge.py): Flo18, Flo19, Flo20, Flo21.
-/
import Derived.Test.YtgpdlhbndoeldaaC5
/-
  Chapter 21: Drop of what is there: walked.
-/
namespace Go.Proofs.Ytgpdlhbndoeldaa
open Go.RowKit Go.Sort
set_option linter.unusedVariables false
set_option linter.unusedSimpArgs false
set_option maxRecDepth 100000
set_option maxHeartbeats 16000000

theorem dist_int {n a b : Nat} (ha : a < n) (hb : b < n) : ((b : Int) - (a : Int) + (n : Int)).tmod (n : Int) = ((dist n a b : Nat) : Int) := by
  unfold dist
  rw [Int.tmod_eq_emod_of_nonneg (by omega)]
  have : (b : Int) - (a : Int) + (n : Int) = ((b + n - a : Nat) : Int) := by omega
  rw [this]
  rfl
theorem one_int (n a : Nat) (h : 0 < n) : ((a : Int) + 1) % (n : Int) = (((a + 1) % n : Nat) : Int) := by push_cast; rfl
theorem built_slot0 : Try.prog.built 79 [] = some zeroS.cells.toArray := by kernel_rfl
/-- what Drop leaves -/
def Dropped (p q : Nat) (kb : List UInt8) (room cnt : Nat) (S : List Slt) (f : FloW) (w w' : World) : Prop :=
  ∃ S', Tb w' p q kb room (cnt - 1) S' ∧ Good kb S' ∧ S'.length = S.length ∧ (flowsS S).Perm (f :: flowsS S') ∧ But p q w w'
theorem drop_some (p q : Nat) (hpq : p ≠ q) (kb : List UInt8) (room cnt : Nat) (S : List Slt) (f : FloW) (w : World) (ht : Tb w p q kb room cnt S) (g : Good kb S) (hcnt : cnt = (flowsS S).length) (hlt : (flowsS S).length < S.length) (hf : f ∈ flowsS S) :
    Calls Try.prog 23 #[.pointer (some ⟨p, 0, none⟩), .agg f.v.key.cells.toArray] w fun e w' => e = .returned (.bool true) ∧ Dropped p q kb room cnt S f w w' := by
  have HB := Lib.hid (Below.refl w.heap.size w)
  have HT := Lib.hid ht
  have HO := Lib.hid (And.intro g (And.intro hlt hf))
  have HC := Lib.hid hcnt
  have hc1 : 1 ≤ cnt := by rw [hcnt]; exact List.length_pos_of_mem hf
  have hc2 : cnt ≤ 8192 := by rw [hcnt]; exact Nat.le_trans (Nat.le_of_lt hlt) ht.hn
  have HI1 : Hid ((Try.prog.info? 26).map (·.size) = some f.v.key.cells.length) := Lib.hid (by rw [Tup.length f.ok.1]; exact tup_size)
  obtain ⟨n, hn⟩ : ∃ n, n = S.length := ⟨_, rfl⟩
  have hn0 : 0 < n := by rw [hn]; exact ht.h0
  have hn1 : n ≤ 8192 := by rw [hn]; exact ht.hn
  have HN := Lib.hid hn
  have e4 : ((n : Int) == 0) = false := by simp; omega
  have e5 : ¬ n = 0 := by omega
  clear ht g hlt hf hcnt hn
  go_enter Try.func23, Try.ntmps23
  go_wp2_with (first
    | ((with_reducible refine sl 3 ?_); go_must (refine wpL_boxG rfl 26 (.tmp 1) rfl f.v.key.cells.toArray rfl ?_); intro w1 g3 he__ le_g3 lt_g3 hg__ hb__; have HG3 := Lib.hid hg__; have hE__ := cU HB bup hb__; replace HB := ck HB hE__; replace HT := ck HT hE__; clear hE__; clear hg__ hb__ he__; simp only [PT])
    | ((with_reducible refine sl 13 ?_); go_must (refine wpL_load rfl 26 (.tmp 3) rfl g3 0 rfl f.v.key.cells _ (range_block HG3.out) Try.underlying26 rfl HI1.out ?_); simp only [PT])
    | (go_at_call 20; go_must (refine (get_some p q kb room cnt S f _ HT.out HO.out.1 HO.out.2.1 HO.out.2.2).mono ?_); rintro e w2 ⟨rfl, hb2⟩; have hE__ := cU HB bup hb2; replace HB := ck HB hE__; replace HT := ck HT hE__; replace HG3 := ck HG3 hE__; clear hE__; clear hb2)
    | ((with_reducible refine sl 5 ?_); go_must (refine wpL_newR rfl rfl 28 rfl (.tmp 5) (.tmp 15) rfl f.v.cells.toArray zeroF.cells.toArray (by rw [List.size_toArray, FloW.length]; exact flo_info) (by rw [List.size_toArray, List.size_toArray, FloW.length]; exact Flo.length zeroF_ok) (flo_one _) (fun _ => rfl) (fun _ => rfl) ?_); intro w3 hg__ hb__; have hE__ := cU HB bup hb__; replace HB := ck HB hE__; replace HT := ck HT hE__; replace HG3 := ck HG3 hE__; clear hE__; clear hg__ hb__; have HCL3 := Lib.hid (Tb.cells HT.out); have ltp3 := lt_of_block HT.out.hp; simp only [PT])
    | ((with_reducible refine sl 22 ?_); go_must (refine wpL_loadF rfl 67 (.tmp 21) rfl p 18 rfl (.slice (some ⟨q, 0, none⟩) n n) HT.out.hp (by rw [HN.out, List.getElem?_toArray]; exact (tabC_at HT.out.hk room cnt q S.length).2.2.2) Try.underlying67 rfl ?_); simp only [PT])
    | ((with_reducible refine sl 25 ?_); go_must (refine wpL_load rfl 26 (.tmp 3) rfl g3 0 rfl f.v.key.cells _ (range_block HG3.out) Try.underlying26 rfl HI1.out ?_); simp only [PT])
    | (go_at_call 40; go_must (refine (find_some p q kb room cnt S f _ HT.out HO.out.1 HO.out.2.1 HO.out.2.2).mono ?_); rintro e w4 ⟨h0, rfl, hs0, hb4⟩; have hE__ := cU HB bup hb4; replace HB := ck HB hE__; replace HT := ck HT hE__; clear hE__; have HS0 := Lib.hid hs0; have hh0 : h0 < n := (by rw [HN.out]; exact lt_of_some hs0); have e1 : IntKind.i64.wrap ((h0 : Int) + 1) = (h0 : Int) + 1 := (by rw [IntKind.wrap_i64]; omega); clear hb4 hs0))
  have hff := first_free (S := S) (h0 := h0) (by rw [← HN.out]; exact hh0) (fun s hs => by rw [HS0.out] at hs; cases hs; rfl) (free_of_len HO.out.2.1)
  obtain ⟨dz, z1, z2, z3, z4⟩ := hff
  have hz2 : dz < n := by rw [HN.out]; exact z2
  have HZ4 := Lib.hid z4
  have HH0 := Lib.hid (HO.out.1.hole (h0 := h0) (by rw [← HN.out]; exact hh0) z1 z2 z3)
  have HF0 : Hid ((flowsS S).Perm (f :: flowsS (S.set h0 zeroS))) := Lib.hid (by
    have h := flowsS_self S h0 (by rw [← HN.out]; exact hh0)
    have e : S[h0]'(by rw [← HN.out]; exact hh0) = ⟨true, f⟩ := by have := HS0.out; rw [List.getElem?_eq_getElem (by rw [← HN.out]; exact hh0)] at this; exact Option.some.inj this
    rw [e] at h
    exact h)
  have hW := HB.out.size
  have ltp := lt_of_block HT.out.hp
  have ltq := lt_of_block HT.out.hq
  clear z2 z3 z4 e1
  go_loopw [8, 9, 10] (fun hv iv fv wr => ∃ (d h : Nat) (Sc : List Slt), 1 ≤ d ∧ d ≤ dz ∧ hv = .int .i64 (h : Int) ∧ iv = .int .i64 (((h0 + d) % n : Nat) : Int) ∧ Sc.length = n ∧ Hid (Hole kb (Sc.set h zeroS) h0 dz d h) ∧ Hid ((flowsS (Sc.set h zeroS)).Perm (flowsS (S.set h0 zeroS))) ∧ Hid (∀ d', d ≤ d' → d' ≤ dz → ∀ t : Slt, Sc[(h0 + d') % n]? = some t → S[(h0 + d') % n]? = some t) ∧ Hid (Tb wr p q kb room cnt Sc) ∧ Hid (w4.grownBy wr (some q)))
    (fun _ i _ _ => ((h0 + dz) % n + n - (intOf i).toNat) % n)
  case atStart =>
    exact ⟨1, h0, S, Nat.le_refl _, z1, rfl, congrArg (Value.int .i64) (one_int n h0 hn0), HN.out.symm, HH0, Lib.hid (List.Perm.refl _), Lib.hid (fun _ _ _ t ht => ht), HT, Lib.hid ⟨rfl, rfl, rfl, Nat.le_refl _, fun _ _ _ => rfl⟩⟩
  case round =>
    obtain ⟨d, h, Sc, hd1, hdz, rfl, rfl, hSc, HHole, HFl, HSam, HTc, HGr⟩ := hrel
    obtain ⟨i, hi⟩ : ∃ i, i = (h0 + d) % n := ⟨_, rfl⟩
    have hil : i < n := by rw [hi]; exact Nat.mod_lt _ hn0
    have HI := Lib.hid hi
    rw [← hi]
    have hilS : i < Sc.length := by rw [hSc]; exact hil
    obtain ⟨c0, c1, c2, c3⟩ := Tb.slot HTc.out i hilS
    obtain ⟨s, hs⟩ : ∃ s, s = Sc[i] := ⟨_, rfl⟩
    rw [← hs] at c0 c1 c2 c3
    have HSI : Hid (Sc[i]? = some s) := Lib.hid (by rw [hs]; exact List.getElem?_eq_getElem hilS)
    have HSC := Lib.hid hSc
    have hhl : h < n := by have := lt_of_some HHole.out.hh; rwa [List.length_set, hSc] at this
    have hih : i ≠ h := by
      have h1 := HHole.out.hd
      rw [List.length_set, hSc] at h1
      intro e
      rw [← e, hi, dist_of hh0 (by omega)] at h1
      omega
    have hcell : wr.cell? ⟨p, 18, none⟩ = some (.slice (some ⟨q, 0, none⟩) n n) := by rw [← hSc]; exact (Tb.cells HTc.out).2.2.2
    have ltpr := lt_of_block HTc.out.hp
    have ltqr := lt_of_block HTc.out.hq
    have HC3 := Lib.hid c3
    have HC1 := Lib.hid c1
    have HIK : Hid ((Try.prog.info? 26).map (·.size) = some s.f.v.key.cells.length) := Lib.hid (by rw [Tup.length s.f.ok.1]; exact tup_size)
    have HISl : Hid ((Try.prog.info? 79).map (·.size) = some s.cells.length) := Lib.hid (by rw [Slt.length]; exact slt_size)
    have HCEL := Lib.hid hcell
    have hilI : (i : Int) < n := by omega
    have hhlI : (h : Int) < n := by omega
    clear hi hs hSc c1 c2 c3 hilS
    rcases Nat.lt_or_ge d dz with hdd | hdd
    · -- used
      have hsu : s.used = true := by
        have h1 := HSam.out d (Nat.le_refl _) (by omega) s (by rw [← HI.out]; exact HSI.out)
        rw [HN.out] at h1
        exact HZ4.out d hd1 hdd s h1
      rw [hsu] at c0
      have HU := Lib.hid hsu
      clear hsu
      obtain ⟨H, hH⟩ : ∃ H, H = homeN kb s.f.v.key n := ⟨_, rfl⟩
      have hHl : H < n := by rw [hH]; exact homeN_lt hn0
      obtain ⟨D, hD⟩ : ∃ D, D = dist n H i := ⟨_, rfl⟩
      obtain ⟨E, hE⟩ : ∃ E, E = dist n h i := ⟨_, rfl⟩
      have hDl : D < n := by rw [hD]; exact dist_lt hn0
      have hEl : E < n := by rw [hE]; exact dist_lt hn0
      have f1 := dist_int hHl hil
      rw [← hD] at f1
      have f2 := dist_int hhl hil
      rw [← hE] at f2
      have f3 : IntKind.i64.wrap ((i : Int) - (H : Int)) = (i : Int) - (H : Int) := by rw [IntKind.wrap_i64]; omega
      have f4 : IntKind.i64.wrap ((i : Int) - (H : Int) + (n : Int)) = (i : Int) - (H : Int) + (n : Int) := by rw [IntKind.wrap_i64]; omega
      have f5 : IntKind.i64.wrap ((i : Int) - (h : Int)) = (i : Int) - (h : Int) := by rw [IntKind.wrap_i64]; omega
      have f6 : IntKind.i64.wrap ((i : Int) - (h : Int) + (n : Int)) = (i : Int) - (h : Int) + (n : Int) := by rw [IntKind.wrap_i64]; omega
      have f7 : IntKind.i64.wrap (D : Int) = (D : Int) := by rw [IntKind.wrap_i64]; omega
      have f8 : IntKind.i64.wrap (E : Int) = (E : Int) := by rw [IntKind.wrap_i64]; omega
      have f9 : IntKind.i64.wrap ((i : Int) + 1) = (i : Int) + 1 := by rw [IntKind.wrap_i64]; omega
      have HH := Lib.hid hH
      have HD := Lib.hid hD
      have HE := Lib.hid hE
      have HSTEP : Hid (((i : Int) + 1) % (n : Int) = (((h0 + (d + 1)) % n : Nat) : Int)) := Lib.hid (by rw [one_int n i hn0, HI.out, step_mod hn0])
      have HA : Hid ((Sc.set h zeroS)[i]? = some s) := Lib.hid (by rw [List.getElem?_set_ne (Ne.symm hih)]; exact HSI.out)
      have HHM : Hid (hmS kb (Sc.set h zeroS).length s = H) := Lib.hid (by rw [List.length_set, HSC.out]; exact HH.out.symm)
      have HIA : Hid (i = (h0 + d) % (Sc.set h zeroS).length) := Lib.hid (by rw [List.length_set, HSC.out]; exact HI.out)
      clear hH hD hE
      by_cases hfar : E ≤ D
      · have hfi : (E : Int) ≤ (D : Int) := by omega
        have HMV := Lib.hid (HHole.out.move hdd HIA.out HA.out HU.out (by rw [HHM.out, List.length_set, HSC.out, ← HD.out, ← HE.out]; exact hfar))
        have HMF := Lib.hid ((HHole.out.flows HA.out HU.out hih).trans HFl.out)
        have hset : ((Sc.set h zeroS).set h s).set i zeroS = (Sc.set h s).set i zeroS := by rw [List.set_set]
        rw [hset] at HMV HMF
        have hcs : h < Sc.length := by rw [HSC.out]; exact hhl
        clear hfar hset
        go_wp2_with (first
          | ((with_reducible refine sl 53 ?_); go_must (refine wpL_load rfl 26 (.tmp 52) rfl q (i * 42 + 1) rfl s.f.v.key.cells _ HC3.out Try.underlying26 rfl HIK.out ?_); simp only [PT])
          | (go_at_call 42; go_must (refine (home_any p q kb room cnt Sc s.f.v.key s.f.ok.1 _ HTc.out).mono ?_); rintro e w6 ⟨rfl, hb6⟩; rw [HSC.out, ← HH.out]; have HT6 := Lib.hid (HTc.out.keep hb6); have HGr6 : Hid (w4.grownBy w6 (some q)) := Lib.hid ⟨hb6.os.trans HGr.out.os, hb6.tape.trans HGr.out.tape, hb6.output.trans HGr.out.output, Nat.le_trans HGr.out.size hb6.size, fun k hk hne => (hb6.block k (Nat.lt_of_lt_of_le hk HGr.out.size)).trans (HGr.out.block k hk hne)⟩; have hc6 := (hb6.cell (p := ⟨p, 18, none⟩) ltpr).trans HCEL.out; have HC16 := Lib.hid (range_below HC1.out ltqr hb6); clear hb6))
        have HC18 := Lib.hid hc6
        have lt6p := lt_of_block HT6.out.hp
        have lt6q := lt_of_block HT6.out.hq
        have HE6 := Lib.hid (Below.refl w6.heap.size w6)
        refine wp_region_held_drew (S := fun v => v.cell? ⟨p, 18, none⟩ = some (.slice (some ⟨q, 0, none⟩) n n) ∧ v.rangeAt q (i * 42) s.cells) (by kernel_rfl) ?_ (fun hHeld => ?_)
        focus (first | exact ⟨((HE6.out.trans (Below.mono bup HE6.out.size)).cell (p := ⟨p, 18, none⟩) lt6p).trans HC18.out, range_below HC16.out lt6q (HE6.out.trans (Below.mono bup HE6.out.size))⟩ | exact ⟨((show Below w7.heap.size w7 _ from bup).cell (p := ⟨p, 18, none⟩) lt7p).trans HC187.out, range_below HC17.out lt7q (show Below w7.heap.size w7 _ from bup)⟩)
        refine tk 0 (oi := ⟨some 69, _, _, _, _, _⟩) (v := ?_) rfl (by kernel_rfl) (.inl ⟨by rfl, ?_⟩) hHeld ?_; rotate_left; focus (intro w hSw; (try dsimp only at hSw); go_simp; try with_reducible rfl)
        simp only [PT]
        refine tk 1 (oi := ⟨some 70, _, _, _, _, _⟩) (v := ?_) rfl (by kernel_rfl) (.inl ⟨by rfl, ?_⟩) hHeld ?_; rotate_left; focus (intro w hSw; (try dsimp only at hSw); go_simp; try with_reducible rfl)
        simp only [PT]
        refine tk 2 (oi := ⟨some 71, _, _, _, _, _⟩) (v := ?_) rfl (by kernel_rfl) (.inl ⟨by rfl, ?_⟩) hHeld ?_; rotate_left; focus (intro w hSw; (try dsimp only at hSw); go_simp; try with_reducible rfl)
        simp only [PT]
        refine tk 3 (oi := ⟨some 72, _, _, _, _, _⟩) (v := ?_) rfl (by kernel_rfl) (.inl ⟨by rfl, ?_⟩) hHeld ?_; rotate_left; focus (intro w hSw; (try dsimp only at hSw); go_simp; try with_reducible rfl)
        simp only [PT]
        refine tk 4 (oi := ⟨some 73, _, _, _, _, _⟩) (v := ?_) rfl (by kernel_rfl) (.inl ⟨by rfl, ?_⟩) hHeld ?_; rotate_left; focus (intro w hSw; (try dsimp only at hSw); go_simp; try with_reducible rfl)
        simp only [PT]
        refine tk 5 (oi := ⟨some 74, _, _, _, _, _⟩) (v := ?_) rfl (by kernel_rfl) (.inl ⟨by rfl, ?_⟩) hHeld ?_; rotate_left; focus (intro w hSw; (try dsimp only at hSw); go_simp; try with_reducible rfl)
        simp only [PT]
        refine tk 6 (oi := ⟨some 75, _, _, _, _, _⟩) (v := ?_) rfl (by kernel_rfl) (.inl ⟨by rfl, ?_⟩) hHeld ?_; rotate_left; focus (intro w hSw; (try dsimp only at hSw); go_simp; try with_reducible rfl)
        simp only [PT]
        refine tk 7 (oi := ⟨some 76, _, _, _, _, _⟩) (v := ?_) rfl (by kernel_rfl) (.inl ⟨by rfl, ?_⟩) hHeld ?_; rotate_left; focus (intro w hSw; (try dsimp only at hSw); go_simp; try with_reducible rfl)
        simp only [PT]
        refine tk 8 (oi := ⟨some 77, _, _, _, _, _⟩) (v := ?_) rfl (by kernel_rfl) (.inl ⟨by rfl, ?_⟩) hHeld ?_; rotate_left; focus (intro w hSw; (try dsimp only at hSw); go_simp; try with_reducible rfl)
        simp only [PT]
        refine tk 9 (oi := ⟨some 78, _, _, _, _, _⟩) (v := ?_) rfl (by kernel_rfl) (.inl ⟨by rfl, ?_⟩) hHeld ?_; rotate_left; focus (intro w hSw; (try dsimp only at hSw); go_simp; try with_reducible rfl)
        simp only [PT]
        refine tk 10 (oi := ⟨some 79, _, _, _, _, _⟩) (v := ?_) rfl (by kernel_rfl) (.inl ⟨by rfl, ?_⟩) hHeld ?_; rotate_left; focus (intro w hSw; (try dsimp only at hSw); go_simp; try with_reducible rfl)
        simp only [PT]
        refine' tk 11 (oi := ⟨some 80, _, _, _, _, _⟩) (v := _) rfl (by kernel_rfl) (yieldsIf_load_mid (by rfl) _ _ rfl _ _ rfl (s.cells) _ (fun v hv => hv.2) (Try.underlying79) rfl (HISl.out)) hHeld ?_
        simp only [PT]
        refine tk 12 (oi := ⟨some 81, _, _, _, _, _⟩) (v := ?_) rfl (by kernel_rfl) (.inl ⟨by rfl, ?_⟩) hHeld ?_; rotate_left; focus (intro w hSw; (try dsimp only at hSw); go_simp; try with_reducible rfl)
        simp only [PT]
        refine wpAnyH_ready (rs := [13]) (by kernel_rfl) (by simp) ?_
        refine (AllReadyH.cons (o := ⟨none, _, _, _, _, _⟩) rfl (fun K hK => ?_) AllReadyH.nil)
        (go_must (refine step_storeSlot rfl (.tmp 81) (.tmp 80) rfl (HT6.out.keep bup) hpq h hcs s rfl rfl ?_); intro w7 hs__ hr__; have HT7 := Lib.hid hs__; have lt7p := lt_of_block HT7.out.hp; have lt7q := lt_of_block HT7.out.hq; have hil7 : i < (Sc.set h s).length := (by rw [List.length_set, HSC.out]; exact hil); have HC17 : Hid (w7.rangeAt q (i * 42) s.cells) := Lib.hid (by have := (Tb.slot HT7.out i hil7).2.1; rw [List.getElem_set_ne (Ne.symm hih)] at this; have hsi := HSI.out; rw [List.getElem?_eq_getElem (by rw [HSC.out]; exact hil)] at hsi; rwa [Option.some.inj hsi] at this); have HC187 : Hid (w7.cell? ⟨p, 18, none⟩ = some (.slice (some ⟨q, 0, none⟩) n n)) := Lib.hid (by have := (Tb.cells HT7.out).2.2.2; rwa [List.length_set, HSC.out] at this); have HGr7 : Hid (w4.grownBy w7 (some q)) := Lib.hid ⟨hr__.os.trans ((show Below w6.heap.size w6 _ from bup).os.trans HGr6.out.os), hr__.tape.trans ((show Below w6.heap.size w6 _ from bup).tape.trans HGr6.out.tape), hr__.output.trans ((show Below w6.heap.size w6 _ from bup).output.trans HGr6.out.output), Nat.le_trans HGr6.out.size (Nat.le_trans (bsz bup) hr__.size), fun k hk hne => (hr__.block k (Nat.lt_of_lt_of_le hk (Nat.le_trans HGr6.out.size (bsz bup))) hne).trans (((show Below w6.heap.size w6 _ from bup).block k (Nat.lt_of_lt_of_le hk HGr6.out.size)).trans (HGr6.out.block k hk hne))⟩; clear hs__ hr__)
        refine hK.out _ _ ?_ (fun hHeld => ?_)
        focus (first | exact ⟨((HE6.out.trans (Below.mono bup HE6.out.size)).cell (p := ⟨p, 18, none⟩) lt6p).trans HC18.out, range_below HC16.out lt6q (HE6.out.trans (Below.mono bup HE6.out.size))⟩ | exact ⟨((show Below w7.heap.size w7 _ from bup).cell (p := ⟨p, 18, none⟩) lt7p).trans HC187.out, range_below HC17.out lt7q (show Below w7.heap.size w7 _ from bup)⟩)
        clear hK K
        try simp only [PT]
        refine wpAnyH_done (by kernel_rfl) ?_ _
        go_wp2_with fail
        go_roundw
        case rel =>
          exact ⟨d + 1, i, Sc.set h s, by omega, hdd, rfl, congrArg (Value.int .i64) HSTEP.out, by rw [List.length_set, HSC.out], HMV, HMF, Lib.hid (fun d' h1 h2 t ht => by
            rcases get_set ht with ⟨hy, _, _⟩ | ⟨_, ht2⟩
            · exfalso
              have h3 := HHole.out.hd
              rw [List.length_set, HSC.out, ← hy, dist_of hh0 (by omega)] at h3
              omega
            · exact HSam.out d' (by omega) h2 t ht2), Lib.hid (HT7.out.keep bup), Lib.hid ⟨(show Below w7.heap.size w7 _ from bup).os.trans HGr7.out.os, (show Below w7.heap.size w7 _ from bup).tape.trans HGr7.out.tape, (show Below w7.heap.size w7 _ from bup).output.trans HGr7.out.output, Nat.le_trans HGr7.out.size (bsz bup), fun k hk hne => ((show Below w7.heap.size w7 _ from bup).block k (Nat.lt_of_lt_of_le hk HGr7.out.size)).trans (HGr7.out.block k hk hne)⟩⟩
        case measure =>
          have m1 := dist_mod (h := h0) hn0 (show d + 1 ≤ dz from hdd) hz2
          have m2 := dist_mod (h := h0) hn0 hdz hz2
          rw [← HI.out] at m2
          have E3 := HSTEP.out
          simp only [intOf, E3, Int.toNat_natCast, m1, m2]
          omega
      · have hfi : decide ((E : Int) ≤ (D : Int)) = false := by simp; omega
        have hfi2 : decide (E ≤ D) = false := by simp; omega
        have hfi3 : ¬ E ≤ D := hfar
        have HST := Lib.hid (HHole.out.stay hdd HIA.out HA.out (by rw [HHM.out, List.length_set, HSC.out, ← HD.out, ← HE.out]; omega))
        clear hfar
        go_wp2_with (first
          | ((with_reducible refine sl 53 ?_); go_must (refine wpL_load rfl 26 (.tmp 52) rfl q (i * 42 + 1) rfl s.f.v.key.cells _ HC3.out Try.underlying26 rfl HIK.out ?_); simp only [PT])
          | (go_at_call 42; go_must (refine (home_any p q kb room cnt Sc s.f.v.key s.f.ok.1 _ HTc.out).mono ?_); rintro e w6 ⟨rfl, hb6⟩; rw [HSC.out, ← HH.out]; have HT6 := Lib.hid (HTc.out.keep hb6); have HGr6 : Hid (w4.grownBy w6 (some q)) := Lib.hid ⟨hb6.os.trans HGr.out.os, hb6.tape.trans HGr.out.tape, hb6.output.trans HGr.out.output, Nat.le_trans HGr.out.size hb6.size, fun k hk hne => (hb6.block k (Nat.lt_of_lt_of_le hk HGr.out.size)).trans (HGr.out.block k hk hne)⟩; have hc6 := (hb6.cell (p := ⟨p, 18, none⟩) ltpr).trans HCEL.out; have HC16 := Lib.hid (range_below HC1.out ltqr hb6); clear hb6))
        go_roundw
        case rel =>
          exact ⟨d + 1, h, Sc, by omega, hdd, rfl, congrArg (Value.int .i64) HSTEP.out, HSC.out, HST, HFl, Lib.hid (fun d' h1 h2 t ht => HSam.out d' (by omega) h2 t ht), HT6, HGr6⟩
        case measure =>
          have m1 := dist_mod (h := h0) hn0 (show d + 1 ≤ dz from hdd) hz2
          have m2 := dist_mod (h := h0) hn0 hdz hz2
          rw [← HI.out] at m2
          have E3 := HSTEP.out
          simp only [intOf, E3, Int.toNat_natCast, m1, m2]
          omega
    · obtain rfl : d = dz := by omega
      have hsu : s.used = false := by
        have h1 := HHole.out.free s
        rw [List.length_set, HSC.out, ← HI.out, List.getElem?_set_ne (Ne.symm hih)] at h1
        exact h1 HSI.out
      rw [hsu] at c0
      obtain ⟨C1, hC1⟩ : ∃ C1, C1 = cnt - 1 := ⟨_, rfl⟩
      have f1 : IntKind.i64.wrap ((cnt : Int) - 1) = (C1 : Int) := by rw [IntKind.wrap_i64]; omega
      have HC1' := Lib.hid hC1
      have hhS : h < Sc.length := by rw [HSC.out]; exact hhl
      have HDONE := Lib.hid (HHole.out.done)
      clear hC1 hsu
      go_wp2_with (first
        | ((with_reducible refine sl 86 ?_); go_must (refine wpL_loadF rfl 67 (.tmp 85) rfl p 18 rfl (.slice (some ⟨q, 0, none⟩) n n) HTc.out.hp (by rw [← HSC.out, List.getElem?_toArray]; exact (tabC_at HTc.out.hk room cnt q Sc.length).2.2.2) Try.underlying67 rfl ?_); simp only [PT])
        | ((with_reducible refine sl 88 ?_); go_must (refine wpL_build rfl 79 #[] rfl [] rfl zeroS.cells.toArray built_slot0 ?_); simp only [PT])
        | ((with_reducible show wpList _ _ _ (⟨none, .store _ (.tmp 89) _, _, _, _, _⟩ :: _) _ _); go_must (refine wpL_storeSlot rfl (.tmp 89) (.tmp 88) rfl HTc.out hpq h hhS zeroS rfl rfl ?_); intro w8 hs__ hr__; have HT8 := Lib.hid hs__; have HGr8 : Hid (w4.grownBy w8 (some q)) := Lib.hid ⟨hr__.os.trans HGr.out.os, hr__.tape.trans HGr.out.tape, hr__.output.trans HGr.out.output, Nat.le_trans HGr.out.size hr__.size, fun k hk hne => (hr__.block k (Nat.lt_of_lt_of_le hk HGr.out.size) hne).trans (HGr.out.block k hk hne)⟩; clear hs__ hr__ c0 hcell; simp only [PT])
        | ((with_reducible refine sl 93 ?_); go_must (refine wpL_loadF rfl 3 (.tmp 92) rfl p 17 rfl (.int .i64 (cnt : Int)) HT8.out.hp (by rw [List.getElem?_toArray]; exact (tabC_at HT8.out.hk room cnt q _).2.2.1) Try.underlying3 rfl ?_); simp only [PT])
        | ((with_reducible show wpList _ _ _ (⟨none, .store _ (.tmp 96) _, _, _, _, _⟩ :: _) _ _); go_must (refine wpL_storeCnt rfl (.tmp 96) (.tmp 94) rfl HT8.out hpq C1 rfl (by first | rfl | (simp [f1]; done)) ?_); intro w9 hs__ hr__; have HT9 := Lib.hid hs__; have HB9 := Lib.hid (((But.of_below (p := p) (q := q) HB.out).trans (But.of_q HGr8.out)).trans (But.of_p hr__)); clear hs__ hr__; simp only [PT]))
      go_ret
      exact ⟨rfl, Sc.set h zeroS, by rw [← HC1'.out]; exact HT9.out, HDONE.out, by rw [List.length_set, HSC.out, HN.out], HF0.out.trans (List.Perm.cons _ HFl.out.symm), HB9.out⟩
end Go.Proofs.Ytgpdlhbndoeldaa
/-
  Chapter 21: Put: walked (written by gen/flo19.py).
-/
namespace Go.Proofs.Ytgpdlhbndoeldaa
open Go.RowKit Go.Sort
set_option linter.unusedVariables false
set_option linter.unusedSimpArgs false
set_option maxRecDepth 100000
set_option maxHeartbeats 16000000

theorem But.own {p q g : Nat} {w a b : World} (h : But p q w a) (hg : a.grownBy b (some g)) (hge : w.heap.size ≤ g) : But p q w b :=
  ⟨hg.os.trans h.os, hg.tape.trans h.tape, hg.output.trans h.output, Nat.le_trans h.size hg.size, fun k hk hp hq => (hg.block k (Nat.lt_of_lt_of_le hk h.size) (fun e => by cases e; omega)).trans (h.block k hk hp hq)⟩
theorem But.keep {p q k : Nat} {w a : World} {ob : Obj} (h : But p q w a) (hk : w.heap[k]? = some ob) (hp : k ≠ p) (hq : k ≠ q) : a.heap[k]? = some ob := (h.block k (lt_of_block hk) hp hq).trans hk
theorem zero_flow : Try.prog.built 28 [] = some zeroF.cells.toArray := by kernel_rfl
theorem slot_places : ∀ ps, Try.prog.built 79 ps = Instr.fill ((#[(0, 1), (1, 41)] : Array (Nat × Nat))[·]?) (Value.bool false :: zeroF.cells).toArray ps := fun ps => by kernel_rfl
theorem built_slot (f : FloW) : Try.prog.built 79 [(0, .bool true), (1, .agg f.v.cells.toArray)] = some (Slt.cells ⟨true, f⟩).toArray := by
  have l1 : zeroF.cells.length = 41 := Flo.length zeroF_ok
  rw [slot_places, fill_one _ _ _ 0 1 _ [.bool true] _ rfl rfl rfl (by simp), fill_one _ _ _ 1 41 _ f.v.cells _ rfl rfl (FloW.length f) (by simp [l1]), fill_nil]
  simp [Slt.cells, l1]
/-- how the flows turn when one is put -/
def PutS (room : Nat) (S : List Slt) (f : FloW) (gone : Flo) (left : Bool) (S' : List Slt) : Prop :=
  (left = false ∧ gone = zeroF ∧ ((∃ x ∈ flowsS S, x.v.key = f.v.key) ∨ (flowsS S).length < room) ∧ (flowsS S').Perm (f :: (flowsS S).filter (fun x => decide (x.v.key ≠ f.v.key)))) ∨
  (left = true ∧ (∀ x ∈ flowsS S, x.v.key ≠ f.v.key) ∧ room ≤ (flowsS S).length ∧ ∃ g0 R, minL (flowsS S) = some g0 ∧ gone = g0.v ∧ (flowsS S).Perm (g0 :: R) ∧ (flowsS S').Perm (f :: R))
/-- what Put leaves -/
def Putted (p q : Nat) (kb : List UInt8) (room : Nat) (S : List Slt) (f : FloW) (w : World) (e : Ending) (w' : World) : Prop :=
  ∃ gone left cnt' S', e = .returned (.tuple #[.agg (Flo.cells gone).toArray, .bool left, .int .i64 0]) ∧ Tb w' p q kb room cnt' S' ∧ Good kb S' ∧ cnt' = (flowsS S').length ∧ S'.length = S.length ∧ PutS room S f gone left S' ∧ But p q w w'
theorem filter_none {S : List Slt} {k : Tup} (h : ∀ x ∈ flowsS S, x.v.key ≠ k) : (flowsS S).filter (fun x => decide (x.v.key ≠ k)) = flowsS S := List.filter_eq_self.2 (fun x hx => by simpa using h x hx)
theorem filter_len {S : List Slt} {kb : List UInt8} (g : Good kb S) {f0 : FloW} (h : f0 ∈ flowsS S) : ((flowsS S).filter (fun x => decide (x.v.key ≠ f0.v.key))).length + 1 = (flowsS S).length := by
  obtain ⟨j, s, hj, hu, rfl⟩ := mem_flowsS.1 h
  have hjl := lt_of_some hj
  have e : S[j] = s := by rw [List.getElem?_eq_getElem hjl] at hj; exact Option.some.inj hj
  have h1 := flowsS_self S j hjl
  rw [e, hu] at h1
  have h2 := h1.filter (fun x => decide (x.v.key ≠ s.f.v.key))
  have hr : ∀ x ∈ flowsS (S.set j zeroS), x.v.key ≠ s.f.v.key := by
    intro x hx hk
    obtain ⟨i, t, hi, ut, rfl⟩ := mem_flowsS.1 hx
    rcases get_set hi with ⟨_, rfl, _⟩ | ⟨hne, hi2⟩
    · cases ut
    · exact hne (g.keys i j t s hi2 hj ut hu hk)
  rw [h2.length_eq, h1.length_eq]
  simp only [if_true, List.singleton_append, List.length_cons]
  rw [List.filter_cons]
  simp only [ne_eq, not_true, decide_false, Bool.false_eq_true, if_false]
  rw [List.filter_eq_self.2 (fun x hx => by simpa using hr x hx)]
theorem put_wrong (p q : Nat) (f : FloW) (hsz : f.v.name.size ≤ 140737488351232) (hr : rightF f.v = false) (w : World) :
    Calls Try.prog 21 #[.pointer (some ⟨p, 0, none⟩), .agg f.v.cells.toArray] w fun e w' => e = .returned (.tuple #[.agg zeroF.cells.toArray, .bool false, .int .i64 1]) ∧ Below w.heap.size w w' := by
  have HB := Lib.hid (Below.refl w.heap.size w)
  have HR := Lib.hid hr
  have HIF := Lib.hid flo_info
  have HIX : Hid ((Try.prog.info? 28).map (·.size) = some f.v.cells.length) := Lib.hid (by rw [FloW.length]; exact flo_size)
  clear hr
  go_enter Try.func21, Try.ntmps21
  go_wp2_with (first
    | ((with_reducible refine sl 3 ?_); go_must (refine wpL_boxG rfl 28 (.tmp 1) rfl f.v.cells.toArray rfl ?_); intro w1 g3 he__ le_g3 lt_g3 hg__ hb__; have HG3 := Lib.hid hg__; have hE__ := cU HB bup hb__; replace HB := ck HB hE__; clear hE__; clear hg__ hb__ he__; simp only [PT])
    | ((with_reducible refine sl 4 ?_); go_must (refine wpL_allocG rfl 28 rfl _ zeroF.cells.toArray 41 HIF.out rfl ?_); intro w2 g4 he__ le_g4 lt_g4 hg__ hb__; have HG4 := Lib.hid hg__; have L4 : Hid (w.heap.size ≤ g4) := Lib.hid (Nat.le_trans HB.out.size le_g4); have hE__ := cU HB bup hb__; replace HB := ck HB hE__; replace HG3 := ck HG3 hE__; clear hE__; clear hg__ hb__ he__; simp only [PT])
    | ((with_reducible refine sl 12 ?_); go_must (refine wpL_load rfl 28 (.tmp 3) rfl g3 0 rfl f.v.cells _ (range_block HG3.out) Try.underlying28 rfl HIX.out ?_); simp only [PT])
    | (go_at_call 13; go_must (refine (right_any f.v f.ok hsz _).mono ?_); rw [HR.out]; rintro e w3 ⟨rfl, hb3⟩; have hE__ := cU HB bup hb3; replace HB := ck HB hE__; replace HG3 := ck HG3 hE__; replace HG4 := ck HG4 hE__; clear hE__; clear hb3)
    | ((with_reducible refine sl 15 ?_); go_must (refine wpL_build rfl 28 #[] rfl [] rfl zeroF.cells.toArray zero_flow ?_); simp only [PT])
    | ((with_reducible show wpList _ _ _ (⟨none, .store _ (.tmp 4) _, _, _, _, _⟩ :: _) _ _); go_must (refine wpL_storeRow rfl 28 (.tmp 4) (.tmp 15) rfl g4 zeroF.cells.toArray rfl rfl HG4.out flo_size rfl (flo_one _) ?_); intro w99 hs__ hr__; replace HB := cg HB bup hr__ L4.out; clear HG4; have HG4 := Lib.hid hs__; clear hs__ hr__; simp only [PT]))
  refine bodyPost_cell1x (cs := zeroF.cells) rfl rfl (range_block HG4.out) Try.underlying28 rfl flo_size rfl ?_
  exact ⟨rfl, HB.out⟩
theorem put_there (p q : Nat) (hpq : p ≠ q) (kb : List UInt8) (room cnt : Nat) (S : List Slt) (f : FloW) (hr : rightF f.v = true) (w : World) (ht : Tb w p q kb room cnt S) (g : Good kb S) (hcnt : cnt = (flowsS S).length) (hrm : cnt ≤ room) (hlt : room + room ≤ S.length) (hrm1 : 1 ≤ room) (f0 : FloW) (hf0 : f0 ∈ flowsS S) (hk0 : f0.v.key = f.v.key) :
    Calls Try.prog 21 #[.pointer (some ⟨p, 0, none⟩), .agg f.v.cells.toArray] w (Putted p q kb room S f w) := by
  have HB := Lib.hid (Below.refl w.heap.size w)
  have HT := Lib.hid ht
  have hsz : f.v.name.size ≤ 140737488351232 := Nat.le_trans (right_size hr) (by decide)
  have HR := Lib.hid hr
  have hfl : (flowsS S).length < S.length := by omega
  have HFL := Lib.hid hfl
  have HGD := Lib.hid g
  have HCN := Lib.hid hcnt
  have hc8 : cnt ≤ 8192 := by have := ht.hn; omega
  have hr8 : room ≤ 8192 := by have := ht.hn; omega
  have ltp := lt_of_block ht.hp
  have ltq := lt_of_block ht.hq
  have HIF := Lib.hid flo_info
  have HIX : Hid ((Try.prog.info? 28).map (·.size) = some f.v.cells.length) := Lib.hid (by rw [FloW.length]; exact flo_size)
  have HIT : Hid ((Try.prog.info? 26).map (·.size) = some f.v.key.cells.length) := Lib.hid (by rw [Tup.length f.ok.1]; exact tup_size)
  have HKT := Lib.hid (Flo.tup f.ok)
  obtain ⟨n, hn⟩ : ∃ n, n = S.length := ⟨_, rfl⟩
  have HN := Lib.hid hn
  have HF0 := Lib.hid (And.intro hf0 hk0)
  clear hr g hcnt hfl hn hf0 hk0 ht
  go_enter Try.func21, Try.ntmps21
  go_wp2_with (first
    | ((with_reducible refine sl 3 ?_); go_must (refine wpL_boxG rfl 28 (.tmp 1) rfl f.v.cells.toArray rfl ?_); intro w1 g3 he__ le_g3 lt_g3 hg__ hb__; have HG3 := Lib.hid hg__; have l03 : w.heap.size ≤ g3 := (by have := HB.out.size; omega); have hE__ := cU HB bup hb__; replace HB := ck HB hE__; replace HT := ck HT hE__; clear hE__; clear hg__ hb__ he__; simp only [PT])
    | ((with_reducible refine sl 4 ?_); go_must (refine wpL_allocG rfl 28 rfl _ zeroF.cells.toArray 41 HIF.out rfl ?_); intro w2 g4 he__ le_g4 lt_g4 hg__ hb__; have HG4 := Lib.hid hg__; have l04 : w.heap.size ≤ g4 := (by have := HB.out.size; omega); have l34 : g3 ≠ g4 := (by omega); have hE__ := cU HB bup hb__; replace HB := ck HB hE__; replace HT := ck HT hE__; replace HG3 := ck HG3 hE__; clear hE__; clear hg__ hb__ he__; simp only [PT])
    | ((with_reducible refine sl 12 ?_); go_must (refine wpL_load rfl 28 (.tmp 3) rfl g3 0 rfl f.v.cells _ (range_block HG3.out) Try.underlying28 rfl HIX.out ?_); simp only [PT])
    | (go_at_call 13; go_must (refine (right_any f.v f.ok hsz _).mono ?_); rw [HR.out]; rintro e w3 ⟨rfl, hb3⟩; have hE__ := cU HB bup hb3; replace HB := ck HB hE__; replace HT := ck HT hE__; replace HG3 := ck HG3 hE__; replace HG4 := ck HG4 hE__; clear hE__; clear hb3)
    | ((with_reducible refine sl 7 ?_); go_must (refine wpL_allocG rfl 28 rfl _ zeroF.cells.toArray 41 HIF.out rfl ?_); intro w4 g7 he__ le_g7 lt_g7 hg__ hb__; have HG7 := Lib.hid hg__; have l07 : w.heap.size ≤ g7 := (by have := HB.out.size; omega); have l37 : g3 ≠ g7 := (by have := lt_of_block HG3.out; omega); have l47 : g4 ≠ g7 := (by have := lt_of_block HG4.out; omega); have hE__ := cU HB bup hb__; replace HB := ck HB hE__; replace HT := ck HT hE__; replace HG3 := ck HG3 hE__; replace HG4 := ck HG4 hE__; clear hE__; clear hg__ hb__ he__; simp only [PT])
    | ((with_reducible refine sl 19 ?_); go_must (refine wpL_load rfl 26 (.tmp 18) rfl g3 0 rfl f.v.key.cells _ (range_sub HG3.out HKT.out) Try.underlying26 rfl HIT.out ?_); simp only [PT])
    | (go_at_call 20; go_must (refine (show Calls Try.prog _ #[_, .agg f.v.key.cells.toArray] _ (fun e w' => e = .returned (.tuple #[.agg f0.v.cells.toArray, .bool true]) ∧ Below _ _ w') by rw [← HF0.out.2]; exact get_some p q kb room cnt S f0 _ HT.out HGD.out HFL.out HF0.out.1).mono ?_); rintro e w5 ⟨rfl, hb5⟩; have hE__ := cU HB bup hb5; replace HB := ck HB hE__; replace HT := ck HT hE__; replace HG3 := ck HG3 hE__; replace HG4 := ck HG4 hE__; replace HG7 := ck HG7 hE__; clear hE__; clear hb5)
    | ((with_reducible refine sl 9 ?_); go_must (refine wpL_newR rfl rfl 28 rfl (.tmp 9) (.tmp 21) rfl (f0.v).cells.toArray zeroF.cells.toArray (by rw [List.size_toArray, FloW.length f0]; exact flo_info) (by simp only [List.size_toArray, FloW.length, Flo.length zeroF_ok]) (flo_one _) (fun _ => rfl) (fun _ => rfl) ?_); intro w6 hg__ hb__; have hE__ := cU HB bup hb__; replace HB := ck HB hE__; replace HT := ck HT hE__; replace HG3 := ck HG3 hE__; replace HG4 := ck HG4 hE__; replace HG7 := ck HG7 hE__; clear hE__; clear hg__ hb__; simp only [PT]))
  have HCL := Lib.hid (Tb.cells HT.out)
  have ltp6 := lt_of_block HT.out.hp
  have ltq6 := lt_of_block HT.out.hq
  have HE := Lib.hid (Below.refl w6.heap.size w6)
  refine wp_region_held_drew (S := fun v => v.cell? ⟨p, 17, none⟩ = some (.int .i64 (cnt : Int)) ∧ v.cell? ⟨p, 16, none⟩ = some (.int .i64 (room : Int))) (by kernel_rfl) ?_ (fun hHeld => ?_)
  focus (exact ⟨((HE.out.trans (Below.mono bup HE.out.size)).cell (p := ⟨p, 17, none⟩) ltp6).trans HCL.out.2.2.1, ((HE.out.trans (Below.mono bup HE.out.size)).cell (p := ⟨p, 16, none⟩) ltp6).trans HCL.out.2.1⟩)
  refine tk 0 (oi := ⟨some 23, _, _, _, _, _⟩) (v := ?_) rfl (by kernel_rfl) (.inl ⟨by rfl, ?_⟩) hHeld ?_; rotate_left; focus (intro w hSw; (try dsimp only at hSw); go_simp; try with_reducible rfl)
  simp only [PT]
  refine tk 1 (oi := ⟨some 24, _, _, _, _, _⟩) (v := ?_) rfl (by kernel_rfl) (.inl ⟨by rfl, ?_⟩) hHeld ?_; rotate_left; focus (intro w hSw; (try dsimp only at hSw); go_simp; try with_reducible rfl)
  simp only [PT]
  refine tk 2 (oi := ⟨some 25, _, _, _, _, _⟩) (v := ?_) rfl (by kernel_rfl) (.inl ⟨by rfl, ?_⟩) hHeld ?_; rotate_left; focus (intro w hSw; (try dsimp only at hSw); go_simp; try with_reducible rfl)
  simp only [PT]
  first | (refine tk 3 (oi := ⟨some 26, _, _, _, _, _⟩) (v := undef) rfl (by kernel_rfl) (.inr ⟨by rfl, rfl⟩) hHeld ?_) | (refine tk 3 (oi := ⟨some 26, _, _, _, _, _⟩) (v := ?_) rfl (by kernel_rfl) (.inl ⟨by rfl, ?_⟩) hHeld ?_; rotate_left; focus (intro w hSw; (try dsimp only at hSw); go_simp; try with_reducible rfl))
  simp only [PT]
  first | (refine tk 4 (oi := ⟨some 27, _, _, _, _, _⟩) (v := undef) rfl (by kernel_rfl) (.inr ⟨by rfl, rfl⟩) hHeld ?_) | (refine tk 4 (oi := ⟨some 27, _, _, _, _, _⟩) (v := ?_) rfl (by kernel_rfl) (.inl ⟨by rfl, ?_⟩) hHeld ?_; rotate_left; focus (intro w hSw; (try dsimp only at hSw); go_simp; try with_reducible rfl))
  simp only [PT]
  first | (refine tk 5 (oi := ⟨some 28, _, _, _, _, _⟩) (v := undef) rfl (by kernel_rfl) (.inr ⟨by rfl, rfl⟩) hHeld ?_) | (refine tk 5 (oi := ⟨some 28, _, _, _, _, _⟩) (v := ?_) rfl (by kernel_rfl) (.inl ⟨by rfl, ?_⟩) hHeld ?_; rotate_left; focus (intro w hSw; (try dsimp only at hSw); go_simp; try with_reducible rfl))
  simp only [PT]
  first | (refine tk 6 (oi := ⟨some 29, _, _, _, _, _⟩) (v := undef) rfl (by kernel_rfl) (.inr ⟨by rfl, rfl⟩) hHeld ?_) | (refine tk 6 (oi := ⟨some 29, _, _, _, _, _⟩) (v := ?_) rfl (by kernel_rfl) (.inl ⟨by rfl, ?_⟩) hHeld ?_; rotate_left; focus (intro w hSw; (try dsimp only at hSw); go_simp; try with_reducible rfl))
  simp only [PT]
  first | (refine tk 7 (oi := ⟨some 30, _, _, _, _, _⟩) (v := undef) rfl (by kernel_rfl) (.inr ⟨by rfl, rfl⟩) hHeld ?_) | (refine tk 7 (oi := ⟨some 30, _, _, _, _, _⟩) (v := ?_) rfl (by kernel_rfl) (.inl ⟨by rfl, ?_⟩) hHeld ?_; rotate_left; focus (intro w hSw; (try dsimp only at hSw); go_simp; try with_reducible rfl))
  simp only [PT]
  first | (refine tk 8 (oi := ⟨some 31, _, _, _, _, _⟩) (v := undef) rfl (by kernel_rfl) (.inr ⟨by rfl, rfl⟩) hHeld ?_) | (refine tk 8 (oi := ⟨some 31, _, _, _, _, _⟩) (v := ?_) rfl (by kernel_rfl) (.inl ⟨by rfl, ?_⟩) hHeld ?_; rotate_left; focus (intro w hSw; (try dsimp only at hSw); go_simp; try with_reducible rfl))
  simp only [PT]
  first | (refine tk 9 (oi := ⟨some 32, _, _, _, _, _⟩) (v := undef) rfl (by kernel_rfl) (.inr ⟨by rfl, rfl⟩) hHeld ?_) | (refine tk 9 (oi := ⟨some 32, _, _, _, _, _⟩) (v := ?_) rfl (by kernel_rfl) (.inl ⟨by rfl, ?_⟩) hHeld ?_; rotate_left; focus (intro w hSw; (try dsimp only at hSw); go_simp; try with_reducible rfl))
  simp only [PT]
  first | (refine tk 10 (oi := ⟨some 33, _, _, _, _, _⟩) (v := undef) rfl (by kernel_rfl) (.inr ⟨by rfl, rfl⟩) hHeld ?_) | (refine tk 10 (oi := ⟨some 33, _, _, _, _, _⟩) (v := ?_) rfl (by kernel_rfl) (.inl ⟨by rfl, ?_⟩) hHeld ?_; rotate_left; focus (intro w hSw; (try dsimp only at hSw); go_simp; try with_reducible rfl))
  simp only [PT]
  first | (refine tk 11 (oi := ⟨some 34, _, _, _, _, _⟩) (v := undef) rfl (by kernel_rfl) (.inr ⟨by rfl, rfl⟩) hHeld ?_) | (refine tk 11 (oi := ⟨some 34, _, _, _, _, _⟩) (v := ?_) rfl (by kernel_rfl) (.inl ⟨by rfl, ?_⟩) hHeld ?_; rotate_left; focus (intro w hSw; (try dsimp only at hSw); go_simp; try with_reducible rfl))
  simp only [PT]
  refine tk 12 (oi := ⟨some 35, _, _, _, _, _⟩) (v := ?_) rfl (by kernel_rfl) (.inl ⟨by rfl, ?_⟩) hHeld ?_; rotate_left; focus (intro w hSw; (try dsimp only at hSw); go_simp; try with_reducible rfl)
  simp only [PT]
  refine wpAnyH_done (by kernel_rfl) ?_ _
  go_wp2_with fail
  have HBT := Lib.hid (But.of_below (p := p) (q := q) HB.out)
  have hS1 : S.length = n := HN.out.symm
  have hfl1 := HFL.out
  clear HB
  have HCL9 := Lib.hid (Tb.cells HT.out)
  have ltp9 := lt_of_block HT.out.hp
  have ltq9 := lt_of_block HT.out.hq
  have lt39 := lt_of_block HG3.out
  have HE9 := Lib.hid (Below.refl w6.heap.size w6)
  have HR3 := Lib.hid (range_sub HG3.out HKT.out)
  
  refine wp_region_held_drew (S := fun v => v.cell? ⟨p, 18, none⟩ = some (.slice (some ⟨q, 0, none⟩) n n) ∧ v.rangeAt g3 0 f.v.key.cells) (by kernel_rfl) ?_ (fun hHeld => ?_)
  focus (exact ⟨((HE9.out.trans (Below.mono bup HE9.out.size)).cell (p := ⟨p, 18, none⟩) ltp9).trans (by rw [← hS1]; exact HCL9.out.2.2.2), range_below HR3.out lt39 (HE9.out.trans (Below.mono bup HE9.out.size))⟩)
  refine tk 0 (oi := ⟨some 42, _, _, _, _, _⟩) (v := ?_) rfl (by kernel_rfl) (.inl ⟨by rfl, ?_⟩) hHeld ?_; rotate_left; focus (intro w hSw; (try dsimp only at hSw); go_simp; try with_reducible rfl)
  simp only [PT]
  refine tk 1 (oi := ⟨some 43, _, _, _, _, _⟩) (v := ?_) rfl (by kernel_rfl) (.inl ⟨by rfl, ?_⟩) hHeld ?_; rotate_left; focus (intro w hSw; (try dsimp only at hSw); go_simp; try with_reducible rfl)
  simp only [PT]
  refine tk 2 (oi := ⟨some 44, _, _, _, _, _⟩) (v := ?_) rfl (by kernel_rfl) (.inl ⟨by rfl, ?_⟩) hHeld ?_; rotate_left; focus (intro w hSw; (try dsimp only at hSw); go_simp; try with_reducible rfl)
  simp only [PT]
  refine tk 3 (oi := ⟨some 45, _, _, _, _, _⟩) (v := ?_) rfl (by kernel_rfl) (.inl ⟨by rfl, ?_⟩) hHeld ?_; rotate_left; focus (intro w hSw; (try dsimp only at hSw); go_simp; try with_reducible rfl)
  simp only [PT]
  refine tk 4 (oi := ⟨some 46, _, _, _, _, _⟩) (v := ?_) rfl (by kernel_rfl) (.inl ⟨by rfl, ?_⟩) hHeld ?_; rotate_left; focus (intro w hSw; (try dsimp only at hSw); go_simp; try with_reducible rfl)
  simp only [PT]
  refine tk 5 (oi := ⟨some 47, _, _, _, _, _⟩) (v := ?_) rfl (by kernel_rfl) (.inl ⟨by rfl, ?_⟩) hHeld ?_; rotate_left; focus (intro w hSw; (try dsimp only at hSw); go_simp; try with_reducible rfl)
  simp only [PT]
  refine' tk 6 (oi := ⟨some 48, _, _, _, _, _⟩) (v := _) rfl (by kernel_rfl) (yieldsIf_load_mid (by rfl) _ _ rfl _ _ rfl (f.v.key.cells) _ (fun v hv => hv.2) (Try.underlying26) rfl (HIT.out)) hHeld ?_
  simp only [PT]
  refine wpAnyH_ready (rs := [7]) (by kernel_rfl) (by simp) ?_
  refine (AllReadyH.cons (o := ⟨some 49, _, _, _, _, _⟩) rfl (fun K hK => ?_) AllReadyH.nil)
  focus (go_simp; go_must (refine (find_any p q kb room cnt S f.v.key f.ok.1 f.ok.2.1 _ (HT.out.keep (HE9.out.trans (Below.mono bup HE9.out.size))) (free_of_len hfl1)).mono ?_); rintro e w10 ⟨j, rfl, hpr, hb10⟩; have HPR := Lib.hid hpr; have hjS := hpr.lt; have hjn : (j : Int) < n := (by rw [← hS1]; omega); clear hpr; replace HE9 := cE0 HE9 bup hb10; clear hb10; go_wp2_with fail)
  refine hK.out _ _ ?_ (fun hHeld => ?_)
  focus (exact ⟨((HE9.out.trans (Below.mono bup HE9.out.size)).cell (p := ⟨p, 18, none⟩) ltp9).trans (by rw [← hS1]; exact HCL9.out.2.2.2), range_below HR3.out lt39 (HE9.out.trans (Below.mono bup HE9.out.size))⟩)
  clear hK K
  try simp only [PT]
  refine tk 8 (oi := ⟨some 50, _, _, _, _, _⟩) (v := ?_) rfl (by kernel_rfl) (.inl ⟨by rfl, ?_⟩) hHeld ?_; rotate_left; focus (intro w hSw; (try dsimp only at hSw); go_simp; try with_reducible rfl)
  simp only [PT]
  refine tk 9 (oi := ⟨some 11, _, _, _, _, _⟩) (v := ?_) rfl (by kernel_rfl) (.inl ⟨by rfl, ?_⟩) hHeld ?_; rotate_left; focus (intro w hSw; (try dsimp only at hSw); go_simp; try with_reducible rfl)
  simp only [PT]
  refine wpAnyH_done (by kernel_rfl) ?_ _
  have HUS : Hid (S[j] = ⟨true, f0⟩) := Lib.hid (by have hp := HPR.out; rw [← HF0.out.2] at hp; exact HGD.out.one HF0.out.1 hp hjS)
  have HU : Hid (S[j].used = true) := Lib.hid (by rw [HUS.out])
  have HT10 := Lib.hid (HT.out.keep HE9.out)
  have HSL := Lib.hid (Tb.slot HT10.out j hjS)
  have hc54 : w10.cell? ⟨q, j * 42, none⟩ = some (.bool true) := by rw [← HU.out]; exact HSL.out.1
  have HG3x := Lib.hid ((HE9.out.block g3 (lt_of_block HG3.out)).trans HG3.out)
  have HG4x := Lib.hid ((HE9.out.block g4 (lt_of_block HG4.out)).trans HG4.out)
  have HG7x := Lib.hid ((HE9.out.block g7 (lt_of_block HG7.out)).trans HG7.out)
  have HBTx := Lib.hid (HBT.out.trans (But.of_below HE9.out))
  clear HG3 HG4 HG7 HBT HE9
  have HPUT := Lib.hid (HGD.out.put HPR.out hjS HR.out)
  have HPF := Lib.hid (HGD.out.put_flows HPR.out hjS)
  have HIG : Hid ((Try.prog.info? 28).map (·.size) = some (zeroF).cells.length) := Lib.hid (by rw [Flo.length zeroF_ok]; exact flo_size)
  go_wp2_with (first
    | ((with_reducible refine sl 64 ?_); go_must (refine wpL_load rfl 28 (.tmp 3) rfl g3 0 rfl f.v.cells _ (range_block HG3x.out) Try.underlying28 rfl HIX.out ?_); simp only [PT])
    | ((with_reducible refine sl 65 ?_); go_must (refine wpL_build rfl 79 _ rfl [(0, .bool true), (1, .agg f.v.cells.toArray)] rfl (Slt.cells ⟨true, f⟩).toArray (built_slot f) ?_); simp only [PT])
    | ((with_reducible show wpList _ _ _ (⟨none, .store _ (.tmp 66) _, _, _, _, _⟩ :: _) _ _); go_must (refine wpL_storeSlot rfl (.tmp 66) (.tmp 65) rfl HT10.out hpq j hjS ⟨true, f⟩ rfl rfl ?_); intro w12 hs__ hr__; have HT12 := Lib.hid hs__; replace HBTx := Lib.hid (HBTx.out.trans (But.of_q hr__)); replace HG4x := Lib.hid ((hr__.block g4 (lt_of_block HG4x.out) (fun e => by cases e; omega)).trans HG4x.out); replace HG7x := Lib.hid ((hr__.block g7 (lt_of_block HG7x.out) (fun e => by cases e; omega)).trans HG7x.out); clear hs__ hr__; (try clear hc54); simp only [PT])
    | ((with_reducible refine sl 67 ?_); go_must (refine wpL_load rfl 28 (.tmp 7) rfl g7 0 rfl (zeroF).cells _ (range_block HG7x.out) Try.underlying28 rfl HIG.out ?_); simp only [PT])
    | ((with_reducible show wpList _ _ _ (⟨none, .store _ (.tmp 4) _, _, _, _, _⟩ :: _) _ _); go_must (refine wpL_storeRow rfl 28 (.tmp 4) (.tmp 67) rfl g4 (zeroF).cells.toArray rfl rfl HG4x.out (by rw [List.size_toArray]; exact HIG.out) (by simp only [List.size_toArray, FloW.length, Flo.length zeroF_ok]) (flo_one _) ?_); intro w13 hs__ hr__; have HT13 : Hid (Tb w13 p q kb room cnt (S.set j ⟨true, f⟩)) := Lib.hid ⟨(hr__.block p (lt_of_block HT12.out.hp) (fun e => by cases e; omega)).trans HT12.out.hp, (hr__.block q (lt_of_block HT12.out.hq) (fun e => by cases e; omega)).trans HT12.out.hq, HT12.out.hk, HT12.out.h0, HT12.out.hn⟩; have HBF := Lib.hid (HBTx.out.own hr__ l04); have HGF := Lib.hid hs__; clear hs__ hr__ HG4x; simp only [PT]))
  refine bodyPost_cell1x (cs := (zeroF).cells) rfl rfl (range_block HGF.out) Try.underlying28 rfl HIG.out rfl ?_
  have hcl : cnt = (flowsS (S.set j ⟨true, f⟩)).length := by
    rw [HPF.out.length_eq, List.length_cons, ← HF0.out.2, filter_len HGD.out HF0.out.1]; exact HCN.out
  exact ⟨zeroF, false, cnt, _, rfl, HT13.out, HPUT.out, hcl, List.length_set, .inl ⟨rfl, rfl, .inl ⟨f0, HF0.out.1, HF0.out.2⟩, HPF.out⟩, HBF.out⟩
theorem put_room (p q : Nat) (hpq : p ≠ q) (kb : List UInt8) (room cnt : Nat) (S : List Slt) (f : FloW) (hr : rightF f.v = true) (w : World) (ht : Tb w p q kb room cnt S) (g : Good kb S) (hcnt : cnt = (flowsS S).length) (hrm : cnt ≤ room) (hlt : room + room ≤ S.length) (hrm1 : 1 ≤ room) (hno : ∀ x ∈ flowsS S, x.v.key ≠ f.v.key) (hroom : cnt < room) :
    Calls Try.prog 21 #[.pointer (some ⟨p, 0, none⟩), .agg f.v.cells.toArray] w (Putted p q kb room S f w) := by
  have HB := Lib.hid (Below.refl w.heap.size w)
  have HT := Lib.hid ht
  have hsz : f.v.name.size ≤ 140737488351232 := Nat.le_trans (right_size hr) (by decide)
  have HR := Lib.hid hr
  have hfl : (flowsS S).length < S.length := by omega
  have HFL := Lib.hid hfl
  have HGD := Lib.hid g
  have HCN := Lib.hid hcnt
  have hc8 : cnt ≤ 8192 := by have := ht.hn; omega
  have hr8 : room ≤ 8192 := by have := ht.hn; omega
  have ltp := lt_of_block ht.hp
  have ltq := lt_of_block ht.hq
  have HIF := Lib.hid flo_info
  have HIX : Hid ((Try.prog.info? 28).map (·.size) = some f.v.cells.length) := Lib.hid (by rw [FloW.length]; exact flo_size)
  have HIT : Hid ((Try.prog.info? 26).map (·.size) = some f.v.key.cells.length) := Lib.hid (by rw [Tup.length f.ok.1]; exact tup_size)
  have HKT := Lib.hid (Flo.tup f.ok)
  obtain ⟨n, hn⟩ : ∃ n, n = S.length := ⟨_, rfl⟩
  have HN := Lib.hid hn
  have HNO := Lib.hid hno
  have hcr : (cnt : Int) < (room : Int) := by omega
  have hcr2 : decide ((room : Int) ≤ (cnt : Int)) = false := by simp; omega
  have hcr3 : decide (room ≤ cnt) = false := by simp; omega
  have hcr4 : ¬ room ≤ cnt := by omega
  clear hr g hcnt hfl hn hno ht
  go_enter Try.func21, Try.ntmps21
  go_wp2_with (first
    | ((with_reducible refine sl 3 ?_); go_must (refine wpL_boxG rfl 28 (.tmp 1) rfl f.v.cells.toArray rfl ?_); intro w1 g3 he__ le_g3 lt_g3 hg__ hb__; have HG3 := Lib.hid hg__; have l03 : w.heap.size ≤ g3 := (by have := HB.out.size; omega); have hE__ := cU HB bup hb__; replace HB := ck HB hE__; replace HT := ck HT hE__; clear hE__; clear hg__ hb__ he__; simp only [PT])
    | ((with_reducible refine sl 4 ?_); go_must (refine wpL_allocG rfl 28 rfl _ zeroF.cells.toArray 41 HIF.out rfl ?_); intro w2 g4 he__ le_g4 lt_g4 hg__ hb__; have HG4 := Lib.hid hg__; have l04 : w.heap.size ≤ g4 := (by have := HB.out.size; omega); have l34 : g3 ≠ g4 := (by omega); have hE__ := cU HB bup hb__; replace HB := ck HB hE__; replace HT := ck HT hE__; replace HG3 := ck HG3 hE__; clear hE__; clear hg__ hb__ he__; simp only [PT])
    | ((with_reducible refine sl 12 ?_); go_must (refine wpL_load rfl 28 (.tmp 3) rfl g3 0 rfl f.v.cells _ (range_block HG3.out) Try.underlying28 rfl HIX.out ?_); simp only [PT])
    | (go_at_call 13; go_must (refine (right_any f.v f.ok hsz _).mono ?_); rw [HR.out]; rintro e w3 ⟨rfl, hb3⟩; have hE__ := cU HB bup hb3; replace HB := ck HB hE__; replace HT := ck HT hE__; replace HG3 := ck HG3 hE__; replace HG4 := ck HG4 hE__; clear hE__; clear hb3)
    | ((with_reducible refine sl 7 ?_); go_must (refine wpL_allocG rfl 28 rfl _ zeroF.cells.toArray 41 HIF.out rfl ?_); intro w4 g7 he__ le_g7 lt_g7 hg__ hb__; have HG7 := Lib.hid hg__; have l07 : w.heap.size ≤ g7 := (by have := HB.out.size; omega); have l37 : g3 ≠ g7 := (by have := lt_of_block HG3.out; omega); have l47 : g4 ≠ g7 := (by have := lt_of_block HG4.out; omega); have hE__ := cU HB bup hb__; replace HB := ck HB hE__; replace HT := ck HT hE__; replace HG3 := ck HG3 hE__; replace HG4 := ck HG4 hE__; clear hE__; clear hg__ hb__ he__; simp only [PT])
    | ((with_reducible refine sl 19 ?_); go_must (refine wpL_load rfl 26 (.tmp 18) rfl g3 0 rfl f.v.key.cells _ (range_sub HG3.out HKT.out) Try.underlying26 rfl HIT.out ?_); simp only [PT])
    | (go_at_call 20; go_must (refine (get_none p q kb room cnt S f.v.key f.ok.1 f.ok.2.1 _ HT.out HGD.out HFL.out HNO.out).mono ?_); rintro e w5 ⟨rfl, hb5⟩; have hE__ := cU HB bup hb5; replace HB := ck HB hE__; replace HT := ck HT hE__; replace HG3 := ck HG3 hE__; replace HG4 := ck HG4 hE__; replace HG7 := ck HG7 hE__; clear hE__; clear hb5)
    | ((with_reducible refine sl 9 ?_); go_must (refine wpL_newR rfl rfl 28 rfl (.tmp 9) (.tmp 21) rfl (zeroF).cells.toArray zeroF.cells.toArray (by rw [List.size_toArray, Flo.length zeroF_ok]; exact flo_info) (by simp only [List.size_toArray, FloW.length, Flo.length zeroF_ok]) (flo_one _) (fun _ => rfl) (fun _ => rfl) ?_); intro w6 hg__ hb__; have hE__ := cU HB bup hb__; replace HB := ck HB hE__; replace HT := ck HT hE__; replace HG3 := ck HG3 hE__; replace HG4 := ck HG4 hE__; replace HG7 := ck HG7 hE__; clear hE__; clear hg__ hb__; simp only [PT]))
  have HCL := Lib.hid (Tb.cells HT.out)
  have ltp6 := lt_of_block HT.out.hp
  have ltq6 := lt_of_block HT.out.hq
  have HE := Lib.hid (Below.refl w6.heap.size w6)
  refine wp_region_held_drew (S := fun v => v.cell? ⟨p, 17, none⟩ = some (.int .i64 (cnt : Int)) ∧ v.cell? ⟨p, 16, none⟩ = some (.int .i64 (room : Int))) (by kernel_rfl) ?_ (fun hHeld => ?_)
  focus (exact ⟨((HE.out.trans (Below.mono bup HE.out.size)).cell (p := ⟨p, 17, none⟩) ltp6).trans HCL.out.2.2.1, ((HE.out.trans (Below.mono bup HE.out.size)).cell (p := ⟨p, 16, none⟩) ltp6).trans HCL.out.2.1⟩)
  refine tk 0 (oi := ⟨some 23, _, _, _, _, _⟩) (v := ?_) rfl (by kernel_rfl) (.inl ⟨by rfl, ?_⟩) hHeld ?_; rotate_left; focus (intro w hSw; (try dsimp only at hSw); go_simp; try with_reducible rfl)
  simp only [PT]
  refine tk 1 (oi := ⟨some 24, _, _, _, _, _⟩) (v := ?_) rfl (by kernel_rfl) (.inl ⟨by rfl, ?_⟩) hHeld ?_; rotate_left; focus (intro w hSw; (try dsimp only at hSw); go_simp; try with_reducible rfl)
  simp only [PT]
  refine tk 2 (oi := ⟨some 25, _, _, _, _, _⟩) (v := ?_) rfl (by kernel_rfl) (.inl ⟨by rfl, ?_⟩) hHeld ?_; rotate_left; focus (intro w hSw; (try dsimp only at hSw); go_simp; try with_reducible rfl)
  simp only [PT]
  first | (refine tk 3 (oi := ⟨some 26, _, _, _, _, _⟩) (v := undef) rfl (by kernel_rfl) (.inr ⟨by rfl, rfl⟩) hHeld ?_) | (refine tk 3 (oi := ⟨some 26, _, _, _, _, _⟩) (v := ?_) rfl (by kernel_rfl) (.inl ⟨by rfl, ?_⟩) hHeld ?_; rotate_left; focus (intro w hSw; (try dsimp only at hSw); go_simp; try with_reducible rfl))
  simp only [PT]
  first | (refine tk 4 (oi := ⟨some 27, _, _, _, _, _⟩) (v := undef) rfl (by kernel_rfl) (.inr ⟨by rfl, rfl⟩) hHeld ?_) | (refine tk 4 (oi := ⟨some 27, _, _, _, _, _⟩) (v := ?_) rfl (by kernel_rfl) (.inl ⟨by rfl, ?_⟩) hHeld ?_; rotate_left; focus (intro w hSw; (try dsimp only at hSw); go_simp; try with_reducible rfl))
  simp only [PT]
  first | (refine tk 5 (oi := ⟨some 28, _, _, _, _, _⟩) (v := undef) rfl (by kernel_rfl) (.inr ⟨by rfl, rfl⟩) hHeld ?_) | (refine tk 5 (oi := ⟨some 28, _, _, _, _, _⟩) (v := ?_) rfl (by kernel_rfl) (.inl ⟨by rfl, ?_⟩) hHeld ?_; rotate_left; focus (intro w hSw; (try dsimp only at hSw); go_simp; try with_reducible rfl))
  simp only [PT]
  first | (refine tk 6 (oi := ⟨some 29, _, _, _, _, _⟩) (v := undef) rfl (by kernel_rfl) (.inr ⟨by rfl, rfl⟩) hHeld ?_) | (refine tk 6 (oi := ⟨some 29, _, _, _, _, _⟩) (v := ?_) rfl (by kernel_rfl) (.inl ⟨by rfl, ?_⟩) hHeld ?_; rotate_left; focus (intro w hSw; (try dsimp only at hSw); go_simp; try with_reducible rfl))
  simp only [PT]
  first | (refine tk 7 (oi := ⟨some 30, _, _, _, _, _⟩) (v := undef) rfl (by kernel_rfl) (.inr ⟨by rfl, rfl⟩) hHeld ?_) | (refine tk 7 (oi := ⟨some 30, _, _, _, _, _⟩) (v := ?_) rfl (by kernel_rfl) (.inl ⟨by rfl, ?_⟩) hHeld ?_; rotate_left; focus (intro w hSw; (try dsimp only at hSw); go_simp; try with_reducible rfl))
  simp only [PT]
  first | (refine tk 8 (oi := ⟨some 31, _, _, _, _, _⟩) (v := undef) rfl (by kernel_rfl) (.inr ⟨by rfl, rfl⟩) hHeld ?_) | (refine tk 8 (oi := ⟨some 31, _, _, _, _, _⟩) (v := ?_) rfl (by kernel_rfl) (.inl ⟨by rfl, ?_⟩) hHeld ?_; rotate_left; focus (intro w hSw; (try dsimp only at hSw); go_simp; try with_reducible rfl))
  simp only [PT]
  first | (refine tk 9 (oi := ⟨some 32, _, _, _, _, _⟩) (v := undef) rfl (by kernel_rfl) (.inr ⟨by rfl, rfl⟩) hHeld ?_) | (refine tk 9 (oi := ⟨some 32, _, _, _, _, _⟩) (v := ?_) rfl (by kernel_rfl) (.inl ⟨by rfl, ?_⟩) hHeld ?_; rotate_left; focus (intro w hSw; (try dsimp only at hSw); go_simp; try with_reducible rfl))
  simp only [PT]
  first | (refine tk 10 (oi := ⟨some 33, _, _, _, _, _⟩) (v := undef) rfl (by kernel_rfl) (.inr ⟨by rfl, rfl⟩) hHeld ?_) | (refine tk 10 (oi := ⟨some 33, _, _, _, _, _⟩) (v := ?_) rfl (by kernel_rfl) (.inl ⟨by rfl, ?_⟩) hHeld ?_; rotate_left; focus (intro w hSw; (try dsimp only at hSw); go_simp; try with_reducible rfl))
  simp only [PT]
  first | (refine tk 11 (oi := ⟨some 34, _, _, _, _, _⟩) (v := undef) rfl (by kernel_rfl) (.inr ⟨by rfl, rfl⟩) hHeld ?_) | (refine tk 11 (oi := ⟨some 34, _, _, _, _, _⟩) (v := ?_) rfl (by kernel_rfl) (.inl ⟨by rfl, ?_⟩) hHeld ?_; rotate_left; focus (intro w hSw; (try dsimp only at hSw); go_simp; try with_reducible rfl))
  simp only [PT]
  refine tk 12 (oi := ⟨some 35, _, _, _, _, _⟩) (v := ?_) rfl (by kernel_rfl) (.inl ⟨by rfl, ?_⟩) hHeld ?_; rotate_left; focus (intro w hSw; (try dsimp only at hSw); go_simp; try with_reducible rfl)
  simp only [PT]
  refine wpAnyH_done (by kernel_rfl) ?_ _
  go_wp2_with fail
  have HBT := Lib.hid (But.of_below (p := p) (q := q) HB.out)
  have hS1 : S.length = n := HN.out.symm
  have hfl1 := HFL.out
  clear HB
  have HCL9 := Lib.hid (Tb.cells HT.out)
  have ltp9 := lt_of_block HT.out.hp
  have ltq9 := lt_of_block HT.out.hq
  have lt39 := lt_of_block HG3.out
  have HE9 := Lib.hid (Below.refl w6.heap.size w6)
  have HR3 := Lib.hid (range_sub HG3.out HKT.out)
  
  refine wp_region_held_drew (S := fun v => v.cell? ⟨p, 18, none⟩ = some (.slice (some ⟨q, 0, none⟩) n n) ∧ v.rangeAt g3 0 f.v.key.cells) (by kernel_rfl) ?_ (fun hHeld => ?_)
  focus (exact ⟨((HE9.out.trans (Below.mono bup HE9.out.size)).cell (p := ⟨p, 18, none⟩) ltp9).trans (by rw [← hS1]; exact HCL9.out.2.2.2), range_below HR3.out lt39 (HE9.out.trans (Below.mono bup HE9.out.size))⟩)
  refine tk 0 (oi := ⟨some 42, _, _, _, _, _⟩) (v := ?_) rfl (by kernel_rfl) (.inl ⟨by rfl, ?_⟩) hHeld ?_; rotate_left; focus (intro w hSw; (try dsimp only at hSw); go_simp; try with_reducible rfl)
  simp only [PT]
  refine tk 1 (oi := ⟨some 43, _, _, _, _, _⟩) (v := ?_) rfl (by kernel_rfl) (.inl ⟨by rfl, ?_⟩) hHeld ?_; rotate_left; focus (intro w hSw; (try dsimp only at hSw); go_simp; try with_reducible rfl)
  simp only [PT]
  refine tk 2 (oi := ⟨some 44, _, _, _, _, _⟩) (v := ?_) rfl (by kernel_rfl) (.inl ⟨by rfl, ?_⟩) hHeld ?_; rotate_left; focus (intro w hSw; (try dsimp only at hSw); go_simp; try with_reducible rfl)
  simp only [PT]
  refine tk 3 (oi := ⟨some 45, _, _, _, _, _⟩) (v := ?_) rfl (by kernel_rfl) (.inl ⟨by rfl, ?_⟩) hHeld ?_; rotate_left; focus (intro w hSw; (try dsimp only at hSw); go_simp; try with_reducible rfl)
  simp only [PT]
  refine tk 4 (oi := ⟨some 46, _, _, _, _, _⟩) (v := ?_) rfl (by kernel_rfl) (.inl ⟨by rfl, ?_⟩) hHeld ?_; rotate_left; focus (intro w hSw; (try dsimp only at hSw); go_simp; try with_reducible rfl)
  simp only [PT]
  refine tk 5 (oi := ⟨some 47, _, _, _, _, _⟩) (v := ?_) rfl (by kernel_rfl) (.inl ⟨by rfl, ?_⟩) hHeld ?_; rotate_left; focus (intro w hSw; (try dsimp only at hSw); go_simp; try with_reducible rfl)
  simp only [PT]
  refine' tk 6 (oi := ⟨some 48, _, _, _, _, _⟩) (v := _) rfl (by kernel_rfl) (yieldsIf_load_mid (by rfl) _ _ rfl _ _ rfl (f.v.key.cells) _ (fun v hv => hv.2) (Try.underlying26) rfl (HIT.out)) hHeld ?_
  simp only [PT]
  refine wpAnyH_ready (rs := [7]) (by kernel_rfl) (by simp) ?_
  refine (AllReadyH.cons (o := ⟨some 49, _, _, _, _, _⟩) rfl (fun K hK => ?_) AllReadyH.nil)
  focus (go_simp; go_must (refine (find_any p q kb room cnt S f.v.key f.ok.1 f.ok.2.1 _ (HT.out.keep (HE9.out.trans (Below.mono bup HE9.out.size))) (free_of_len hfl1)).mono ?_); rintro e w10 ⟨j, rfl, hpr, hb10⟩; have HPR := Lib.hid hpr; have hjS := hpr.lt; have hjn : (j : Int) < n := (by rw [← hS1]; omega); clear hpr; replace HE9 := cE0 HE9 bup hb10; clear hb10; go_wp2_with fail)
  refine hK.out _ _ ?_ (fun hHeld => ?_)
  focus (exact ⟨((HE9.out.trans (Below.mono bup HE9.out.size)).cell (p := ⟨p, 18, none⟩) ltp9).trans (by rw [← hS1]; exact HCL9.out.2.2.2), range_below HR3.out lt39 (HE9.out.trans (Below.mono bup HE9.out.size))⟩)
  clear hK K
  try simp only [PT]
  refine tk 8 (oi := ⟨some 50, _, _, _, _, _⟩) (v := ?_) rfl (by kernel_rfl) (.inl ⟨by rfl, ?_⟩) hHeld ?_; rotate_left; focus (intro w hSw; (try dsimp only at hSw); go_simp; try with_reducible rfl)
  simp only [PT]
  refine tk 9 (oi := ⟨some 11, _, _, _, _, _⟩) (v := ?_) rfl (by kernel_rfl) (.inl ⟨by rfl, ?_⟩) hHeld ?_; rotate_left; focus (intro w hSw; (try dsimp only at hSw); go_simp; try with_reducible rfl)
  simp only [PT]
  refine wpAnyH_done (by kernel_rfl) ?_ _
  have HU : Hid (S[j].used = false) := Lib.hid (by
    rcases HGD.out.find HPR.out hjS with ⟨hu, hk⟩ | ⟨hu, _, _⟩
    · exact absurd hk (HNO.out _ (mem_flowsS.2 ⟨j, _, List.getElem?_eq_getElem hjS, hu, rfl⟩))
    · exact hu)
  have HT10 := Lib.hid (HT.out.keep HE9.out)
  have HSL := Lib.hid (Tb.slot HT10.out j hjS)
  have hc54 : w10.cell? ⟨q, j * 42, none⟩ = some (.bool false) := by rw [← HU.out]; exact HSL.out.1
  have HG3x := Lib.hid ((HE9.out.block g3 (lt_of_block HG3.out)).trans HG3.out)
  have HG4x := Lib.hid ((HE9.out.block g4 (lt_of_block HG4.out)).trans HG4.out)
  have HG7x := Lib.hid ((HE9.out.block g7 (lt_of_block HG7.out)).trans HG7.out)
  have HBTx := Lib.hid (HBT.out.trans (But.of_below HE9.out))
  clear HG3 HG4 HG7 HBT HE9
  have HPUT := Lib.hid (HGD.out.put HPR.out hjS HR.out)
  have HPF := Lib.hid (HGD.out.put_flows HPR.out hjS)
  have HIG : Hid ((Try.prog.info? 28).map (·.size) = some (zeroF).cells.length) := Lib.hid (by rw [Flo.length zeroF_ok]; exact flo_size)
  obtain ⟨c2, hc2⟩ : ∃ c2, c2 = cnt + 1 := ⟨_, rfl⟩
  have fw : IntKind.i64.wrap ((cnt : Int) + 1) = (c2 : Int) := by rw [IntKind.wrap_i64]; omega
  have HC2 := Lib.hid hc2
  clear hc2
  go_wp2_with (first
    | ((with_reducible refine sl 59 ?_); go_must (refine wpL_loadF rfl 3 (.tmp 58) rfl p 17 rfl (.int .i64 (cnt : Int)) HT10.out.hp (by rw [List.getElem?_toArray]; exact (tabC_at HT10.out.hk room cnt q _).2.2.1) Try.underlying3 rfl ?_); simp only [PT])
    | ((with_reducible show wpList _ _ _ (⟨none, .store _ (.tmp 62) _, _, _, _, _⟩ :: _) _ _); go_must (refine wpL_storeCnt rfl (.tmp 62) (.tmp 60) rfl HT10.out hpq c2 rfl (by first | rfl | (simp [fw]; done)) ?_); intro w11 hs__ hr__; have HT11 := Lib.hid hs__; replace HBTx := Lib.hid (HBTx.out.trans (But.of_p hr__)); replace HG3x := Lib.hid ((hr__.block g3 (lt_of_block HG3x.out) (fun e => by cases e; omega)).trans HG3x.out); replace HG4x := Lib.hid ((hr__.block g4 (lt_of_block HG4x.out) (fun e => by cases e; omega)).trans HG4x.out); replace HG7x := Lib.hid ((hr__.block g7 (lt_of_block HG7x.out) (fun e => by cases e; omega)).trans HG7x.out); clear hs__ hr__ hc54; simp only [PT])
    | ((with_reducible refine sl 64 ?_); go_must (refine wpL_load rfl 28 (.tmp 3) rfl g3 0 rfl f.v.cells _ (range_block HG3x.out) Try.underlying28 rfl HIX.out ?_); simp only [PT])
    | ((with_reducible refine sl 65 ?_); go_must (refine wpL_build rfl 79 _ rfl [(0, .bool true), (1, .agg f.v.cells.toArray)] rfl (Slt.cells ⟨true, f⟩).toArray (built_slot f) ?_); simp only [PT])
    | ((with_reducible show wpList _ _ _ (⟨none, .store _ (.tmp 66) _, _, _, _, _⟩ :: _) _ _); go_must (refine wpL_storeSlot rfl (.tmp 66) (.tmp 65) rfl HT11.out hpq j hjS ⟨true, f⟩ rfl rfl ?_); intro w12 hs__ hr__; have HT12 := Lib.hid hs__; replace HBTx := Lib.hid (HBTx.out.trans (But.of_q hr__)); replace HG4x := Lib.hid ((hr__.block g4 (lt_of_block HG4x.out) (fun e => by cases e; omega)).trans HG4x.out); replace HG7x := Lib.hid ((hr__.block g7 (lt_of_block HG7x.out) (fun e => by cases e; omega)).trans HG7x.out); clear hs__ hr__; (try clear hc54); simp only [PT])
    | ((with_reducible refine sl 67 ?_); go_must (refine wpL_load rfl 28 (.tmp 7) rfl g7 0 rfl (zeroF).cells _ (range_block HG7x.out) Try.underlying28 rfl HIG.out ?_); simp only [PT])
    | ((with_reducible show wpList _ _ _ (⟨none, .store _ (.tmp 4) _, _, _, _, _⟩ :: _) _ _); go_must (refine wpL_storeRow rfl 28 (.tmp 4) (.tmp 67) rfl g4 (zeroF).cells.toArray rfl rfl HG4x.out (by rw [List.size_toArray]; exact HIG.out) (by simp only [List.size_toArray, FloW.length, Flo.length zeroF_ok]) (flo_one _) ?_); intro w13 hs__ hr__; have HT13 : Hid (Tb w13 p q kb room c2 (S.set j ⟨true, f⟩)) := Lib.hid ⟨(hr__.block p (lt_of_block HT12.out.hp) (fun e => by cases e; omega)).trans HT12.out.hp, (hr__.block q (lt_of_block HT12.out.hq) (fun e => by cases e; omega)).trans HT12.out.hq, HT12.out.hk, HT12.out.h0, HT12.out.hn⟩; have HBF := Lib.hid (HBTx.out.own hr__ l04); have HGF := Lib.hid hs__; clear hs__ hr__ HG4x; simp only [PT]))
  refine bodyPost_cell1x (cs := (zeroF).cells) rfl rfl (range_block HGF.out) Try.underlying28 rfl HIG.out rfl ?_
  have hcl : c2 = (flowsS (S.set j ⟨true, f⟩)).length := by
    rw [HPF.out.length_eq, List.length_cons, filter_none HNO.out, HC2.out, HCN.out]
  exact ⟨zeroF, false, c2, _, rfl, HT13.out, HPUT.out, hcl, List.length_set, .inl ⟨rfl, rfl, .inr (by rw [← HCN.out]; exact hroom), HPF.out⟩, HBF.out⟩
theorem put_full (p q : Nat) (hpq : p ≠ q) (kb : List UInt8) (room cnt : Nat) (S : List Slt) (f : FloW) (hr : rightF f.v = true) (w : World) (ht : Tb w p q kb room cnt S) (g : Good kb S) (hcnt : cnt = (flowsS S).length) (hrm : cnt ≤ room) (hlt : room + room ≤ S.length) (hrm1 : 1 ≤ room) (hno : ∀ x ∈ flowsS S, x.v.key ≠ f.v.key) (hroom : room ≤ cnt) (hr1 : 1 ≤ room) :
    Calls Try.prog 21 #[.pointer (some ⟨p, 0, none⟩), .agg f.v.cells.toArray] w (Putted p q kb room S f w) := by
  have HB := Lib.hid (Below.refl w.heap.size w)
  have HT := Lib.hid ht
  have hsz : f.v.name.size ≤ 140737488351232 := Nat.le_trans (right_size hr) (by decide)
  have HR := Lib.hid hr
  have hfl : (flowsS S).length < S.length := by omega
  have HFL := Lib.hid hfl
  have HGD := Lib.hid g
  have HCN := Lib.hid hcnt
  have hc8 : cnt ≤ 8192 := by have := ht.hn; omega
  have hr8 : room ≤ 8192 := by have := ht.hn; omega
  have ltp := lt_of_block ht.hp
  have ltq := lt_of_block ht.hq
  have HIF := Lib.hid flo_info
  have HIX : Hid ((Try.prog.info? 28).map (·.size) = some f.v.cells.length) := Lib.hid (by rw [FloW.length]; exact flo_size)
  have HIT : Hid ((Try.prog.info? 26).map (·.size) = some f.v.key.cells.length) := Lib.hid (by rw [Tup.length f.ok.1]; exact tup_size)
  have HKT := Lib.hid (Flo.tup f.ok)
  obtain ⟨n, hn⟩ : ∃ n, n = S.length := ⟨_, rfl⟩
  have HN := Lib.hid hn
  have HNO := Lib.hid hno
  have hcr : (room : Int) ≤ (cnt : Int) := by omega
  have hcr2 : room ≤ cnt := hroom
  
  
  clear hr g hcnt hfl hn hno ht
  go_enter Try.func21, Try.ntmps21
  go_wp2_with (first
    | ((with_reducible refine sl 3 ?_); go_must (refine wpL_boxG rfl 28 (.tmp 1) rfl f.v.cells.toArray rfl ?_); intro w1 g3 he__ le_g3 lt_g3 hg__ hb__; have HG3 := Lib.hid hg__; have l03 : w.heap.size ≤ g3 := (by have := HB.out.size; omega); have hE__ := cU HB bup hb__; replace HB := ck HB hE__; replace HT := ck HT hE__; clear hE__; clear hg__ hb__ he__; simp only [PT])
    | ((with_reducible refine sl 4 ?_); go_must (refine wpL_allocG rfl 28 rfl _ zeroF.cells.toArray 41 HIF.out rfl ?_); intro w2 g4 he__ le_g4 lt_g4 hg__ hb__; have HG4 := Lib.hid hg__; have l04 : w.heap.size ≤ g4 := (by have := HB.out.size; omega); have l34 : g3 ≠ g4 := (by omega); have hE__ := cU HB bup hb__; replace HB := ck HB hE__; replace HT := ck HT hE__; replace HG3 := ck HG3 hE__; clear hE__; clear hg__ hb__ he__; simp only [PT])
    | ((with_reducible refine sl 12 ?_); go_must (refine wpL_load rfl 28 (.tmp 3) rfl g3 0 rfl f.v.cells _ (range_block HG3.out) Try.underlying28 rfl HIX.out ?_); simp only [PT])
    | (go_at_call 13; go_must (refine (right_any f.v f.ok hsz _).mono ?_); rw [HR.out]; rintro e w3 ⟨rfl, hb3⟩; have hE__ := cU HB bup hb3; replace HB := ck HB hE__; replace HT := ck HT hE__; replace HG3 := ck HG3 hE__; replace HG4 := ck HG4 hE__; clear hE__; clear hb3)
    | ((with_reducible refine sl 7 ?_); go_must (refine wpL_allocG rfl 28 rfl _ zeroF.cells.toArray 41 HIF.out rfl ?_); intro w4 g7 he__ le_g7 lt_g7 hg__ hb__; have HG7 := Lib.hid hg__; have l07 : w.heap.size ≤ g7 := (by have := HB.out.size; omega); have l37 : g3 ≠ g7 := (by have := lt_of_block HG3.out; omega); have l47 : g4 ≠ g7 := (by have := lt_of_block HG4.out; omega); have hE__ := cU HB bup hb__; replace HB := ck HB hE__; replace HT := ck HT hE__; replace HG3 := ck HG3 hE__; replace HG4 := ck HG4 hE__; clear hE__; clear hg__ hb__ he__; simp only [PT])
    | ((with_reducible refine sl 19 ?_); go_must (refine wpL_load rfl 26 (.tmp 18) rfl g3 0 rfl f.v.key.cells _ (range_sub HG3.out HKT.out) Try.underlying26 rfl HIT.out ?_); simp only [PT])
    | (go_at_call 20; go_must (refine (get_none p q kb room cnt S f.v.key f.ok.1 f.ok.2.1 _ HT.out HGD.out HFL.out HNO.out).mono ?_); rintro e w5 ⟨rfl, hb5⟩; have hE__ := cU HB bup hb5; replace HB := ck HB hE__; replace HT := ck HT hE__; replace HG3 := ck HG3 hE__; replace HG4 := ck HG4 hE__; replace HG7 := ck HG7 hE__; clear hE__; clear hb5)
    | ((with_reducible refine sl 9 ?_); go_must (refine wpL_newR rfl rfl 28 rfl (.tmp 9) (.tmp 21) rfl (zeroF).cells.toArray zeroF.cells.toArray (by rw [List.size_toArray, Flo.length zeroF_ok]; exact flo_info) (by simp only [List.size_toArray, FloW.length, Flo.length zeroF_ok]) (flo_one _) (fun _ => rfl) (fun _ => rfl) ?_); intro w6 hg__ hb__; have hE__ := cU HB bup hb__; replace HB := ck HB hE__; replace HT := ck HT hE__; replace HG3 := ck HG3 hE__; replace HG4 := ck HG4 hE__; replace HG7 := ck HG7 hE__; clear hE__; clear hg__ hb__; simp only [PT]))
  have HCL := Lib.hid (Tb.cells HT.out)
  have ltp6 := lt_of_block HT.out.hp
  have ltq6 := lt_of_block HT.out.hq
  have HE := Lib.hid (Below.refl w6.heap.size w6)
  refine wp_region_held_drew (S := fun v => v.cell? ⟨p, 17, none⟩ = some (.int .i64 (cnt : Int)) ∧ v.cell? ⟨p, 16, none⟩ = some (.int .i64 (room : Int))) (by kernel_rfl) ?_ (fun hHeld => ?_)
  focus (exact ⟨((HE.out.trans (Below.mono bup HE.out.size)).cell (p := ⟨p, 17, none⟩) ltp6).trans HCL.out.2.2.1, ((HE.out.trans (Below.mono bup HE.out.size)).cell (p := ⟨p, 16, none⟩) ltp6).trans HCL.out.2.1⟩)
  refine tk 0 (oi := ⟨some 23, _, _, _, _, _⟩) (v := ?_) rfl (by kernel_rfl) (.inl ⟨by rfl, ?_⟩) hHeld ?_; rotate_left; focus (intro w hSw; (try dsimp only at hSw); go_simp; try with_reducible rfl)
  simp only [PT]
  refine tk 1 (oi := ⟨some 24, _, _, _, _, _⟩) (v := ?_) rfl (by kernel_rfl) (.inl ⟨by rfl, ?_⟩) hHeld ?_; rotate_left; focus (intro w hSw; (try dsimp only at hSw); go_simp; try with_reducible rfl)
  simp only [PT]
  refine tk 2 (oi := ⟨some 25, _, _, _, _, _⟩) (v := ?_) rfl (by kernel_rfl) (.inl ⟨by rfl, ?_⟩) hHeld ?_; rotate_left; focus (intro w hSw; (try dsimp only at hSw); go_simp; try with_reducible rfl)
  simp only [PT]
  first | (refine tk 3 (oi := ⟨some 26, _, _, _, _, _⟩) (v := undef) rfl (by kernel_rfl) (.inr ⟨by rfl, rfl⟩) hHeld ?_) | (refine tk 3 (oi := ⟨some 26, _, _, _, _, _⟩) (v := ?_) rfl (by kernel_rfl) (.inl ⟨by rfl, ?_⟩) hHeld ?_; rotate_left; focus (intro w hSw; (try dsimp only at hSw); go_simp; try with_reducible rfl))
  simp only [PT]
  first | (refine tk 4 (oi := ⟨some 27, _, _, _, _, _⟩) (v := undef) rfl (by kernel_rfl) (.inr ⟨by rfl, rfl⟩) hHeld ?_) | (refine tk 4 (oi := ⟨some 27, _, _, _, _, _⟩) (v := ?_) rfl (by kernel_rfl) (.inl ⟨by rfl, ?_⟩) hHeld ?_; rotate_left; focus (intro w hSw; (try dsimp only at hSw); go_simp; try with_reducible rfl))
  simp only [PT]
  first | (refine tk 5 (oi := ⟨some 28, _, _, _, _, _⟩) (v := undef) rfl (by kernel_rfl) (.inr ⟨by rfl, rfl⟩) hHeld ?_) | (refine tk 5 (oi := ⟨some 28, _, _, _, _, _⟩) (v := ?_) rfl (by kernel_rfl) (.inl ⟨by rfl, ?_⟩) hHeld ?_; rotate_left; focus (intro w hSw; (try dsimp only at hSw); go_simp; try with_reducible rfl))
  simp only [PT]
  first | (refine tk 6 (oi := ⟨some 29, _, _, _, _, _⟩) (v := undef) rfl (by kernel_rfl) (.inr ⟨by rfl, rfl⟩) hHeld ?_) | (refine tk 6 (oi := ⟨some 29, _, _, _, _, _⟩) (v := ?_) rfl (by kernel_rfl) (.inl ⟨by rfl, ?_⟩) hHeld ?_; rotate_left; focus (intro w hSw; (try dsimp only at hSw); go_simp; try with_reducible rfl))
  simp only [PT]
  first | (refine tk 7 (oi := ⟨some 30, _, _, _, _, _⟩) (v := undef) rfl (by kernel_rfl) (.inr ⟨by rfl, rfl⟩) hHeld ?_) | (refine tk 7 (oi := ⟨some 30, _, _, _, _, _⟩) (v := ?_) rfl (by kernel_rfl) (.inl ⟨by rfl, ?_⟩) hHeld ?_; rotate_left; focus (intro w hSw; (try dsimp only at hSw); go_simp; try with_reducible rfl))
  simp only [PT]
  first | (refine tk 8 (oi := ⟨some 31, _, _, _, _, _⟩) (v := undef) rfl (by kernel_rfl) (.inr ⟨by rfl, rfl⟩) hHeld ?_) | (refine tk 8 (oi := ⟨some 31, _, _, _, _, _⟩) (v := ?_) rfl (by kernel_rfl) (.inl ⟨by rfl, ?_⟩) hHeld ?_; rotate_left; focus (intro w hSw; (try dsimp only at hSw); go_simp; try with_reducible rfl))
  simp only [PT]
  first | (refine tk 9 (oi := ⟨some 32, _, _, _, _, _⟩) (v := undef) rfl (by kernel_rfl) (.inr ⟨by rfl, rfl⟩) hHeld ?_) | (refine tk 9 (oi := ⟨some 32, _, _, _, _, _⟩) (v := ?_) rfl (by kernel_rfl) (.inl ⟨by rfl, ?_⟩) hHeld ?_; rotate_left; focus (intro w hSw; (try dsimp only at hSw); go_simp; try with_reducible rfl))
  simp only [PT]
  first | (refine tk 10 (oi := ⟨some 33, _, _, _, _, _⟩) (v := undef) rfl (by kernel_rfl) (.inr ⟨by rfl, rfl⟩) hHeld ?_) | (refine tk 10 (oi := ⟨some 33, _, _, _, _, _⟩) (v := ?_) rfl (by kernel_rfl) (.inl ⟨by rfl, ?_⟩) hHeld ?_; rotate_left; focus (intro w hSw; (try dsimp only at hSw); go_simp; try with_reducible rfl))
  simp only [PT]
  first | (refine tk 11 (oi := ⟨some 34, _, _, _, _, _⟩) (v := undef) rfl (by kernel_rfl) (.inr ⟨by rfl, rfl⟩) hHeld ?_) | (refine tk 11 (oi := ⟨some 34, _, _, _, _, _⟩) (v := ?_) rfl (by kernel_rfl) (.inl ⟨by rfl, ?_⟩) hHeld ?_; rotate_left; focus (intro w hSw; (try dsimp only at hSw); go_simp; try with_reducible rfl))
  simp only [PT]
  refine tk 12 (oi := ⟨some 35, _, _, _, _, _⟩) (v := ?_) rfl (by kernel_rfl) (.inl ⟨by rfl, ?_⟩) hHeld ?_; rotate_left; focus (intro w hSw; (try dsimp only at hSw); go_simp; try with_reducible rfl)
  simp only [PT]
  refine wpAnyH_done (by kernel_rfl) ?_ _
  have hmn : ∃ g0, minL (flowsS S) = some g0 := by
    cases h : minL (flowsS S) with
    | some g0 => exact ⟨g0, rfl⟩
    | none =>
      exfalso
      have e := minL_none (l := flowsS S)
      rw [h] at e
      have hl := HCN.out
      cases hq : flowsS S with
      | nil => rw [hq] at hl; simp at hl; omega
      | cons a b => rw [hq] at e; simp at e
  obtain ⟨g0, hg0⟩ := hmn
  have HM0 := Lib.hid hg0
  have HG0M := Lib.hid (minL_mem hg0)
  have HNOO : Hid (∀ x ∈ flowsS S, noOk x.v) := Lib.hid (fun x hx => right_no (HGD.out.known hx))
  have HI0 : Hid ((Try.prog.info? 28).map (·.size) = some g0.v.cells.length) := Lib.hid (by rw [FloW.length]; exact flo_size)
  have HI0T : Hid ((Try.prog.info? 26).map (·.size) = some g0.v.key.cells.length) := Lib.hid (by rw [Tup.length g0.ok.1]; exact tup_size)
  have HK0 := Lib.hid (Flo.tup g0.ok)
  clear hg0 hcr hcr2
  go_wp2_with (first
    | (go_at_call 41; go_must (refine (oldest_any p q kb room cnt S HNOO.out _ (HT.out.keep bup)).mono ?_); rw [HM0.out]; rintro e w7 ⟨rfl, hb7⟩; have hE__ := cU HB bup hb7; replace HB := ck HB hE__; replace HT := ck HT hE__; replace HG3 := ck HG3 hE__; replace HG4 := ck HG4 hE__; replace HG7 := ck HG7 hE__; clear hE__; clear hb7)
    | ((with_reducible show wpList _ _ _ (⟨none, .store _ (.tmp 7) _, _, _, _, _⟩ :: _) _ _); go_must (refine wpL_storeRow rfl 28 (.tmp 7) (.tmp 37) rfl g7 g0.v.cells.toArray rfl rfl HG7.out (by rw [List.size_toArray]; exact HI0.out) (by simp only [List.size_toArray, FloW.length, Flo.length zeroF_ok]) (flo_one _) ?_); intro w8 hs__ hr__; replace HB := cg HB bup hr__ l07; replace HG3 := cg HG3 bup hr__ l37; replace HG4 := cg HG4 bup hr__ l47; have HT8 : Hid (Tb w8 p q kb room cnt S) := Lib.hid ⟨(hr__.block p (lt_of_block HT.out.hp) (fun e => by cases e; omega)).trans HT.out.hp, (hr__.block q (lt_of_block HT.out.hq) (fun e => by cases e; omega)).trans HT.out.hq, HT.out.hk, HT.out.h0, HT.out.hn⟩; clear HT HG7; have HT := HT8; clear HT8; have HG7 := Lib.hid hs__; clear hs__ hr__; simp only [PT])
    | ((with_reducible refine sl 40 ?_); go_must (refine wpL_load rfl 26 (.tmp 39) rfl g7 0 rfl g0.v.key.cells _ (range_sub HG7.out HK0.out) Try.underlying26 rfl HI0T.out ?_); simp only [PT])
    | (go_at_call 23; go_must (refine (drop_some p q hpq kb room cnt S g0 _ HT.out HGD.out HCN.out HFL.out HG0M.out).mono ?_); rintro e w9 ⟨rfl, S1, hT9, hG9, hL9, hP9, hb9⟩; have HT9 := Lib.hid hT9; have HGD1 := Lib.hid hG9; have HL9 := Lib.hid hL9; have HP9 := Lib.hid hP9; have HBT := Lib.hid ((But.of_below (p := p) (q := q) HB.out).trans hb9); replace HG3 := Lib.hid (hb9.keep HG3.out (by omega) (by omega)); replace HG4 := Lib.hid (hb9.keep HG4.out (by omega) (by omega)); replace HG7 := Lib.hid (hb9.keep HG7.out (by omega) (by omega)); clear hT9 hG9 hL9 hP9 hb9 HT HB))
  have HNO1 : Hid (∀ x ∈ flowsS S1, x.v.key ≠ f.v.key) := Lib.hid (fun x hx => HNO.out x (HP9.out.symm.mem_iff.1 (List.mem_cons_of_mem _ hx)))
  have hS1 : S1.length = n := by rw [HL9.out, HN.out]
  have hlen9 : (flowsS S).length = (flowsS S1).length + 1 := HP9.out.length_eq
  have HC9 : Hid (cnt - 1 = (flowsS S1).length) := Lib.hid (by rw [HCN.out, hlen9]; rfl)
  have hfl1 : (flowsS S1).length < S1.length := by have := HFL.out; rw [HL9.out]; omega
  obtain ⟨c1, hc1⟩ : ∃ c1, c1 = cnt - 1 := ⟨_, rfl⟩
  rw [← hc1] at HT9 HC9
  have hc1l : c1 ≤ 8192 := by omega
  clear hc1
  have HGD2 := HGD1
  have HCL9 := Lib.hid (Tb.cells HT9.out)
  have ltp9 := lt_of_block HT9.out.hp
  have ltq9 := lt_of_block HT9.out.hq
  have lt39 := lt_of_block HG3.out
  have HE9 := Lib.hid (Below.refl w9.heap.size w9)
  have HR3 := Lib.hid (range_sub HG3.out HKT.out)
  go_wp2_with fail
  refine wp_region_held_drew (S := fun v => v.cell? ⟨p, 18, none⟩ = some (.slice (some ⟨q, 0, none⟩) n n) ∧ v.rangeAt g3 0 f.v.key.cells) (by kernel_rfl) ?_ (fun hHeld => ?_)
  focus (exact ⟨((HE9.out.trans (Below.mono bup HE9.out.size)).cell (p := ⟨p, 18, none⟩) ltp9).trans (by rw [← hS1]; exact HCL9.out.2.2.2), range_below HR3.out lt39 (HE9.out.trans (Below.mono bup HE9.out.size))⟩)
  refine tk 0 (oi := ⟨some 42, _, _, _, _, _⟩) (v := ?_) rfl (by kernel_rfl) (.inl ⟨by rfl, ?_⟩) hHeld ?_; rotate_left; focus (intro w hSw; (try dsimp only at hSw); go_simp; try with_reducible rfl)
  simp only [PT]
  refine tk 1 (oi := ⟨some 43, _, _, _, _, _⟩) (v := ?_) rfl (by kernel_rfl) (.inl ⟨by rfl, ?_⟩) hHeld ?_; rotate_left; focus (intro w hSw; (try dsimp only at hSw); go_simp; try with_reducible rfl)
  simp only [PT]
  refine tk 2 (oi := ⟨some 44, _, _, _, _, _⟩) (v := ?_) rfl (by kernel_rfl) (.inl ⟨by rfl, ?_⟩) hHeld ?_; rotate_left; focus (intro w hSw; (try dsimp only at hSw); go_simp; try with_reducible rfl)
  simp only [PT]
  refine tk 3 (oi := ⟨some 45, _, _, _, _, _⟩) (v := ?_) rfl (by kernel_rfl) (.inl ⟨by rfl, ?_⟩) hHeld ?_; rotate_left; focus (intro w hSw; (try dsimp only at hSw); go_simp; try with_reducible rfl)
  simp only [PT]
  refine tk 4 (oi := ⟨some 46, _, _, _, _, _⟩) (v := ?_) rfl (by kernel_rfl) (.inl ⟨by rfl, ?_⟩) hHeld ?_; rotate_left; focus (intro w hSw; (try dsimp only at hSw); go_simp; try with_reducible rfl)
  simp only [PT]
  refine tk 5 (oi := ⟨some 47, _, _, _, _, _⟩) (v := ?_) rfl (by kernel_rfl) (.inl ⟨by rfl, ?_⟩) hHeld ?_; rotate_left; focus (intro w hSw; (try dsimp only at hSw); go_simp; try with_reducible rfl)
  simp only [PT]
  refine' tk 6 (oi := ⟨some 48, _, _, _, _, _⟩) (v := _) rfl (by kernel_rfl) (yieldsIf_load_mid (by rfl) _ _ rfl _ _ rfl (f.v.key.cells) _ (fun v hv => hv.2) (Try.underlying26) rfl (HIT.out)) hHeld ?_
  simp only [PT]
  refine wpAnyH_ready (rs := [7]) (by kernel_rfl) (by simp) ?_
  refine (AllReadyH.cons (o := ⟨some 49, _, _, _, _, _⟩) rfl (fun K hK => ?_) AllReadyH.nil)
  focus (go_simp; go_must (refine (find_any p q kb room c1 S1 f.v.key f.ok.1 f.ok.2.1 _ (HT9.out.keep (HE9.out.trans (Below.mono bup HE9.out.size))) (free_of_len hfl1)).mono ?_); rintro e w10 ⟨j, rfl, hpr, hb10⟩; have HPR := Lib.hid hpr; have hjS := hpr.lt; have hjn : (j : Int) < n := (by rw [← hS1]; omega); clear hpr; replace HE9 := cE0 HE9 bup hb10; clear hb10; go_wp2_with fail)
  refine hK.out _ _ ?_ (fun hHeld => ?_)
  focus (exact ⟨((HE9.out.trans (Below.mono bup HE9.out.size)).cell (p := ⟨p, 18, none⟩) ltp9).trans (by rw [← hS1]; exact HCL9.out.2.2.2), range_below HR3.out lt39 (HE9.out.trans (Below.mono bup HE9.out.size))⟩)
  clear hK K
  try simp only [PT]
  refine tk 8 (oi := ⟨some 50, _, _, _, _, _⟩) (v := ?_) rfl (by kernel_rfl) (.inl ⟨by rfl, ?_⟩) hHeld ?_; rotate_left; focus (intro w hSw; (try dsimp only at hSw); go_simp; try with_reducible rfl)
  simp only [PT]
  refine tk 9 (oi := ⟨some 11, _, _, _, _, _⟩) (v := ?_) rfl (by kernel_rfl) (.inl ⟨by rfl, ?_⟩) hHeld ?_; rotate_left; focus (intro w hSw; (try dsimp only at hSw); go_simp; try with_reducible rfl)
  simp only [PT]
  refine wpAnyH_done (by kernel_rfl) ?_ _
  have HU : Hid (S1[j].used = false) := Lib.hid (by
    rcases HGD1.out.find HPR.out hjS with ⟨hu, hk⟩ | ⟨hu, _, _⟩
    · exact absurd hk (HNO1.out _ (mem_flowsS.2 ⟨j, _, List.getElem?_eq_getElem hjS, hu, rfl⟩))
    · exact hu)
  have HT10 := Lib.hid (HT9.out.keep HE9.out)
  have HSL := Lib.hid (Tb.slot HT10.out j hjS)
  have hc54 : w10.cell? ⟨q, j * 42, none⟩ = some (.bool false) := by rw [← HU.out]; exact HSL.out.1
  have HG3x := Lib.hid ((HE9.out.block g3 (lt_of_block HG3.out)).trans HG3.out)
  have HG4x := Lib.hid ((HE9.out.block g4 (lt_of_block HG4.out)).trans HG4.out)
  have HG7x := Lib.hid ((HE9.out.block g7 (lt_of_block HG7.out)).trans HG7.out)
  have HBTx := Lib.hid (HBT.out.trans (But.of_below HE9.out))
  clear HG3 HG4 HG7 HBT HE9
  have HPUT := Lib.hid (HGD1.out.put HPR.out hjS HR.out)
  have HPF := Lib.hid (HGD1.out.put_flows HPR.out hjS)
  have HIG : Hid ((Try.prog.info? 28).map (·.size) = some (g0.v).cells.length) := Lib.hid (by rw [FloW.length g0]; exact flo_size)
  obtain ⟨c2, hc2⟩ : ∃ c2, c2 = c1 + 1 := ⟨_, rfl⟩
  have fw : IntKind.i64.wrap ((c1 : Int) + 1) = (c2 : Int) := by rw [IntKind.wrap_i64]; omega
  have HC2 := Lib.hid hc2
  clear hc2
  go_wp2_with (first
    | ((with_reducible refine sl 59 ?_); go_must (refine wpL_loadF rfl 3 (.tmp 58) rfl p 17 rfl (.int .i64 (c1 : Int)) HT10.out.hp (by rw [List.getElem?_toArray]; exact (tabC_at HT10.out.hk room c1 q _).2.2.1) Try.underlying3 rfl ?_); simp only [PT])
    | ((with_reducible show wpList _ _ _ (⟨none, .store _ (.tmp 62) _, _, _, _, _⟩ :: _) _ _); go_must (refine wpL_storeCnt rfl (.tmp 62) (.tmp 60) rfl HT10.out hpq c2 rfl (by first | rfl | (simp [fw]; done)) ?_); intro w11 hs__ hr__; have HT11 := Lib.hid hs__; replace HBTx := Lib.hid (HBTx.out.trans (But.of_p hr__)); replace HG3x := Lib.hid ((hr__.block g3 (lt_of_block HG3x.out) (fun e => by cases e; omega)).trans HG3x.out); replace HG4x := Lib.hid ((hr__.block g4 (lt_of_block HG4x.out) (fun e => by cases e; omega)).trans HG4x.out); replace HG7x := Lib.hid ((hr__.block g7 (lt_of_block HG7x.out) (fun e => by cases e; omega)).trans HG7x.out); clear hs__ hr__ hc54; simp only [PT])
    | ((with_reducible refine sl 64 ?_); go_must (refine wpL_load rfl 28 (.tmp 3) rfl g3 0 rfl f.v.cells _ (range_block HG3x.out) Try.underlying28 rfl HIX.out ?_); simp only [PT])
    | ((with_reducible refine sl 65 ?_); go_must (refine wpL_build rfl 79 _ rfl [(0, .bool true), (1, .agg f.v.cells.toArray)] rfl (Slt.cells ⟨true, f⟩).toArray (built_slot f) ?_); simp only [PT])
    | ((with_reducible show wpList _ _ _ (⟨none, .store _ (.tmp 66) _, _, _, _, _⟩ :: _) _ _); go_must (refine wpL_storeSlot rfl (.tmp 66) (.tmp 65) rfl HT11.out hpq j hjS ⟨true, f⟩ rfl rfl ?_); intro w12 hs__ hr__; have HT12 := Lib.hid hs__; replace HBTx := Lib.hid (HBTx.out.trans (But.of_q hr__)); replace HG4x := Lib.hid ((hr__.block g4 (lt_of_block HG4x.out) (fun e => by cases e; omega)).trans HG4x.out); replace HG7x := Lib.hid ((hr__.block g7 (lt_of_block HG7x.out) (fun e => by cases e; omega)).trans HG7x.out); clear hs__ hr__; (try clear hc54); simp only [PT])
    | ((with_reducible refine sl 67 ?_); go_must (refine wpL_load rfl 28 (.tmp 7) rfl g7 0 rfl (g0.v).cells _ (range_block HG7x.out) Try.underlying28 rfl HIG.out ?_); simp only [PT])
    | ((with_reducible show wpList _ _ _ (⟨none, .store _ (.tmp 4) _, _, _, _, _⟩ :: _) _ _); go_must (refine wpL_storeRow rfl 28 (.tmp 4) (.tmp 67) rfl g4 (g0.v).cells.toArray rfl rfl HG4x.out (by rw [List.size_toArray]; exact HIG.out) (by simp only [List.size_toArray, FloW.length, Flo.length zeroF_ok]) (flo_one _) ?_); intro w13 hs__ hr__; have HT13 : Hid (Tb w13 p q kb room c2 (S1.set j ⟨true, f⟩)) := Lib.hid ⟨(hr__.block p (lt_of_block HT12.out.hp) (fun e => by cases e; omega)).trans HT12.out.hp, (hr__.block q (lt_of_block HT12.out.hq) (fun e => by cases e; omega)).trans HT12.out.hq, HT12.out.hk, HT12.out.h0, HT12.out.hn⟩; have HBF := Lib.hid (HBTx.out.own hr__ l04); have HGF := Lib.hid hs__; clear hs__ hr__ HG4x; simp only [PT]))
  refine bodyPost_cell1x (cs := (g0.v).cells) rfl rfl (range_block HGF.out) Try.underlying28 rfl HIG.out rfl ?_
  have hPF := HPF.out
  rw [filter_none HNO1.out] at hPF
  have hcl : c2 = (flowsS (S1.set j ⟨true, f⟩)).length := by
    rw [hPF.length_eq, List.length_cons, HC2.out, HC9.out]
  exact ⟨g0.v, true, c2, _, rfl, HT13.out, HPUT.out, hcl, by rw [List.length_set]; exact HL9.out, .inr ⟨rfl, HNO.out, by rw [← HCN.out]; exact hroom, g0, flowsS S1, HM0.out, rfl, HP9.out, hPF⟩, HBF.out⟩
end Go.Proofs.Ytgpdlhbndoeldaa
/-
  Chapter 21: a table as a whole: what its functions answer, told by its flows.
-/
namespace Go.Proofs.Ytgpdlhbndoeldaa
open Go.RowKit Go.Sort
set_option linter.unusedVariables false
set_option linter.unusedSimpArgs false
set_option maxRecDepth 100000

/-- a table lies at p, q -/
structure Rep (w : World) (p q : Nat) (kb : List UInt8) (room : Nat) (S : List Slt) : Prop where
  tb : Tb w p q kb room (flowsS S).length S
  good : Good kb S
  le : (flowsS S).length ≤ room
  two : room + room ≤ S.length
  one : 1 ≤ room
  ne : p ≠ q
theorem Rep.keep {w w' : World} {p q : Nat} {kb : List UInt8} {room : Nat} {S : List Slt} (h : Rep w p q kb room S) (hb : Below w.heap.size w w') : Rep w' p q kb room S := ⟨h.tb.keep hb, h.good, h.le, h.two, h.one, h.ne⟩
instance {w w' : World} {p q : Nat} {kb : List UInt8} {room : Nat} {S : List Slt} : Ck (Rep w p q kb room S) w' w (Rep w' p q kb room S) := ⟨fun h hE => h.keep hE⟩
theorem Rep.lt {w : World} {p q : Nat} {kb : List UInt8} {room : Nat} {S : List Slt} (h : Rep w p q kb room S) : (flowsS S).length < S.length := by have := h.le; have := h.two; have := h.one; omega
theorem Rep.no {w : World} {p q : Nat} {kb : List UInt8} {room : Nat} {S : List Slt} (h : Rep w p q kb room S) : ∀ x ∈ flowsS S, noOk x.v := fun x hx => right_no (h.good.known hx)
/-- writes elsewhere -/
theorem Rep.grown {w w' : World} {p q g : Nat} {kb : List UInt8} {room : Nat} {S : List Slt} (h : Rep w p q kb room S) (hg : w.grownBy w' (some g)) (h1 : p ≠ g) (h2 : q ≠ g) : Rep w' p q kb room S :=
  ⟨⟨(hg.block p (lt_of_block h.tb.hp) (fun e => by cases e; exact h1 rfl)).trans h.tb.hp, (hg.block q (lt_of_block h.tb.hq) (fun e => by cases e; exact h2 rfl)).trans h.tb.hq, h.tb.hk, h.tb.h0, h.tb.hn⟩, h.good, h.le, h.two, h.one, h.ne⟩
/-- .. by another table -/
theorem Rep.but {w w' : World} {p q p2 q2 : Nat} {kb : List UInt8} {room : Nat} {S : List Slt} (h : Rep w p q kb room S) (hb : But p2 q2 w w') (h1 : p ≠ p2) (h2 : p ≠ q2) (h3 : q ≠ p2) (h4 : q ≠ q2) : Rep w' p q kb room S :=
  ⟨⟨hb.keep h.tb.hp h1 h2, hb.keep h.tb.hq h3 h4, h.tb.hk, h.tb.h0, h.tb.hn⟩, h.good, h.le, h.two, h.one, h.ne⟩
/-- the flow of a key -/
def look (S : List Slt) (k : Tup) : Option FloW := (flowsS S).find? (fun x => decide (x.v.key = k))
def lookV (S : List Slt) (k : Tup) : Flo := match look S k with | some x => x.v | none => zeroF
theorem look_none {S : List Slt} {k : Tup} : look S k = none ↔ ∀ x ∈ flowsS S, x.v.key ≠ k := by
  unfold look
  rw [List.find?_eq_none]
  simp
theorem look_some {S : List Slt} {k : Tup} {x : FloW} (h : look S k = some x) : x ∈ flowsS S ∧ x.v.key = k := by
  unfold look at h
  exact ⟨List.mem_of_find?_eq_some h, by simpa using List.find?_some h⟩
theorem get_rep (p q : Nat) (kb : List UInt8) (room : Nat) (S : List Slt) (k : Tup) (ho : k.ok) (hwf : k.wf) (w : World) (h : Rep w p q kb room S) :
    Calls Try.prog 20 #[.pointer (some ⟨p, 0, none⟩), .agg k.cells.toArray] w fun e w' => e = .returned (.tuple #[.agg (lookV S k).cells.toArray, .bool (look S k).isSome]) ∧ Below w.heap.size w w' := by
  cases hl : look S k with
  | none =>
    have e : lookV S k = zeroF := by unfold lookV; rw [hl]
    rw [e]
    exact get_none p q kb room _ S k ho hwf w h.tb h.good h.lt (look_none.1 hl)
  | some x =>
    have e : lookV S k = x.v := by unfold lookV; rw [hl]
    obtain ⟨hm, rfl⟩ := look_some hl
    rw [e]
    exact get_some p q kb room _ S x w h.tb h.good h.lt hm
theorem put_rep (p q : Nat) (kb : List UInt8) (room : Nat) (S : List Slt) (f : FloW) (hr : rightF f.v = true) (w : World) (h : Rep w p q kb room S) :
    Calls Try.prog 21 #[.pointer (some ⟨p, 0, none⟩), .agg f.v.cells.toArray] w fun e w' => ∃ gone left S', e = .returned (.tuple #[.agg (Flo.cells gone).toArray, .bool left, .int .i64 0]) ∧ Rep w' p q kb room S' ∧ PutS room S f gone left S' ∧ But p q w w' := by
  have base : Calls Try.prog 21 #[.pointer (some ⟨p, 0, none⟩), .agg f.v.cells.toArray] w (Putted p q kb room S f w) := by
    rcases Classical.em (∃ x ∈ flowsS S, x.v.key = f.v.key) with ⟨f0, h1, h2⟩ | hn
    · exact put_there p q h.ne kb room _ S f hr w h.tb h.good rfl h.le h.two h.one f0 h1 h2
    · have hno : ∀ x ∈ flowsS S, x.v.key ≠ f.v.key := fun x hx hk => hn ⟨x, hx, hk⟩
      rcases Nat.lt_or_ge (flowsS S).length room with h1 | h1
      · exact put_room p q h.ne kb room _ S f hr w h.tb h.good rfl h.le h.two h.one hno h1
      · exact put_full p q h.ne kb room _ S f hr w h.tb h.good rfl h.le h.two h.one hno h1 h.one
  refine base.mono fun e w' hp => ?_
  obtain ⟨gone, left, cnt', S', he, ht, hg, hc, hl, hps, hb⟩ := hp
  subst hc
  have hle : (flowsS S').length ≤ room := by
    rcases hps with ⟨_, _, h1, h2⟩ | ⟨_, _, h1, g0, R, _, _, h2, h3⟩
    · rw [h2.length_eq, List.length_cons]
      rcases h1 with ⟨x, hx, hk⟩ | h1
      · rw [← hk, filter_len h.good hx]; exact h.le
      · have := List.length_filter_le (fun x : FloW => decide (x.v.key ≠ f.v.key)) (flowsS S); omega
    · rw [h3.length_eq, List.length_cons]
      have := h2.length_eq
      rw [List.length_cons] at this
      have := h.le
      omega
  exact ⟨gone, left, S', he, ⟨ht, hg, hle, by rw [hl]; exact h.two, h.one, h.ne⟩, hps, hb⟩
theorem drop_rep (p q : Nat) (kb : List UInt8) (room : Nat) (S : List Slt) (k : Tup) (ho : k.ok) (hwf : k.wf) (w : World) (h : Rep w p q kb room S) :
    Calls Try.prog 23 #[.pointer (some ⟨p, 0, none⟩), .agg k.cells.toArray] w fun e w' => ∃ S', e = .returned (.bool (look S k).isSome) ∧ Rep w' p q kb room S' ∧ (flowsS S').Perm ((flowsS S).filter (fun x => decide (x.v.key ≠ k))) ∧ But p q w w' := by
  cases hl : look S k with
  | none =>
    have hno := look_none.1 hl
    refine (drop_none p q kb room _ S k ho hwf w h.tb h.good h.lt hno).mono fun e w' ⟨he, hb⟩ => ?_
    exact ⟨S, he, h.keep hb, by rw [filter_none hno], But.of_below hb⟩
  | some x =>
    obtain ⟨hm, rfl⟩ := look_some hl
    refine (drop_some p q h.ne kb room _ S x w h.tb h.good rfl h.lt hm).mono fun e w' ⟨he, S', ht, hg, hlen, hp, hb⟩ => ?_
    have hl1 : (flowsS S).length = (flowsS S').length + 1 := by rw [hp.length_eq, List.length_cons]
    have hcnt : (flowsS S).length - 1 = (flowsS S').length := by omega
    rw [hcnt] at ht
    refine ⟨S', he, ⟨ht, hg, by have := h.le; omega, by rw [hlen]; exact h.two, h.one, h.ne⟩, ?_, hb⟩
    have h2 := hp.filter (fun y => decide (y.v.key ≠ x.v.key))
    have h3 : ∀ y ∈ flowsS S', y.v.key ≠ x.v.key := by
      intro y hy hk
      have hlen := filter_len h.good hm
      rw [h2.length_eq, List.filter_cons] at hlen
      simp only [ne_eq, not_true, decide_false, Bool.false_eq_true, if_false] at hlen
      have : ((flowsS S').filter (fun y => decide (¬y.v.key = x.v.key))).length < (flowsS S').length := by
        refine List.length_filter_lt_length_iff_exists.2 ⟨y, hy, ?_⟩
        simp [hk]
      omega
    rw [List.filter_cons] at h2
    simp only [ne_eq, not_true, decide_false, Bool.false_eq_true, if_false] at h2
    have hs : (flowsS S').filter (fun y => decide (¬y.v.key = x.v.key)) = flowsS S' := List.filter_eq_self.2 (fun y hy => by simpa using h3 y hy)
    rw [hs] at h2
    exact h2.symm
theorem list_rep (p q : Nat) (kb : List UInt8) (room : Nat) (S : List Slt) (w : World) (h : Rep w p q kb room S) : Calls Try.prog 19 #[.pointer (some ⟨p, 0, none⟩)] w (RetL S w) := list_tab p q kb room _ S h.no w h.tb
theorem len_rep (p q : Nat) (kb : List UInt8) (room : Nat) (S : List Slt) (w : World) (h : Rep w p q kb room S) : Calls Try.prog 12 #[.pointer (some ⟨p, 0, none⟩)] w fun e w' => e = .returned (.int .i64 ((flowsS S).length : Int)) ∧ Below w.heap.size w w' := len_any p q kb room _ S w h.tb
theorem new_rep (kb : List UInt8) (hkb : kb.length = 16) (room : Nat) (h1 : 1 ≤ room) (h2 : room ≤ 4096) (w : World) :
    Calls Try.prog 11 #[.agg (BV kb).toArray, .int .i64 (room : Int)] w fun e w' => ∃ p q S, e = .returned (.tuple #[.pointer (some ⟨p, 0, none⟩), .int .i64 0]) ∧ Rep w' p q kb room S ∧ flowsS S = [] ∧ w.heap.size ≤ q ∧ q < p ∧ Below w.heap.size w w' := by
  refine (new_any kb hkb room w).mono fun e w' ⟨h, hb⟩ => ?_
  rcases h with ⟨h, _⟩ | ⟨_, _, p, q, n, he, ht, h2n, hq, hqp⟩
  · omega
  · rw [Int.toNat_natCast] at ht h2n
    have hf := flows_new n
    exact ⟨p, q, _, he, ⟨by rw [hf]; exact ht, good_new kb n, by rw [hf]; exact Nat.zero_le _, by rw [List.length_replicate]; omega, h1, by omega⟩, hf, hq, hqp, hb⟩
end Go.Proofs.Ytgpdlhbndoeldaa
/-
  Chapter 21: the flows of the anchor, and what a table answers of them.
-/
namespace Go.Proofs.Ytgpdlhbndoeldaa
open Go.RowKit Go.Sort
set_option linter.unusedVariables false
set_option linter.unusedSimpArgs false
set_option maxRecDepth 100000
set_option maxHeartbeats 8000000

theorem oldF_ntrans (a b c : FloW) (h : oldF a.v b.v = false) (k : oldF b.v c.v = false) : oldF a.v c.v = false := by
  cases hz : oldF a.v c.v with
  | false => rfl
  | true =>
    exfalso
    cases h2 : oldF b.v a.v with
    | true => have := oldF_trans _ _ _ h2 hz; rw [this] at k; cases k
    | false =>
      obtain ⟨e1, e2⟩ := oldF_tri _ _ h h2
      have : oldF b.v c.v = oldF a.v c.v := by unfold oldF; rw [e1, e2]
      rw [this, hz] at k; cases k
theorem minL_le : ∀ (l : List FloW) (c b : FloW), l.foldl minStep (some c) = some b → (∀ x ∈ l, oldF x.v b.v = false) ∧ oldF c.v b.v = false
  | [], c, b, h => by
    rw [List.foldl_nil] at h
    have h2 : c = b := Option.some.inj h
    rw [h2]
    exact ⟨fun x hx => absurd hx List.not_mem_nil, oldF_irr _⟩
  | x :: l, c, b, h => by
    rw [List.foldl_cons] at h
    simp only [minStep] at h
    split at h
    · rename_i hx
      obtain ⟨h1, h2⟩ := minL_le l x b h
      refine ⟨fun y hy => ?_, ?_⟩
      · rcases List.mem_cons.1 hy with rfl | hy
        · exact h2
        · exact h1 y hy
      · cases k : oldF c.v b.v with
        | false => rfl
        | true => have := oldF_trans _ _ _ hx k; rw [this] at h2; cases h2
    · rename_i hx
      obtain ⟨h1, h2⟩ := minL_le l c b h
      refine ⟨fun y hy => ?_, h2⟩
      rcases List.mem_cons.1 hy with rfl | hy
      · exact oldF_ntrans _ _ _ (by simpa using hx) h2
      · exact h1 y hy
theorem minL_min {l : List FloW} {b : FloW} (h : minL l = some b) : ∀ x ∈ l, oldF x.v b.v = false := by
  cases l with
  | nil => intro x hx; cases hx
  | cons c l =>
    have h' : l.foldl minStep (some c) = some b := h
    obtain ⟨h1, h2⟩ := minL_le l c b h'
    intro x hx
    rcases List.mem_cons.1 hx with rfl | hx
    · exact h2
    · exact h1 x hx
/-- the flows of the anchor -/
def oneF (n : Nat) : Flo := ⟨⟨false, UInt8.ofNat n :: List.replicate 15 0, false, List.replicate 16 0, 6, (n : Int), 0⟩, ⟨#[97]⟩, 2, 0, (n : Int)⟩
theorem oneF_ok (n : Nat) (h : n = 1 ∨ n = 2 ∨ n = 3 ∨ n = 5 ∨ n = 9) : (oneF n).ok := by
  rcases h with rfl | rfl | rfl | rfl | rfl <;> exact ⟨⟨rfl, rfl⟩, ⟨rfl, rfl, rfl⟩, by decide, rfl, rfl, rfl⟩
def one3 : FloW := ⟨oneF 3, oneF_ok 3 (by omega)⟩
def one5 : FloW := ⟨oneF 5, oneF_ok 5 (by omega)⟩
def one9 : FloW := ⟨oneF 9, oneF_ok 9 (by omega)⟩
def one1 : FloW := ⟨oneF 1, oneF_ok 1 (by omega)⟩
def one2 : FloW := ⟨oneF 2, oneF_ok 2 (by omega)⟩
theorem oneF_right (n : Nat) (h : n = 1 ∨ n = 2 ∨ n = 3 ∨ n = 5 ∨ n = 9) : rightF (oneF n) = true := by
  rcases h with rfl | rfl | rfl | rfl | rfl <;> kernel_rfl
theorem key_ne {m n : Nat} (h : (oneF m).no ≠ (oneF n).no) : (oneF m).key ≠ (oneF n).key := fun e => h (congrArg Tup.sport e)
theorem k35 : one3.v.key ≠ one5.v.key := key_ne (by decide)
theorem k39 : one3.v.key ≠ one9.v.key := key_ne (by decide)
theorem k59 : one5.v.key ≠ one9.v.key := key_ne (by decide)
theorem o35 : oldF one3.v one5.v = true := by decide
theorem o59 : oldF one5.v one9.v = true := by decide
theorem o12 : oldF one1.v one2.v = true := by decide
theorem one_1 (w : World) : Calls Try.prog 31 #[.int .i64 1] w fun e w' => e = .returned (.agg one1.v.cells.toArray) ∧ Below w.heap.size w w' := by
  have HB := Lib.hid (Below.refl w.heap.size w)
  have HIF := Lib.hid flo_info
  have b1 : Hid (Try.prog.built 22 [(0, .int .u8 1)] = some (BV (1 :: List.replicate 15 0)).toArray) := Lib.hid (by kernel_rfl)
  have b2 : Hid (Try.prog.built 24 [(1, .agg (BV (1 :: List.replicate 15 0)).toArray)] = some (addrC false (1 :: List.replicate 15 0)).toArray) := Lib.hid (by kernel_rfl)
  have b3 : Hid (Try.prog.built 26 [(0, .agg (addrC false (1 :: List.replicate 15 0)).toArray), (2, .int .i64 6), (3, .int .i64 1)] = some one1.v.key.cells.toArray) := Lib.hid (by kernel_rfl)
  have b4 : Hid (Try.prog.built 28 [(0, .agg one1.v.key.cells.toArray), (1, .string ⟨#[97]⟩), (2, .int .i64 2), (4, .int .i64 1)] = some one1.v.cells.toArray) := Lib.hid (by kernel_rfl)
  have HI : Hid ((Try.prog.info? 28).map (·.size) = some one1.v.cells.length) := Lib.hid (by rw [FloW.length]; exact flo_size)
  go_enter Try.func31, Try.ntmps31
  go_wp2_with (first
    | ((with_reducible refine sl 2 ?_); go_must (refine wpL_allocG rfl 28 rfl _ zeroF.cells.toArray 41 HIF.out rfl ?_); intro w2 g2 he__ le_g2 lt_g2 hg__ hb__; have HG2 := Lib.hid hg__; have hE__ := cU HB bup hb__; replace HB := ck HB hE__; clear hE__; clear hg__ hb__ he__; simp only [PT])
    | ((with_reducible refine sl 5 ?_); go_must (refine wpL_build rfl 22 _ rfl [(0, .int .u8 1)] rfl _ b1.out ?_); simp only [PT])
    | ((with_reducible refine sl 6 ?_); go_must (refine wpL_build rfl 24 _ rfl [(1, .agg (BV (1 :: List.replicate 15 0)).toArray)] rfl _ b2.out ?_); simp only [PT])
    | ((with_reducible refine sl 9 ?_); go_must (refine wpL_build rfl 26 _ rfl [(0, .agg (addrC false (1 :: List.replicate 15 0)).toArray), (2, .int .i64 6), (3, .int .i64 1)] rfl _ b3.out ?_); simp only [PT])
    | ((with_reducible refine sl 11 ?_); go_must (refine wpL_build rfl 28 _ rfl [(0, .agg one1.v.key.cells.toArray), (1, .string ⟨#[97]⟩), (2, .int .i64 2), (4, .int .i64 1)] rfl _ b4.out ?_); simp only [PT])
    | ((with_reducible show wpList _ _ _ (⟨none, .store _ (.tmp 2) _, _, _, _, _⟩ :: _) _ _); go_must (refine wpL_storeRow rfl 28 (.tmp 2) (.tmp 11) rfl g2 one1.v.cells.toArray rfl rfl HG2.out (by rw [List.size_toArray]; exact HI.out) (by simp only [List.size_toArray, FloW.length, Flo.length zeroF_ok]) (flo_one _) ?_); intro w9 hs__ hr__; replace HB := cg HB bup hr__ le_g2; clear HG2; have HG2 := Lib.hid hs__; clear hs__ hr__; simp only [PT]))
  refine bodyPost_cell1 (cs := one1.v.cells) rfl rfl (range_block HG2.out) Try.underlying28 rfl HI.out rfl ?_
  exact ⟨rfl, HB.out⟩
theorem one_2 (w : World) : Calls Try.prog 31 #[.int .i64 2] w fun e w' => e = .returned (.agg one2.v.cells.toArray) ∧ Below w.heap.size w w' := by
  have HB := Lib.hid (Below.refl w.heap.size w)
  have HIF := Lib.hid flo_info
  have b1 : Hid (Try.prog.built 22 [(0, .int .u8 2)] = some (BV (2 :: List.replicate 15 0)).toArray) := Lib.hid (by kernel_rfl)
  have b2 : Hid (Try.prog.built 24 [(1, .agg (BV (2 :: List.replicate 15 0)).toArray)] = some (addrC false (2 :: List.replicate 15 0)).toArray) := Lib.hid (by kernel_rfl)
  have b3 : Hid (Try.prog.built 26 [(0, .agg (addrC false (2 :: List.replicate 15 0)).toArray), (2, .int .i64 6), (3, .int .i64 2)] = some one2.v.key.cells.toArray) := Lib.hid (by kernel_rfl)
  have b4 : Hid (Try.prog.built 28 [(0, .agg one2.v.key.cells.toArray), (1, .string ⟨#[97]⟩), (2, .int .i64 2), (4, .int .i64 2)] = some one2.v.cells.toArray) := Lib.hid (by kernel_rfl)
  have HI : Hid ((Try.prog.info? 28).map (·.size) = some one2.v.cells.length) := Lib.hid (by rw [FloW.length]; exact flo_size)
  go_enter Try.func31, Try.ntmps31
  go_wp2_with (first
    | ((with_reducible refine sl 2 ?_); go_must (refine wpL_allocG rfl 28 rfl _ zeroF.cells.toArray 41 HIF.out rfl ?_); intro w2 g2 he__ le_g2 lt_g2 hg__ hb__; have HG2 := Lib.hid hg__; have hE__ := cU HB bup hb__; replace HB := ck HB hE__; clear hE__; clear hg__ hb__ he__; simp only [PT])
    | ((with_reducible refine sl 5 ?_); go_must (refine wpL_build rfl 22 _ rfl [(0, .int .u8 2)] rfl _ b1.out ?_); simp only [PT])
    | ((with_reducible refine sl 6 ?_); go_must (refine wpL_build rfl 24 _ rfl [(1, .agg (BV (2 :: List.replicate 15 0)).toArray)] rfl _ b2.out ?_); simp only [PT])
    | ((with_reducible refine sl 9 ?_); go_must (refine wpL_build rfl 26 _ rfl [(0, .agg (addrC false (2 :: List.replicate 15 0)).toArray), (2, .int .i64 6), (3, .int .i64 2)] rfl _ b3.out ?_); simp only [PT])
    | ((with_reducible refine sl 11 ?_); go_must (refine wpL_build rfl 28 _ rfl [(0, .agg one2.v.key.cells.toArray), (1, .string ⟨#[97]⟩), (2, .int .i64 2), (4, .int .i64 2)] rfl _ b4.out ?_); simp only [PT])
    | ((with_reducible show wpList _ _ _ (⟨none, .store _ (.tmp 2) _, _, _, _, _⟩ :: _) _ _); go_must (refine wpL_storeRow rfl 28 (.tmp 2) (.tmp 11) rfl g2 one2.v.cells.toArray rfl rfl HG2.out (by rw [List.size_toArray]; exact HI.out) (by simp only [List.size_toArray, FloW.length, Flo.length zeroF_ok]) (flo_one _) ?_); intro w9 hs__ hr__; replace HB := cg HB bup hr__ le_g2; clear HG2; have HG2 := Lib.hid hs__; clear hs__ hr__; simp only [PT]))
  refine bodyPost_cell1 (cs := one2.v.cells) rfl rfl (range_block HG2.out) Try.underlying28 rfl HI.out rfl ?_
  exact ⟨rfl, HB.out⟩
theorem one_3 (w : World) : Calls Try.prog 31 #[.int .i64 3] w fun e w' => e = .returned (.agg one3.v.cells.toArray) ∧ Below w.heap.size w w' := by
  have HB := Lib.hid (Below.refl w.heap.size w)
  have HIF := Lib.hid flo_info
  have b1 : Hid (Try.prog.built 22 [(0, .int .u8 3)] = some (BV (3 :: List.replicate 15 0)).toArray) := Lib.hid (by kernel_rfl)
  have b2 : Hid (Try.prog.built 24 [(1, .agg (BV (3 :: List.replicate 15 0)).toArray)] = some (addrC false (3 :: List.replicate 15 0)).toArray) := Lib.hid (by kernel_rfl)
  have b3 : Hid (Try.prog.built 26 [(0, .agg (addrC false (3 :: List.replicate 15 0)).toArray), (2, .int .i64 6), (3, .int .i64 3)] = some one3.v.key.cells.toArray) := Lib.hid (by kernel_rfl)
  have b4 : Hid (Try.prog.built 28 [(0, .agg one3.v.key.cells.toArray), (1, .string ⟨#[97]⟩), (2, .int .i64 2), (4, .int .i64 3)] = some one3.v.cells.toArray) := Lib.hid (by kernel_rfl)
  have HI : Hid ((Try.prog.info? 28).map (·.size) = some one3.v.cells.length) := Lib.hid (by rw [FloW.length]; exact flo_size)
  go_enter Try.func31, Try.ntmps31
  go_wp2_with (first
    | ((with_reducible refine sl 2 ?_); go_must (refine wpL_allocG rfl 28 rfl _ zeroF.cells.toArray 41 HIF.out rfl ?_); intro w2 g2 he__ le_g2 lt_g2 hg__ hb__; have HG2 := Lib.hid hg__; have hE__ := cU HB bup hb__; replace HB := ck HB hE__; clear hE__; clear hg__ hb__ he__; simp only [PT])
    | ((with_reducible refine sl 5 ?_); go_must (refine wpL_build rfl 22 _ rfl [(0, .int .u8 3)] rfl _ b1.out ?_); simp only [PT])
    | ((with_reducible refine sl 6 ?_); go_must (refine wpL_build rfl 24 _ rfl [(1, .agg (BV (3 :: List.replicate 15 0)).toArray)] rfl _ b2.out ?_); simp only [PT])
    | ((with_reducible refine sl 9 ?_); go_must (refine wpL_build rfl 26 _ rfl [(0, .agg (addrC false (3 :: List.replicate 15 0)).toArray), (2, .int .i64 6), (3, .int .i64 3)] rfl _ b3.out ?_); simp only [PT])
    | ((with_reducible refine sl 11 ?_); go_must (refine wpL_build rfl 28 _ rfl [(0, .agg one3.v.key.cells.toArray), (1, .string ⟨#[97]⟩), (2, .int .i64 2), (4, .int .i64 3)] rfl _ b4.out ?_); simp only [PT])
    | ((with_reducible show wpList _ _ _ (⟨none, .store _ (.tmp 2) _, _, _, _, _⟩ :: _) _ _); go_must (refine wpL_storeRow rfl 28 (.tmp 2) (.tmp 11) rfl g2 one3.v.cells.toArray rfl rfl HG2.out (by rw [List.size_toArray]; exact HI.out) (by simp only [List.size_toArray, FloW.length, Flo.length zeroF_ok]) (flo_one _) ?_); intro w9 hs__ hr__; replace HB := cg HB bup hr__ le_g2; clear HG2; have HG2 := Lib.hid hs__; clear hs__ hr__; simp only [PT]))
  refine bodyPost_cell1 (cs := one3.v.cells) rfl rfl (range_block HG2.out) Try.underlying28 rfl HI.out rfl ?_
  exact ⟨rfl, HB.out⟩
theorem one_5 (w : World) : Calls Try.prog 31 #[.int .i64 5] w fun e w' => e = .returned (.agg one5.v.cells.toArray) ∧ Below w.heap.size w w' := by
  have HB := Lib.hid (Below.refl w.heap.size w)
  have HIF := Lib.hid flo_info
  have b1 : Hid (Try.prog.built 22 [(0, .int .u8 5)] = some (BV (5 :: List.replicate 15 0)).toArray) := Lib.hid (by kernel_rfl)
  have b2 : Hid (Try.prog.built 24 [(1, .agg (BV (5 :: List.replicate 15 0)).toArray)] = some (addrC false (5 :: List.replicate 15 0)).toArray) := Lib.hid (by kernel_rfl)
  have b3 : Hid (Try.prog.built 26 [(0, .agg (addrC false (5 :: List.replicate 15 0)).toArray), (2, .int .i64 6), (3, .int .i64 5)] = some one5.v.key.cells.toArray) := Lib.hid (by kernel_rfl)
  have b4 : Hid (Try.prog.built 28 [(0, .agg one5.v.key.cells.toArray), (1, .string ⟨#[97]⟩), (2, .int .i64 2), (4, .int .i64 5)] = some one5.v.cells.toArray) := Lib.hid (by kernel_rfl)
  have HI : Hid ((Try.prog.info? 28).map (·.size) = some one5.v.cells.length) := Lib.hid (by rw [FloW.length]; exact flo_size)
  go_enter Try.func31, Try.ntmps31
  go_wp2_with (first
    | ((with_reducible refine sl 2 ?_); go_must (refine wpL_allocG rfl 28 rfl _ zeroF.cells.toArray 41 HIF.out rfl ?_); intro w2 g2 he__ le_g2 lt_g2 hg__ hb__; have HG2 := Lib.hid hg__; have hE__ := cU HB bup hb__; replace HB := ck HB hE__; clear hE__; clear hg__ hb__ he__; simp only [PT])
    | ((with_reducible refine sl 5 ?_); go_must (refine wpL_build rfl 22 _ rfl [(0, .int .u8 5)] rfl _ b1.out ?_); simp only [PT])
    | ((with_reducible refine sl 6 ?_); go_must (refine wpL_build rfl 24 _ rfl [(1, .agg (BV (5 :: List.replicate 15 0)).toArray)] rfl _ b2.out ?_); simp only [PT])
    | ((with_reducible refine sl 9 ?_); go_must (refine wpL_build rfl 26 _ rfl [(0, .agg (addrC false (5 :: List.replicate 15 0)).toArray), (2, .int .i64 6), (3, .int .i64 5)] rfl _ b3.out ?_); simp only [PT])
    | ((with_reducible refine sl 11 ?_); go_must (refine wpL_build rfl 28 _ rfl [(0, .agg one5.v.key.cells.toArray), (1, .string ⟨#[97]⟩), (2, .int .i64 2), (4, .int .i64 5)] rfl _ b4.out ?_); simp only [PT])
    | ((with_reducible show wpList _ _ _ (⟨none, .store _ (.tmp 2) _, _, _, _, _⟩ :: _) _ _); go_must (refine wpL_storeRow rfl 28 (.tmp 2) (.tmp 11) rfl g2 one5.v.cells.toArray rfl rfl HG2.out (by rw [List.size_toArray]; exact HI.out) (by simp only [List.size_toArray, FloW.length, Flo.length zeroF_ok]) (flo_one _) ?_); intro w9 hs__ hr__; replace HB := cg HB bup hr__ le_g2; clear HG2; have HG2 := Lib.hid hs__; clear hs__ hr__; simp only [PT]))
  refine bodyPost_cell1 (cs := one5.v.cells) rfl rfl (range_block HG2.out) Try.underlying28 rfl HI.out rfl ?_
  exact ⟨rfl, HB.out⟩
theorem one_9 (w : World) : Calls Try.prog 31 #[.int .i64 9] w fun e w' => e = .returned (.agg one9.v.cells.toArray) ∧ Below w.heap.size w w' := by
  have HB := Lib.hid (Below.refl w.heap.size w)
  have HIF := Lib.hid flo_info
  have b1 : Hid (Try.prog.built 22 [(0, .int .u8 9)] = some (BV (9 :: List.replicate 15 0)).toArray) := Lib.hid (by kernel_rfl)
  have b2 : Hid (Try.prog.built 24 [(1, .agg (BV (9 :: List.replicate 15 0)).toArray)] = some (addrC false (9 :: List.replicate 15 0)).toArray) := Lib.hid (by kernel_rfl)
  have b3 : Hid (Try.prog.built 26 [(0, .agg (addrC false (9 :: List.replicate 15 0)).toArray), (2, .int .i64 6), (3, .int .i64 9)] = some one9.v.key.cells.toArray) := Lib.hid (by kernel_rfl)
  have b4 : Hid (Try.prog.built 28 [(0, .agg one9.v.key.cells.toArray), (1, .string ⟨#[97]⟩), (2, .int .i64 2), (4, .int .i64 9)] = some one9.v.cells.toArray) := Lib.hid (by kernel_rfl)
  have HI : Hid ((Try.prog.info? 28).map (·.size) = some one9.v.cells.length) := Lib.hid (by rw [FloW.length]; exact flo_size)
  go_enter Try.func31, Try.ntmps31
  go_wp2_with (first
    | ((with_reducible refine sl 2 ?_); go_must (refine wpL_allocG rfl 28 rfl _ zeroF.cells.toArray 41 HIF.out rfl ?_); intro w2 g2 he__ le_g2 lt_g2 hg__ hb__; have HG2 := Lib.hid hg__; have hE__ := cU HB bup hb__; replace HB := ck HB hE__; clear hE__; clear hg__ hb__ he__; simp only [PT])
    | ((with_reducible refine sl 5 ?_); go_must (refine wpL_build rfl 22 _ rfl [(0, .int .u8 9)] rfl _ b1.out ?_); simp only [PT])
    | ((with_reducible refine sl 6 ?_); go_must (refine wpL_build rfl 24 _ rfl [(1, .agg (BV (9 :: List.replicate 15 0)).toArray)] rfl _ b2.out ?_); simp only [PT])
    | ((with_reducible refine sl 9 ?_); go_must (refine wpL_build rfl 26 _ rfl [(0, .agg (addrC false (9 :: List.replicate 15 0)).toArray), (2, .int .i64 6), (3, .int .i64 9)] rfl _ b3.out ?_); simp only [PT])
    | ((with_reducible refine sl 11 ?_); go_must (refine wpL_build rfl 28 _ rfl [(0, .agg one9.v.key.cells.toArray), (1, .string ⟨#[97]⟩), (2, .int .i64 2), (4, .int .i64 9)] rfl _ b4.out ?_); simp only [PT])
    | ((with_reducible show wpList _ _ _ (⟨none, .store _ (.tmp 2) _, _, _, _, _⟩ :: _) _ _); go_must (refine wpL_storeRow rfl 28 (.tmp 2) (.tmp 11) rfl g2 one9.v.cells.toArray rfl rfl HG2.out (by rw [List.size_toArray]; exact HI.out) (by simp only [List.size_toArray, FloW.length, Flo.length zeroF_ok]) (flo_one _) ?_); intro w9 hs__ hr__; replace HB := cg HB bup hr__ le_g2; clear HG2; have HG2 := Lib.hid hs__; clear hs__ hr__; simp only [PT]))
  refine bodyPost_cell1 (cs := one9.v.cells) rfl rfl (range_block HG2.out) Try.underlying28 rfl HI.out rfl ?_
  exact ⟨rfl, HB.out⟩

/-! what the anchor's table answers -/
theorem two_of {α : Type} {l : List α} (h : l.length = 2) : ∃ a b, l = [a, b] := by
  cases l with
  | nil => cases h
  | cons a l =>
    cases l with
    | nil => cases h
    | cons b l =>
      cases l with
      | nil => exact ⟨a, b, rfl⟩
      | cons c l => simp at h
theorem perm_two {l : List FloW} {a b : FloW} (h : l.Perm [a, b]) : ∀ x, x ∈ l ↔ x = a ∨ x = b := fun x => by rw [h.mem_iff]; simp
theorem put5_any (p q : Nat) (kb : List UInt8) (S : List Slt) (hS : flowsS S = []) (w : World) (h : Rep w p q kb 2 S) :
    Calls Try.prog 21 #[.pointer (some ⟨p, 0, none⟩), .agg one5.v.cells.toArray] w fun e w' => ∃ S', e = .returned (.tuple #[.agg zeroF.cells.toArray, .bool false, .int .i64 0]) ∧ Rep w' p q kb 2 S' ∧ (flowsS S').Perm [one5] ∧ But p q w w' :=
  (put_rep p q kb 2 S one5 (oneF_right 5 (by omega)) w h).mono fun e w' ⟨gone, left, S', he, hr, hp, hb⟩ => by
    rcases hp with ⟨rfl, rfl, _, hf⟩ | ⟨_, _, h1, _⟩
    · rw [hS] at hf; exact ⟨S', he, hr, hf, hb⟩
    · rw [hS] at h1; simp at h1
theorem put3_any (p q : Nat) (kb : List UInt8) (S : List Slt) (hS : (flowsS S).Perm [one5]) (w : World) (h : Rep w p q kb 2 S) :
    Calls Try.prog 21 #[.pointer (some ⟨p, 0, none⟩), .agg one3.v.cells.toArray] w fun e w' => ∃ S', e = .returned (.tuple #[.agg zeroF.cells.toArray, .bool false, .int .i64 0]) ∧ Rep w' p q kb 2 S' ∧ (flowsS S').Perm [one3, one5] ∧ But p q w w' :=
  (put_rep p q kb 2 S one3 (oneF_right 3 (by omega)) w h).mono fun e w' ⟨gone, left, S', he, hr, hp, hb⟩ => by
    rcases hp with ⟨rfl, rfl, _, hf⟩ | ⟨_, _, h1, _⟩
    · have h2 := hS.filter (fun x => decide (x.v.key ≠ one3.v.key))
      rw [show [one5].filter (fun x => decide (x.v.key ≠ one3.v.key)) = [one5] by rw [List.filter_cons, decide_eq_true (Ne.symm k35)]; rfl] at h2
      exact ⟨S', he, hr, hf.trans (List.Perm.cons _ h2), hb⟩
    · rw [hS.length_eq] at h1; simp at h1
theorem put9_any (p q : Nat) (kb : List UInt8) (S : List Slt) (hS : (flowsS S).Perm [one3, one5]) (w : World) (h : Rep w p q kb 2 S) :
    Calls Try.prog 21 #[.pointer (some ⟨p, 0, none⟩), .agg one9.v.cells.toArray] w fun e w' => ∃ S', e = .returned (.tuple #[.agg one3.v.cells.toArray, .bool true, .int .i64 0]) ∧ Rep w' p q kb 2 S' ∧ (flowsS S').Perm [one9, one5] ∧ But p q w w' :=
  (put_rep p q kb 2 S one9 (oneF_right 9 (by omega)) w h).mono fun e w' ⟨gone, left, S', he, hr, hp, hb⟩ => by
    rcases hp with ⟨_, _, h1, _⟩ | ⟨rfl, _, _, g0, R, hm, rfl, h2, h3⟩
    · exfalso
      rcases h1 with ⟨x, hx, hk⟩ | h1
      · rcases (perm_two hS x).1 hx with rfl | rfl
        · exact k39 hk
        · exact k59 hk
      · rw [hS.length_eq] at h1; simp at h1
    · have hg : g0 = one3 := by
        rcases (perm_two hS g0).1 (minL_mem hm) with h | h
        · exact h
        · have := minL_min hm one3 ((perm_two hS one3).2 (.inl rfl))
          rw [h, o35] at this; cases this
      subst hg
      exact ⟨S', he, hr, h3.trans (List.Perm.cons _ (List.Perm.cons_inv (h2.symm.trans hS))), hb⟩
theorem get9_any (p q : Nat) (kb : List UInt8) (S : List Slt) (hS : (flowsS S).Perm [one9, one5]) (w : World) (h : Rep w p q kb 2 S) :
    Calls Try.prog 20 #[.pointer (some ⟨p, 0, none⟩), .agg one9.v.key.cells.toArray] w fun e w' => e = .returned (.tuple #[.agg one9.v.cells.toArray, .bool true]) ∧ Below w.heap.size w w' :=
  get_some p q kb 2 _ S one9 w h.tb h.good h.lt ((perm_two hS one9).2 (.inl rfl))
theorem get3_any (p q : Nat) (kb : List UInt8) (S : List Slt) (hS : (flowsS S).Perm [one9, one5]) (w : World) (h : Rep w p q kb 2 S) :
    Calls Try.prog 20 #[.pointer (some ⟨p, 0, none⟩), .agg one3.v.key.cells.toArray] w fun e w' => e = .returned (.tuple #[.agg zeroF.cells.toArray, .bool false]) ∧ Below w.heap.size w w' :=
  get_none p q kb 2 _ S _ one3.ok.1 one3.ok.2.1 w h.tb h.good h.lt (fun x hx hk => by
    rcases (perm_two hS x).1 hx with rfl | rfl
    · exact k39 hk.symm
    · exact k35 hk.symm)
theorem list9_any (p q : Nat) (kb : List UInt8) (S : List Slt) (hS : (flowsS S).Perm [one9, one5]) (w : World) (h : Rep w p q kb 2 S) :
    Calls Try.prog 19 #[.pointer (some ⟨p, 0, none⟩)] w fun e w' => ∃ ad c, e = .returned (.slice ad 2 c) ∧ w'.ownsRow w.heap.size 28 41 (.slice ad 2 c) 2 (flosC [one5, one9]) ∧ Below w.heap.size w w' :=
  (list_rep p q kb 2 S w h).mono fun e w' hr => by
    obtain ⟨ad, c, l, he, hp, hs, ho, hb⟩ := hr
    have hp2 := hp.trans hS
    have hl : l.length = 2 := by have := hp2.length_eq; simpa using this
    obtain ⟨a, b, rfl⟩ := two_of hl
    have e2 : [a.x, b.x] = [one5, one9] := by
      have h1 : oldF b.x.v a.x.v = false := by
        have := hs
        rw [List.pairwise_cons] at this
        exact this.1 b (by simp)
      have ha : a.x = one9 ∨ a.x = one5 := (perm_two hp2 a.x).1 (by simp)
      have hb2 : b.x = one9 ∨ b.x = one5 := (perm_two hp2 b.x).1 (by simp)
      have h9 : one9 ∈ [a.x, b.x] := (perm_two hp2 one9).2 (.inl rfl)
      have h5 : one5 ∈ [a.x, b.x] := (perm_two hp2 one5).2 (.inr rfl)
      have hne : one9 ≠ one5 := fun e => k59 (congrArg (fun x : FloW => x.v.key) e).symm
      rcases ha with ha | ha <;> rcases hb2 with hb2 | hb2
      · exfalso
        rw [ha, hb2] at h5
        simp at h5
        exact hne h5.symm
      · rw [ha, hb2, o59] at h1; cases h1
      · rw [ha, hb2]
      · exfalso
        rw [ha, hb2] at h9
        simp at h9
        exact hne h9
    have e3 : flosN [a, b] = flosC [one5, one9] := by unfold flosN; rw [← e2]; rfl
    exact ⟨ad, c, he, by rw [← e3]; exact ho, hb⟩
theorem drop5_any (p q : Nat) (kb : List UInt8) (S : List Slt) (hS : (flowsS S).Perm [one9, one5]) (w : World) (h : Rep w p q kb 2 S) :
    Calls Try.prog 23 #[.pointer (some ⟨p, 0, none⟩), .agg one5.v.key.cells.toArray] w fun e w' => ∃ S', e = .returned (.bool true) ∧ Rep w' p q kb 2 S' ∧ (flowsS S').Perm [one9] ∧ But p q w w' :=
  (drop_rep p q kb 2 S _ one5.ok.1 one5.ok.2.1 w h).mono fun e w' ⟨S', he, hr, hp, hb⟩ => by
    have hl : (look S one5.v.key).isSome = true := by
      cases hq : look S one5.v.key with
      | some x => rfl
      | none => exact absurd rfl (look_none.1 hq one5 ((perm_two hS one5).2 (.inr rfl)))
    rw [hl] at he
    have h2 := hS.filter (fun x => decide (x.v.key ≠ one5.v.key))
    rw [show [one9, one5].filter (fun x => decide (x.v.key ≠ one5.v.key)) = [one9] by rw [List.filter_cons, decide_eq_true (Ne.symm k59), List.filter_cons]; simp] at h2
    exact ⟨S', he, hr, hp.trans h2, hb⟩
theorem drop5_none (p q : Nat) (kb : List UInt8) (S : List Slt) (hS : (flowsS S).Perm [one9]) (w : World) (h : Rep w p q kb 2 S) :
    Calls Try.prog 23 #[.pointer (some ⟨p, 0, none⟩), .agg one5.v.key.cells.toArray] w fun e w' => e = .returned (.bool false) ∧ Below w.heap.size w w' :=
  drop_none p q kb 2 _ S _ one5.ok.1 one5.ok.2.1 w h.tb h.good h.lt (fun x hx hk => by
    rw [hS.mem_iff] at hx
    rw [List.mem_singleton.1 hx] at hk
    exact k59 hk.symm)
end Go.Proofs.Ytgpdlhbndoeldaa
