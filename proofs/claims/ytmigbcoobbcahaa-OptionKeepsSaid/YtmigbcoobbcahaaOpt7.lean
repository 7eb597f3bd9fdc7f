/-
  Chapter 25: options read by the document, walked.
-/
import Derived.Test.YtmigbcoobbcahaaOpt6
import Derived.Test.YtmigbcoobbcahaaOctet3
namespace Go.Proofs.Ytmigbcoobbcahaa
open Go.RowKit Go.Sort
set_option linter.unusedVariables false
set_option linter.unusedSimpArgs false

set_option maxRecDepth 100000 in
set_option maxHeartbeats 2000000 in
theorem refRows_any (ad : Option Addr) (n c : Nat) (l : List UInt8) (big : Bool) (w : World) (hs : Bs w ad n c l) (hsz : n ≤ 1000000000) :
    Calls Try.prog 18 #[.slice ad n c, .bool big] w fun e w' => ∃ ad' n' c' os, e = .returned (.tuple #[.slice ad' n' c', .int .i64 ((rowsB big l).2.1 : Int), .bool (rowsB big l).2.2.1, .agg (spotC (rowsB big l).2.2.2).toArray]) ∧ OwnOps 43 w.heap.size w' ad' n' c' os ∧ vals os = (rowsB big l).1 ∧ Below w.heap.size w w' := by
  have hn := hs.len
  have hle := hs.le
  obtain ⟨X, hX⟩ : ∃ X, X = rowsB big l := ⟨_, rfl⟩
  have HX0 := Lib.hid (show X = rowsS big l.length (l.drop 0) 0 (vals []) by rw [hX, List.drop_zero]; rfl)
  rw [← hX]
  have HS := Lib.hid hs
  have HN := Lib.hid hn
  have HI : Hid ((Try.prog.info? 33).map (·.size) = some 2) := Lib.hid (by kernel_rfl)
  clear hs hn hX
  go_enter Try.func18, Try.ntmps18
  go_wp2_with fail
  go_loopw [8, 9] (fun v i wr => ∃ (at_ : Nat) (ad' : Option Addr) (n' c' : Nat) (os : List OptV), at_ ≤ n ∧ 4 * n' ≤ at_ ∧ i = .int .i64 at_ ∧ v = .slice ad' n' c' ∧ OwnOps 43 (w.heap.size + 1) wr ad' n' c' os ∧ wr.heap[w.heap.size]? = some (.cells (spotC (0, 0)).toArray 33 (0, 0)) ∧ Below w.heap.size w wr ∧ Hid (X = rowsS big l.length (l.drop at_) at_ (vals os))) (fun _ i _ => n - (intOf i).toNat)
  case atStart => exact ⟨0, none, 0, 0, [], by omega, by omega, rfl, rfl, OwnOps.nil _ _ _, heap_alloc_last w _, (Below.refl _ _).alloc (Nat.le_refl _) _, HX0⟩
  case round =>
    obtain ⟨at_, ad1, n1, c1, os, hat, hn1, rfl, rfl, how, hg, hb, HX⟩ := hrel
    have HW := Lib.hid how
    have HG := Lib.hid hg
    have HB := Lib.hid hb
    have hw1 : w.heap.size + 1 ≤ wr.heap.size := lt_of_block hg
    clear how hg hb HX0
    have hn := HN.out
    by_cases hlt : at_ < n
    · have HST := Lib.hid (HX.out.trans (rows_step big l at_ (vals os) (by omega)))
      have HR0 := Lib.hid (Bs.drop8 HS.out at_ (by omega))
      obtain ⟨R, hR⟩ : ∃ R, R = l.drop at_ := ⟨_, rfl⟩
      obtain ⟨rn, hrn⟩ : ∃ rn, rn = l.length - at_ := ⟨_, rfl⟩
      obtain ⟨rc, hrc⟩ : ∃ rc, rc = c - at_ := ⟨_, rfl⟩
      obtain ⟨cd, hcd⟩ : ∃ cd, cd = codeOf big R := ⟨_, rfl⟩
      obtain ⟨sz, hsz2⟩ : ∃ sz, sz = sizeOf2 big R := ⟨_, rfl⟩
      have hcd1 : cd ≤ 65535 := by rw [hcd]; exact codeOf_le _ _
      have hsz1 : sz ≤ 65535 := by rw [hsz2]; exact sizeOf2_le _ _
      rw [← hR, ← hcd, ← hsz2, ← hrn] at HST
      rw [← hn] at hrn
      rw [← hR, ← hrn, ← hrc] at HR0
      have hrb : rn + at_ = n := by omega
      have hrr : rn ≤ rc := by omega
      have HRN := Lib.hid hrn
      have HRC := Lib.hid hrc
      have HCD := Lib.hid (show getN (R.take 2) big = cd from hcd.symm)
      have HSZ := Lib.hid (show getN ((R.drop 2).take 2) big = sz from hsz2.symm)
      have HRL := Lib.hid (show R.length = rn by rw [hR, List.length_drop]; omega)
      have HR := Lib.hid hR
      have hp3 := padN_le sz
      have hac : at_ ≤ c := by omega
      clear hR hrn hrc hcd hsz2 hn
      by_cases h4 : (n : Int) < (at_ : Int) + 4
      · have HE := Lib.hid (HST.out.trans (if_pos (by omega)))
        go_wp2_with (first
          | ((with_reducible show wpList _ _ _ (⟨none, .store _ _ _, _, _, _, _⟩ :: _) _ _); go_must (refine wpL_storeS rfl 33 (.tmp 7) (.tmp 24) rfl w.heap.size (at_, 2) rfl rfl HG.out HI.out ?_); intro w9 hg9 hgr9; have HG9 := Lib.hid hg9; have HB9 := Lib.hid (HB.out.grown hgr9 HB.out.size (fun k e => by cases e; exact Nat.le_refl _)); have HW9 := Lib.hid (HW.out.other hgr9 (by omega)); clear hg9 hgr9; simp only [Act.put, List.setIfInBounds_toArray, List.set_cons_zero, List.set_cons_succ]))
        (try simp only [Exit.inBlock, Exit.then, Exit.noGoto_ret])
        refine bodyPost_cell4 (cs := spotC (at_, 2)) rfl rfl (range_block HG9.out) Try.underlying33 rfl HI.out rfl ?_
        exact ⟨none, 0, 0, [], by rw [HE.out]; rfl, OwnOps.nil _ _ _, by rw [HE.out]; rfl, HB9.out⟩
      · have h4n : 4 ≤ rn := by omega
        have HE1 := Lib.hid (HST.out.trans (if_neg (by omega)))
        clear HST
        by_cases hc : cd = 0
        · by_cases hz : sz = 0
          · have HE := Lib.hid (HE1.out.trans (if_pos ⟨hc, hz⟩))
            go_wp2_with (first
              | ((with_reducible show wpList _ _ _ (⟨some 29, _, _, _, _, _⟩ :: _) _ _); go_must (refine wpL_slice elB rfl (.tmp 25) (some (.tmp 26)) (some (.tmp 28)) rfl rfl at_ (at_ + 2) (.inr ⟨.i64, rfl⟩) (.inr ⟨.i64, rfl⟩) (by omega) (by omega) ?_); intro ad29 had29; rw [show at_ + 2 - at_ = 2 by omega]; have H29 := Lib.hid (show Bs w ad29 2 (c - at_) (R.take 2) by rw [had29.out, HR.out]; have := Bs.part HS.out at_ (at_ + 2) (by omega) (by omega); rwa [show at_ + 2 - at_ = 2 by omega] at this); simp only [Act.put, List.setIfInBounds_toArray, List.set_cons_zero, List.set_cons_succ])
              | (go_at_call 27; (with_reducible show Calls _ _ #[Value.slice ad29 _ _, _] _ _); go_must (refine (refGet_any ad29 2 (c - at_) _ big _ (H29.out.below (HB.out.trans (Below.mono (by repeat (first | exact Below.refl _ _ | refine Below.drew ?_ | refine Below.trans ?_ (below_drewN _ _ _) | refine Below.alloc ?_ (by first | exact Nat.le_refl _ | (simp; done) | (simp; omega)) _)) HB.out.size)))).mono ?_); intro e w5 hr5; (try unfold RetN at hr5); rw [HCD.out] at hr5; obtain ⟨rfl, hb5⟩ := hr5; (first | (have hE__ := cU HB (by repeat (first | exact Below.refl _ _ | refine Below.drew ?_ | refine Below.trans ?_ (below_drewN _ _ _) | refine Below.alloc ?_ (by first | exact Nat.le_refl _ | (simp; done) | (simp; omega)) _)) hb5; (first | replace HB := cK1 HB hE__); (first | replace HG := cB1 HG hE__ | replace HG := cO1 HG hE__ | replace HG := cG1 HG hE__ | replace HG := cW1 HG hE__ | replace HG := cV1 HG hE__ | replace HG := cP1 HG hE__ | replace HG := cK1 HG hE__); (first | replace HW := cB1 HW hE__ | replace HW := cO1 HW hE__ | replace HW := cG1 HW hE__ | replace HW := cW1 HW hE__ | replace HW := cV1 HW hE__ | replace HW := cP1 HW hE__ | replace HW := cK1 HW hE__); clear hE__) | (subst hb5)); (try clear hb5); clear H29)
              | ((with_reducible show wpList _ _ _ (⟨some 38, _, _, _, _, _⟩ :: _) _ _); go_must (refine wpL_slice elB rfl (.tmp 33) (some (.tmp 35)) (some (.tmp 37)) rfl rfl (at_ + 2) (at_ + 4) (.inr ⟨.i64, rfl⟩) (.inr ⟨.i64, rfl⟩) (by omega) (by omega) ?_); intro ad38 had38; rw [show at_ + 4 - (at_ + 2) = 2 by omega]; have H38 := Lib.hid (show Bs w ad38 2 (c - (at_ + 2)) ((R.drop 2).take 2) by rw [had38.out, HR.out, List.drop_drop]; have := Bs.part HS.out (at_ + 2) (at_ + 4) (by omega) (by omega); rwa [show at_ + 4 - (at_ + 2) = 2 by omega] at this); simp only [Act.put, List.setIfInBounds_toArray, List.set_cons_zero, List.set_cons_succ])
              | (go_at_call 27; (with_reducible show Calls _ _ #[Value.slice ad38 _ _, _] _ _); go_must (refine (refGet_any ad38 2 (c - (at_ + 2)) _ big _ (H38.out.below (HB.out.trans (Below.mono (by repeat (first | exact Below.refl _ _ | refine Below.drew ?_ | refine Below.trans ?_ (below_drewN _ _ _) | refine Below.alloc ?_ (by first | exact Nat.le_refl _ | (simp; done) | (simp; omega)) _)) HB.out.size)))).mono ?_); intro e w6 hr6; (try unfold RetN at hr6); rw [HSZ.out] at hr6; obtain ⟨rfl, hb6⟩ := hr6; (first | (have hE__ := cU HB (by repeat (first | exact Below.refl _ _ | refine Below.drew ?_ | refine Below.trans ?_ (below_drewN _ _ _) | refine Below.alloc ?_ (by first | exact Nat.le_refl _ | (simp; done) | (simp; omega)) _)) hb6; (first | replace HB := cK1 HB hE__); (first | replace HG := cB1 HG hE__ | replace HG := cO1 HG hE__ | replace HG := cG1 HG hE__ | replace HG := cW1 HG hE__ | replace HG := cV1 HG hE__ | replace HG := cP1 HG hE__ | replace HG := cK1 HG hE__); (first | replace HW := cB1 HW hE__ | replace HW := cO1 HW hE__ | replace HW := cG1 HW hE__ | replace HW := cW1 HW hE__ | replace HW := cV1 HW hE__ | replace HW := cP1 HW hE__ | replace HW := cK1 HW hE__); clear hE__) | (subst hb6)); (try clear hb6); clear H38)
              | ((with_reducible show wpList _ _ _ (⟨none, .store _ _ _, _, _, _, _⟩ :: _) _ _); go_must (refine wpL_storeS rfl 33 (.tmp 7) (.tmp 51) rfl w.heap.size (0, 0) rfl rfl HG.out HI.out ?_); intro w9 hg9 hgr9; have HG9 := Lib.hid hg9; have HB9 := Lib.hid (HB.out.grown hgr9 HB.out.size (fun k e => by cases e; exact Nat.le_refl _)); have HW9 := Lib.hid (HW.out.other hgr9 (by omega)); clear hg9 hgr9; simp only [Act.put, List.setIfInBounds_toArray, List.set_cons_zero, List.set_cons_succ]))
            (try simp only [Exit.inBlock, Exit.then, Exit.noGoto_ret])
            refine bodyPost_cell4 (cs := spotC (0, 0)) rfl rfl (range_block HG9.out) Try.underlying33 rfl HI.out rfl ?_
            exact ⟨ad1, n1, c1, os, by rw [HE.out]; rfl, HW9.out.base (by omega), by rw [HE.out], HB9.out⟩
          · have HE := Lib.hid ((HE1.out.trans (if_neg (by omega))).trans (if_pos hc))
            go_wp2_with (first
              | ((with_reducible show wpList _ _ _ (⟨some 29, _, _, _, _, _⟩ :: _) _ _); go_must (refine wpL_slice elB rfl (.tmp 25) (some (.tmp 26)) (some (.tmp 28)) rfl rfl at_ (at_ + 2) (.inr ⟨.i64, rfl⟩) (.inr ⟨.i64, rfl⟩) (by omega) (by omega) ?_); intro ad29 had29; rw [show at_ + 2 - at_ = 2 by omega]; have H29 := Lib.hid (show Bs w ad29 2 (c - at_) (R.take 2) by rw [had29.out, HR.out]; have := Bs.part HS.out at_ (at_ + 2) (by omega) (by omega); rwa [show at_ + 2 - at_ = 2 by omega] at this); simp only [Act.put, List.setIfInBounds_toArray, List.set_cons_zero, List.set_cons_succ])
              | (go_at_call 27; (with_reducible show Calls _ _ #[Value.slice ad29 _ _, _] _ _); go_must (refine (refGet_any ad29 2 (c - at_) _ big _ (H29.out.below (HB.out.trans (Below.mono (by repeat (first | exact Below.refl _ _ | refine Below.drew ?_ | refine Below.trans ?_ (below_drewN _ _ _) | refine Below.alloc ?_ (by first | exact Nat.le_refl _ | (simp; done) | (simp; omega)) _)) HB.out.size)))).mono ?_); intro e w5 hr5; (try unfold RetN at hr5); rw [HCD.out] at hr5; obtain ⟨rfl, hb5⟩ := hr5; (first | (have hE__ := cU HB (by repeat (first | exact Below.refl _ _ | refine Below.drew ?_ | refine Below.trans ?_ (below_drewN _ _ _) | refine Below.alloc ?_ (by first | exact Nat.le_refl _ | (simp; done) | (simp; omega)) _)) hb5; (first | replace HB := cK1 HB hE__); (first | replace HG := cB1 HG hE__ | replace HG := cO1 HG hE__ | replace HG := cG1 HG hE__ | replace HG := cW1 HG hE__ | replace HG := cV1 HG hE__ | replace HG := cP1 HG hE__ | replace HG := cK1 HG hE__); (first | replace HW := cB1 HW hE__ | replace HW := cO1 HW hE__ | replace HW := cG1 HW hE__ | replace HW := cW1 HW hE__ | replace HW := cV1 HW hE__ | replace HW := cP1 HW hE__ | replace HW := cK1 HW hE__); clear hE__) | (subst hb5)); (try clear hb5); clear H29)
              | ((with_reducible show wpList _ _ _ (⟨some 38, _, _, _, _, _⟩ :: _) _ _); go_must (refine wpL_slice elB rfl (.tmp 33) (some (.tmp 35)) (some (.tmp 37)) rfl rfl (at_ + 2) (at_ + 4) (.inr ⟨.i64, rfl⟩) (.inr ⟨.i64, rfl⟩) (by omega) (by omega) ?_); intro ad38 had38; rw [show at_ + 4 - (at_ + 2) = 2 by omega]; have H38 := Lib.hid (show Bs w ad38 2 (c - (at_ + 2)) ((R.drop 2).take 2) by rw [had38.out, HR.out, List.drop_drop]; have := Bs.part HS.out (at_ + 2) (at_ + 4) (by omega) (by omega); rwa [show at_ + 4 - (at_ + 2) = 2 by omega] at this); simp only [Act.put, List.setIfInBounds_toArray, List.set_cons_zero, List.set_cons_succ])
              | (go_at_call 27; (with_reducible show Calls _ _ #[Value.slice ad38 _ _, _] _ _); go_must (refine (refGet_any ad38 2 (c - (at_ + 2)) _ big _ (H38.out.below (HB.out.trans (Below.mono (by repeat (first | exact Below.refl _ _ | refine Below.drew ?_ | refine Below.trans ?_ (below_drewN _ _ _) | refine Below.alloc ?_ (by first | exact Nat.le_refl _ | (simp; done) | (simp; omega)) _)) HB.out.size)))).mono ?_); intro e w6 hr6; (try unfold RetN at hr6); rw [HSZ.out] at hr6; obtain ⟨rfl, hb6⟩ := hr6; (first | (have hE__ := cU HB (by repeat (first | exact Below.refl _ _ | refine Below.drew ?_ | refine Below.trans ?_ (below_drewN _ _ _) | refine Below.alloc ?_ (by first | exact Nat.le_refl _ | (simp; done) | (simp; omega)) _)) hb6; (first | replace HB := cK1 HB hE__); (first | replace HG := cB1 HG hE__ | replace HG := cO1 HG hE__ | replace HG := cG1 HG hE__ | replace HG := cW1 HG hE__ | replace HG := cV1 HG hE__ | replace HG := cP1 HG hE__ | replace HG := cK1 HG hE__); (first | replace HW := cB1 HW hE__ | replace HW := cO1 HW hE__ | replace HW := cG1 HW hE__ | replace HW := cW1 HW hE__ | replace HW := cV1 HW hE__ | replace HW := cP1 HW hE__ | replace HW := cK1 HW hE__); clear hE__) | (subst hb6)); (try clear hb6); clear H38)
              | ((with_reducible show wpList _ _ _ (⟨none, .store _ _ _, _, _, _, _⟩ :: _) _ _); go_must (refine wpL_storeS rfl 33 (.tmp 7) (.tmp 55) rfl w.heap.size (at_, 3) rfl rfl HG.out HI.out ?_); intro w9 hg9 hgr9; have HG9 := Lib.hid hg9; have HB9 := Lib.hid (HB.out.grown hgr9 HB.out.size (fun k e => by cases e; exact Nat.le_refl _)); have HW9 := Lib.hid (HW.out.other hgr9 (by omega)); clear hg9 hgr9; simp only [Act.put, List.setIfInBounds_toArray, List.set_cons_zero, List.set_cons_succ]))
            (try simp only [Exit.inBlock, Exit.then, Exit.noGoto_ret])
            refine bodyPost_cell4 (cs := spotC (at_, 3)) rfl rfl (range_block HG9.out) Try.underlying33 rfl HI.out rfl ?_
            exact ⟨none, 0, 0, [], by rw [HE.out]; rfl, OwnOps.nil _ _ _, by rw [HE.out]; rfl, HB9.out⟩
        · have HE2 := Lib.hid ((HE1.out.trans (if_neg (by omega))).trans (if_neg hc))
          clear HE1
          go_wp2_with (first
            | ((with_reducible show wpList _ _ _ (⟨some 29, _, _, _, _, _⟩ :: _) _ _); go_must (refine wpL_slice elB rfl (.tmp 25) (some (.tmp 26)) (some (.tmp 28)) rfl rfl at_ (at_ + 2) (.inr ⟨.i64, rfl⟩) (.inr ⟨.i64, rfl⟩) (by omega) (by omega) ?_); intro ad29 had29; rw [show at_ + 2 - at_ = 2 by omega]; have H29 := Lib.hid (show Bs w ad29 2 (c - at_) (R.take 2) by rw [had29.out, HR.out]; have := Bs.part HS.out at_ (at_ + 2) (by omega) (by omega); rwa [show at_ + 2 - at_ = 2 by omega] at this); simp only [Act.put, List.setIfInBounds_toArray, List.set_cons_zero, List.set_cons_succ])
            | (go_at_call 27; (with_reducible show Calls _ _ #[Value.slice ad29 _ _, _] _ _); go_must (refine (refGet_any ad29 2 (c - at_) _ big _ (H29.out.below (HB.out.trans (Below.mono (by repeat (first | exact Below.refl _ _ | refine Below.drew ?_ | refine Below.trans ?_ (below_drewN _ _ _) | refine Below.alloc ?_ (by first | exact Nat.le_refl _ | (simp; done) | (simp; omega)) _)) HB.out.size)))).mono ?_); intro e w5 hr5; (try unfold RetN at hr5); rw [HCD.out] at hr5; obtain ⟨rfl, hb5⟩ := hr5; (first | (have hE__ := cU HB (by repeat (first | exact Below.refl _ _ | refine Below.drew ?_ | refine Below.trans ?_ (below_drewN _ _ _) | refine Below.alloc ?_ (by first | exact Nat.le_refl _ | (simp; done) | (simp; omega)) _)) hb5; (first | replace HB := cK1 HB hE__); (first | replace HG := cB1 HG hE__ | replace HG := cO1 HG hE__ | replace HG := cG1 HG hE__ | replace HG := cW1 HG hE__ | replace HG := cV1 HG hE__ | replace HG := cP1 HG hE__ | replace HG := cK1 HG hE__); (first | replace HW := cB1 HW hE__ | replace HW := cO1 HW hE__ | replace HW := cG1 HW hE__ | replace HW := cW1 HW hE__ | replace HW := cV1 HW hE__ | replace HW := cP1 HW hE__ | replace HW := cK1 HW hE__); clear hE__) | (subst hb5)); (try clear hb5); clear H29)
            | ((with_reducible show wpList _ _ _ (⟨some 38, _, _, _, _, _⟩ :: _) _ _); go_must (refine wpL_slice elB rfl (.tmp 33) (some (.tmp 35)) (some (.tmp 37)) rfl rfl (at_ + 2) (at_ + 4) (.inr ⟨.i64, rfl⟩) (.inr ⟨.i64, rfl⟩) (by omega) (by omega) ?_); intro ad38 had38; rw [show at_ + 4 - (at_ + 2) = 2 by omega]; have H38 := Lib.hid (show Bs w ad38 2 (c - (at_ + 2)) ((R.drop 2).take 2) by rw [had38.out, HR.out, List.drop_drop]; have := Bs.part HS.out (at_ + 2) (at_ + 4) (by omega) (by omega); rwa [show at_ + 4 - (at_ + 2) = 2 by omega] at this); simp only [Act.put, List.setIfInBounds_toArray, List.set_cons_zero, List.set_cons_succ])
            | (go_at_call 27; (with_reducible show Calls _ _ #[Value.slice ad38 _ _, _] _ _); go_must (refine (refGet_any ad38 2 (c - (at_ + 2)) _ big _ (H38.out.below (HB.out.trans (Below.mono (by repeat (first | exact Below.refl _ _ | refine Below.drew ?_ | refine Below.trans ?_ (below_drewN _ _ _) | refine Below.alloc ?_ (by first | exact Nat.le_refl _ | (simp; done) | (simp; omega)) _)) HB.out.size)))).mono ?_); intro e w6 hr6; (try unfold RetN at hr6); rw [HSZ.out] at hr6; obtain ⟨rfl, hb6⟩ := hr6; (first | (have hE__ := cU HB (by repeat (first | exact Below.refl _ _ | refine Below.drew ?_ | refine Below.trans ?_ (below_drewN _ _ _) | refine Below.alloc ?_ (by first | exact Nat.le_refl _ | (simp; done) | (simp; omega)) _)) hb6; (first | replace HB := cK1 HB hE__); (first | replace HG := cB1 HG hE__ | replace HG := cO1 HG hE__ | replace HG := cG1 HG hE__ | replace HG := cW1 HG hE__ | replace HG := cV1 HG hE__ | replace HG := cP1 HG hE__ | replace HG := cK1 HG hE__); (first | replace HW := cB1 HW hE__ | replace HW := cO1 HW hE__ | replace HW := cG1 HW hE__ | replace HW := cW1 HW hE__ | replace HW := cV1 HW hE__ | replace HW := cP1 HW hE__ | replace HW := cK1 HW hE__); clear hE__) | (subst hb6)); (try clear hb6); clear H38))
          go_loop [12] (fun v => ∃ (j m : Nat), j ≤ padN sz ∧ v = .int .i64 m ∧ Hid (m = sz + j)) (fun v => sz + padN sz - (intOf v).toNat)
          case atStart => exact ⟨0, sz, by omega, rfl, Lib.hid rfl⟩
          case round =>
            obtain ⟨j, m, hj, rfl, HM⟩ := hrel
            have hmb : m ≤ 65538 := by have := HM.out; omega
            by_cases h6 : (m : Int) % 4 = 0
            · have hj2 : j = padN sz := padN_end sz j (by have := HM.out; omega) hj
              have hm2 : m = sz + padN sz := by rw [HM.out, hj2]
              have HM2 := Lib.hid hm2
              clear HM hj2 hm2
              by_cases h5 : (n : Int) < (at_ : Int) + 4 + (m : Int)
              · have HE := Lib.hid (HE2.out.trans (if_pos (by have := HM2.out; omega)))
                go_wp2_with (first
                  | ((with_reducible show wpList _ _ _ (⟨none, .store _ _ _, _, _, _, _⟩ :: _) _ _); go_must (refine wpL_storeS rfl 33 (.tmp 7) (.tmp 70) rfl w.heap.size (at_, 2) rfl rfl HG.out HI.out ?_); intro w9 hg9 hgr9; have HG9 := Lib.hid hg9; have HB9 := Lib.hid (HB.out.grown hgr9 HB.out.size (fun k e => by cases e; exact Nat.le_refl _)); have HW9 := Lib.hid (HW.out.other hgr9 (by omega)); clear hg9 hgr9; simp only [Act.put, List.setIfInBounds_toArray, List.set_cons_zero, List.set_cons_succ]))
                (try simp only [Exit.inBlock, Exit.then, Exit.noGoto_ret])
                refine bodyPost_cell4 (cs := spotC (at_, 2)) rfl rfl (range_block HG9.out) Try.underlying33 rfl HI.out rfl ?_
                exact ⟨none, 0, 0, by rw [HE.out]; rfl, [], OwnOps.nil _ _ _, by rw [HE.out]; rfl, HB9.out⟩
              · have HE := Lib.hid (HE2.out.trans (if_neg (by have := HM2.out; omega)))
                have hszc : at_ + 4 + sz ≤ n := by have := HM2.out; omega
                obtain ⟨V, hV⟩ : ∃ V, V = (R.drop 4).take sz := ⟨_, rfl⟩
                have HV := Lib.hid hV
                clear hV
                go_wp2_with (first
                  | ((with_reducible show wpList _ _ _ (⟨some 79, _, _, _, _, _⟩ :: _) _ _); go_must (refine wpL_slice elB rfl (.tmp 72) (some (.tmp 74)) (some (.tmp 78)) rfl rfl (at_ + 4) (at_ + 4 + sz) (.inr ⟨.i64, rfl⟩) (.inr ⟨.i64, rfl⟩) (by omega) (by omega) ?_); intro ad79 had79; rw [show at_ + 4 + sz - (at_ + 4) = sz by omega]; have H79 := Lib.hid (show Bs w ad79 sz (c - (at_ + 4)) V by rw [had79.out, HV.out, HR.out, List.drop_drop]; have := Bs.part HS.out (at_ + 4) (at_ + 4 + sz) (by omega) (by omega); rwa [show at_ + 4 + sz - (at_ + 4) = sz by omega] at this); simp only [Act.put, List.setIfInBounds_toArray, List.set_cons_zero, List.set_cons_succ])
                  | ((with_reducible show wpList _ _ _ (⟨some 80, _, _, _, _, _⟩ :: _) _ _); go_must (refine wpL_appB (l := []) elB rfl (.tmp 71) (.tmp 79) rfl wr.heap.size rfl (World.ownsRow_nil _ _ _ _) rfl (H79.out.below HB.out) (by omega) (Nat.le_refl _) ?_); intro ad7 c7 w7 ho7 hb7; rw [List.nil_append] at ho7; simp only [Nat.zero_add] at ho7; have HNB := Lib.hid (new_apart ho7 HW.out (by have := lt_of_block HG.out; omega)); have hE__ := cU HB (by repeat (first | exact Below.refl _ _ | refine Below.drew ?_ | refine Below.trans ?_ (below_drewN _ _ _) | refine Below.alloc ?_ (by first | exact Nat.le_refl _ | (simp; done) | (simp; omega)) _)) hb7; (first | replace HB := cK1 HB hE__); (first | replace HG := cB1 HG hE__ | replace HG := cO1 HG hE__ | replace HG := cG1 HG hE__ | replace HG := cW1 HG hE__ | replace HG := cV1 HG hE__ | replace HG := cP1 HG hE__ | replace HG := cK1 HG hE__); (first | replace HW := cB1 HW hE__ | replace HW := cO1 HW hE__ | replace HW := cG1 HW hE__ | replace HW := cW1 HW hE__ | replace HW := cV1 HW hE__ | replace HW := cP1 HW hE__ | replace HW := cK1 HW hE__); clear hE__; have H7 := Lib.hid (Bs.of_own ho7); clear ho7 hb7 H79; simp only [Nat.zero_add, Act.put, List.setIfInBounds_toArray, List.set_cons_zero, List.set_cons_succ])
                  | ((with_reducible show wpList _ _ _ (⟨some 86, _, _, _, _, _⟩ :: _) _ _); go_must (refine wpL_pushO elO rfl (.tmp 81) (.tmp 85) rfl (w.heap.size + 1) rfl HW.out ⟨(cd : Int), ad7, sz, c7, V⟩ rfl rfl H7.out HNB.out (lt_of_block HG.out) (by omega) ?_); intro ad9 c9 w9 ho9 hb9; clear HW; have HW := Lib.hid ho9; have HB9 := Lib.hid (HB.out.trans (hb9.mono (by omega))); have HG9 := Lib.hid ((hb9.block w.heap.size (by omega)).trans HG.out); clear HB HG; have HB := HB9; have HG := HG9; clear HB9 HG9 ho9 hb9 H7 HNB; simp only [Act.put, List.setIfInBounds_toArray, List.set_cons_zero, List.set_cons_succ]))
                go_roundw
                case rel => exact ⟨at_ + (4 + sz + padN sz), ad9, n1 + 1, c9, os ++ [⟨(cd : Int), ad7, sz, c7, V⟩], by have := HM2.out; omega, by omega, by have := HM2.out; go_num, rfl, HW.out, HG.out, HB.out, Lib.hid (by rw [HE.out, vals_append, ← HV.out]; rfl)⟩
                case measure => simp [intOf]; omega
            · have hj2 : j < padN sz := padN_more sz j (by have := HM.out; omega) hj
              go_wp2_with fail
              go_round
              case rel => exact ⟨j + 1, m + 1, by omega, by go_num, Lib.hid (by rw [HM.out]; omega)⟩
              case measure => simp [intOf]; have := HM.out; omega
    · have HE := Lib.hid (HX.out.trans (rows_end big l at_ (vals os) (by omega)))
      clear hn
      go_wp2_with (first
        | ((with_reducible show wpList _ _ _ (⟨none, .store _ _ _, _, _, _, _⟩ :: _) _ _); go_must (refine wpL_storeS rfl 33 (.tmp 7) (.tmp 93) rfl w.heap.size (0, 0) rfl rfl HG.out HI.out ?_); intro w9 hg9 hgr9; have HG9 := Lib.hid hg9; have HB9 := Lib.hid (HB.out.grown hgr9 HB.out.size (fun k e => by cases e; exact Nat.le_refl _)); have HW9 := Lib.hid (HW.out.other hgr9 (by omega)); clear hg9 hgr9; simp only [Act.put, List.setIfInBounds_toArray, List.set_cons_zero, List.set_cons_succ]))
      (try simp only [Exit.inBlock, Exit.then, Exit.noGoto_ret])
      refine bodyPost_cell4 (cs := spotC (0, 0)) rfl rfl (range_block HG9.out) Try.underlying33 rfl HI.out rfl ?_
      exact ⟨ad1, n1, c1, os, by rw [HE.out]; rfl, HW9.out.base (by omega), by rw [HE.out], HB9.out⟩
end Go.Proofs.Ytmigbcoobbcahaa
