/-
  Chapter 25: options read, walked.
-/
import Derived.Test.YtmigbcoobbcahaaOpt5
import Derived.WalkMore
namespace Go.Proofs.Ytmigbcoobbcahaa
open Go.RowKit Go.Sort
set_option linter.unusedVariables false
set_option linter.unusedSimpArgs false

theorem cW {w a w' : World} {e : TypeId} {base : Nat} {ad : Option Addr} {n c : Nat} {os : List OptV} (h : Hid (OwnOps e base w ad n c os)) (hu : Below w.heap.size w a) (hb : Below a.heap.size a w') : Hid (OwnOps e base w' ad n c os) :=
  Lib.hid ((h.out.keep hu).keep hb)
theorem cW1 {w w' : World} {e : TypeId} {base : Nat} {ad : Option Addr} {n c : Nat} {os : List OptV} (h : Hid (OwnOps e base w ad n c os)) (hE : Below w.heap.size w w') : Hid (OwnOps e base w' ad n c os) := Lib.hid (h.out.keep hE)
theorem new_apart {v w' : World} {e T : TypeId} {base : Nat} {ad ado : Option Addr} {n c no co : Nat} {xs : List Value} {os : List OptV} (h : w'.ownsRow v.heap.size e 1 (.slice ad n c) n xs) (hown : OwnOps T base v ado no co os) (hb : base ≤ v.heap.size) :
    ∀ x, ad = some x → base ≤ x.block ∧ x.block < w'.heap.size ∧ ∀ y, ado = some y → x.block ≠ y.block := by
  intro x hx
  rcases own_form h with ⟨h1, _⟩ | ⟨g, h1, h2, h3⟩
  · rw [h1] at hx; cases hx
  · rw [h1] at hx; cases hx
    refine ⟨?_, h3, fun y hy => ?_⟩
    · show base ≤ g
      omega
    · rcases own_form hown.1 with ⟨h4, _⟩ | ⟨g', h4, h5, h6⟩
      · rw [h4] at hy; cases hy
      · rw [h4] at hy; cases hy
        show g ≠ g'
        omega
theorem Bs.drop8 {w : World} {ad : Option Addr} {n c : Nat} {l : List UInt8} (h : Bs w ad n c l) (k : Nat) (hk : k ≤ n) : Bs w (subAd ad c k 1) (n - k) (c - k) (l.drop k) := by
  have := Sl.sub h (l := k) (h := n) hk (Nat.le_refl _)
  have e : ((BV l).drop (k * 1)).take ((n - k) * 1) = BV (l.drop k) := by
    have hn := h.len
    simp only [Nat.mul_one]
    unfold BV
    rw [← List.map_drop, List.take_of_length_le (by simp; omega)]
  rw [e] at this
  exact this

set_option maxRecDepth 100000 in
set_option maxHeartbeats 2000000 in
theorem rows_any (ad : Option Addr) (n c : Nat) (l : List UInt8) (big : Bool) (w : World) (hs : Bs w ad n c l) (hsz : n ≤ 1000000000) :
    Calls Try.prog 26 #[.slice ad n c, .bool big] w fun e w' => ∃ ad' n' c' os, e = .returned (.tuple #[.slice ad' n' c', .int .i64 ((rowsB big l).2.1 : Int), .bool (rowsB big l).2.2.1, .agg (spotC (rowsB big l).2.2.2).toArray]) ∧ OwnOps 43 w.heap.size w' ad' n' c' os ∧ vals os = (rowsB big l).1 ∧ Below w.heap.size w w' := by
  have hn := hs.len
  have hle := hs.le
  obtain ⟨X, hX⟩ : ∃ X, X = rowsB big l := ⟨_, rfl⟩
  have HX0 := Lib.hid (show X = rowsS big l.length (l.drop 0) 0 (vals []) by rw [hX, List.drop_zero]; rfl)
  rw [← hX]
  have HS := Lib.hid hs
  have HN := Lib.hid hn
  have HI : Hid ((Try.prog.info? 33).map (·.size) = some 2) := Lib.hid (by kernel_rfl)
  clear hs hn hX
  go_enter Try.func26, Try.ntmps26
  go_wp2_with fail
  go_step3
  go_wp2_with fail
  go_step3
  go_wp2_with fail
  go_loopw [8, 9, 10] (fun v i en wr => ∃ (at_ : Nat) (ad' : Option Addr) (n' c' : Nat) (os : List OptV), at_ ≤ n ∧ en = .bool false ∧ 4 * n' ≤ at_ ∧ i = .int .i64 at_ ∧ v = .slice ad' n' c' ∧ OwnOps 43 (w.heap.size + 1) wr ad' n' c' os ∧ wr.heap[w.heap.size]? = some (.cells (spotC (0, 0)).toArray 33 (0, 0)) ∧ Below w.heap.size w wr ∧ Hid (X = rowsS big l.length (l.drop at_) at_ (vals os))) (fun _ i _ _ => n - (intOf i).toNat)
  case atStart => exact ⟨0, none, 0, 0, [], by omega, rfl, by omega, rfl, rfl, OwnOps.nil _ _ _, heap_alloc_last w _, (Below.refl _ _).alloc (Nat.le_refl _) _, HX0⟩
  case round =>
    obtain ⟨at_, ad1, n1, c1, os, hat, rfl, hn1, rfl, rfl, how, hg, hb, HX⟩ := hrel
    have HW := Lib.hid how
    have HG := Lib.hid hg
    have HB := Lib.hid hb
    have hw1 : w.heap.size + 1 ≤ wr.heap.size := lt_of_block hg
    clear how hg hb HX0
    have hn := HN.out
    by_cases hlt : at_ < n
    · have HST := Lib.hid (HX.out.trans (rows_step big l at_ (vals os) (by omega)))
      have HR0 := Lib.hid (Bs.drop8 HS.out at_ (by omega))
      obtain ⟨R, hR⟩ : ∃ R, R = l.drop at_ := ⟨_, rfl⟩
      obtain ⟨rn, hrn⟩ : ∃ rn, rn = l.length - at_ := ⟨_, rfl⟩
      obtain ⟨rc, hrc⟩ : ∃ rc, rc = c - at_ := ⟨_, rfl⟩
      obtain ⟨cd, hcd⟩ : ∃ cd, cd = codeOf big R := ⟨_, rfl⟩
      obtain ⟨sz, hsz2⟩ : ∃ sz, sz = sizeOf2 big R := ⟨_, rfl⟩
      have hcd1 : cd ≤ 65535 := by rw [hcd]; exact codeOf_le _ _
      have hsz1 : sz ≤ 65535 := by rw [hsz2]; exact sizeOf2_le _ _
      rw [← hR, ← hcd, ← hsz2, ← hrn] at HST
      rw [← hn] at hrn
      rw [← hR, ← hrn, ← hrc] at HR0
      have hrb : rn + at_ = n := by omega
      have hrr : rn ≤ rc := by omega
      have HRN := Lib.hid hrn
      have HRC := Lib.hid hrc
      have HCD := Lib.hid (show getN (R.take 2) big = cd from hcd.symm)
      have HSZ := Lib.hid (show getN ((R.drop 2).take 2) big = sz from hsz2.symm)
      have HRL := Lib.hid (show R.length = rn by rw [hR, List.length_drop]; omega)
      have HR := Lib.hid hR
      have hp3 := padN_le sz
      have hac : at_ ≤ c := by omega
      clear hR hrn hrc hcd hsz2 hn
      by_cases h4 : (rn : Int) < 4
      · have HE := Lib.hid (HST.out.trans (if_pos (by omega)))
        go_wp2_with (first
          | ((with_reducible show wpList _ _ _ (⟨some 20, _, _, _, _, _⟩ :: _) _ _); go_must (refine wpL_slice elB rfl (.tmp 18) (some (.tmp 19)) none rfl rfl at_ n (.inr ⟨.i64, rfl⟩) (.inl ⟨rfl, rfl⟩) (by omega) (by omega) ?_); intro adr hadr; rw [← HRN.out, ← HRC.out]; have HRR := Lib.hid (show Bs w adr rn rc R by rw [hadr.out]; exact HR0.out); simp only [Act.put, List.setIfInBounds_toArray, List.set_cons_zero, List.set_cons_succ])
          | ((with_reducible show wpList _ _ _ (⟨none, .store _ _ _, _, _, _, _⟩ :: _) _ _); go_must (refine wpL_storeS rfl 33 (.tmp 7) (.tmp 25) rfl w.heap.size (at_, 2) rfl rfl HG.out HI.out ?_); intro w9 hg9 hgr9; have HG9 := Lib.hid hg9; have HB9 := Lib.hid (HB.out.grown hgr9 HB.out.size (fun k e => by cases e; exact Nat.le_refl _)); have HW9 := Lib.hid (HW.out.other hgr9 (by omega)); clear hg9 hgr9; simp only [Act.put, List.setIfInBounds_toArray, List.set_cons_zero, List.set_cons_succ]))
        (try simp only [Exit.inBlock, Exit.then, Exit.noGoto_ret])
        refine bodyPost_cell4 (cs := spotC (at_, 2)) rfl rfl (range_block HG9.out) Try.underlying33 rfl HI.out rfl ?_
        exact ⟨none, 0, 0, [], by rw [HE.out]; rfl, OwnOps.nil _ _ _, by rw [HE.out]; rfl, HB9.out⟩
      · have h4n : 4 ≤ rn := by omega
        have HE1 := Lib.hid (HST.out.trans (if_neg (by omega)))
        clear HST
        by_cases hc : cd = 0
        · by_cases hz : sz = 0
          · have HE := Lib.hid (HE1.out.trans (if_pos ⟨hc, hz⟩))
            go_wp2_with (first
              | ((with_reducible show wpList _ _ _ (⟨some 20, _, _, _, _, _⟩ :: _) _ _); go_must (refine wpL_slice elB rfl (.tmp 18) (some (.tmp 19)) none rfl rfl at_ n (.inr ⟨.i64, rfl⟩) (.inl ⟨rfl, rfl⟩) (by omega) (by omega) ?_); intro adr hadr; rw [← HRN.out, ← HRC.out]; have HRR := Lib.hid (show Bs w adr rn rc R by rw [hadr.out]; exact HR0.out); simp only [Act.put, List.setIfInBounds_toArray, List.set_cons_zero, List.set_cons_succ])
              | ((with_reducible show wpList _ _ _ (⟨some 27, _, _, _, _, _⟩ :: _) _ _); go_must (refine wpL_slice elB rfl (.tmp 26) none (some (.const (.int .i64 2))) rfl rfl 0 2 (.inl ⟨rfl, rfl⟩) (.inr ⟨.i64, rfl⟩) (by omega) (by omega) ?_); intro ad27 had27; have H27 := Lib.hid (show Bs w ad27 2 rc (R.take 2) by rw [had27.out]; exact Bs.part HRR.out 0 2 (by omega) (by omega)); simp only [Act.put, List.setIfInBounds_toArray, List.set_cons_zero, List.set_cons_succ])
              | (go_at_call 36; (with_reducible show Calls _ _ #[Value.slice ad27 _ _, _] _ _); go_must (refine (get_any ad27 2 rc _ big _ (H27.out.below (HB.out.trans (Below.mono (by repeat (first | exact Below.refl _ _ | refine Below.drew ?_ | refine Below.trans ?_ (below_drewN _ _ _) | refine Below.alloc ?_ (by first | exact Nat.le_refl _ | (simp; done) | (simp; omega)) _)) HB.out.size)))).mono ?_); intro e w5 hr5; unfold RetN at hr5; rw [HCD.out] at hr5; obtain ⟨rfl, hb5⟩ := hr5; have hE__ := cU HB (by repeat (first | exact Below.refl _ _ | refine Below.drew ?_ | refine Below.trans ?_ (below_drewN _ _ _) | refine Below.alloc ?_ (by first | exact Nat.le_refl _ | (simp; done) | (simp; omega)) _)) hb5; (first | replace HB := cK1 HB hE__); (first | replace HG := cB1 HG hE__ | replace HG := cO1 HG hE__ | replace HG := cG1 HG hE__ | replace HG := cW1 HG hE__ | replace HG := cV1 HG hE__ | replace HG := cP1 HG hE__ | replace HG := cK1 HG hE__); (first | replace HW := cB1 HW hE__ | replace HW := cO1 HW hE__ | replace HW := cG1 HW hE__ | replace HW := cW1 HW hE__ | replace HW := cV1 HW hE__ | replace HW := cP1 HW hE__ | replace HW := cK1 HW hE__); clear hE__; clear hb5 H27)
              | ((with_reducible show wpList _ _ _ (⟨some 32, _, _, _, _, _⟩ :: _) _ _); go_must (refine wpL_slice elB rfl (.tmp 31) (some (.const (.int .i64 2))) (some (.const (.int .i64 4))) rfl rfl 2 4 (.inr ⟨.i64, rfl⟩) (.inr ⟨.i64, rfl⟩) (by omega) (by omega) ?_); intro ad32 had32; have H32 := Lib.hid (show Bs w ad32 2 (rc - 2) ((R.drop 2).take 2) by rw [had32.out]; exact Bs.part HRR.out 2 4 (by omega) (by omega)); simp only [Act.put, List.setIfInBounds_toArray, List.set_cons_zero, List.set_cons_succ])
              | (go_at_call 36; (with_reducible show Calls _ _ #[Value.slice ad32 _ _, _] _ _); go_must (refine (get_any ad32 2 (rc - 2) _ big _ (H32.out.below (HB.out.trans (Below.mono (by repeat (first | exact Below.refl _ _ | refine Below.drew ?_ | refine Below.trans ?_ (below_drewN _ _ _) | refine Below.alloc ?_ (by first | exact Nat.le_refl _ | (simp; done) | (simp; omega)) _)) HB.out.size)))).mono ?_); intro e w6 hr6; unfold RetN at hr6; rw [HSZ.out] at hr6; obtain ⟨rfl, hb6⟩ := hr6; have hE__ := cU HB (by repeat (first | exact Below.refl _ _ | refine Below.drew ?_ | refine Below.trans ?_ (below_drewN _ _ _) | refine Below.alloc ?_ (by first | exact Nat.le_refl _ | (simp; done) | (simp; omega)) _)) hb6; (first | replace HB := cK1 HB hE__); (first | replace HG := cB1 HG hE__ | replace HG := cO1 HG hE__ | replace HG := cG1 HG hE__ | replace HG := cW1 HG hE__ | replace HG := cV1 HG hE__ | replace HG := cP1 HG hE__ | replace HG := cK1 HG hE__); (first | replace HW := cB1 HW hE__ | replace HW := cO1 HW hE__ | replace HW := cG1 HW hE__ | replace HW := cW1 HW hE__ | replace HW := cV1 HW hE__ | replace HW := cP1 HW hE__ | replace HW := cK1 HW hE__); clear hE__; clear hb6 H32)
              | ((with_reducible show wpList _ _ _ (⟨none, .store _ _ _, _, _, _, _⟩ :: _) _ _); go_must (refine wpL_storeS rfl 33 (.tmp 7) (.tmp 81) rfl w.heap.size (0, 0) rfl rfl HG.out HI.out ?_); intro w9 hg9 hgr9; have HG9 := Lib.hid hg9; have HB9 := Lib.hid (HB.out.grown hgr9 HB.out.size (fun k e => by cases e; exact Nat.le_refl _)); have HW9 := Lib.hid (HW.out.other hgr9 (by omega)); clear hg9 hgr9; simp only [Act.put, List.setIfInBounds_toArray, List.set_cons_zero, List.set_cons_succ]))
            (try simp only [Exit.inBlock, Exit.then, Exit.noGoto_ret])
            refine bodyPost_cell4 (cs := spotC (0, 0)) rfl rfl (range_block HG9.out) Try.underlying33 rfl HI.out rfl ?_
            exact ⟨ad1, n1, c1, os, by rw [HE.out]; rfl, HW9.out.base (by omega), by rw [HE.out], HB9.out⟩
          · have HE := Lib.hid ((HE1.out.trans (if_neg (by omega))).trans (if_pos hc))
            go_wp2_with (first
              | ((with_reducible show wpList _ _ _ (⟨some 20, _, _, _, _, _⟩ :: _) _ _); go_must (refine wpL_slice elB rfl (.tmp 18) (some (.tmp 19)) none rfl rfl at_ n (.inr ⟨.i64, rfl⟩) (.inl ⟨rfl, rfl⟩) (by omega) (by omega) ?_); intro adr hadr; rw [← HRN.out, ← HRC.out]; have HRR := Lib.hid (show Bs w adr rn rc R by rw [hadr.out]; exact HR0.out); simp only [Act.put, List.setIfInBounds_toArray, List.set_cons_zero, List.set_cons_succ])
              | ((with_reducible show wpList _ _ _ (⟨some 27, _, _, _, _, _⟩ :: _) _ _); go_must (refine wpL_slice elB rfl (.tmp 26) none (some (.const (.int .i64 2))) rfl rfl 0 2 (.inl ⟨rfl, rfl⟩) (.inr ⟨.i64, rfl⟩) (by omega) (by omega) ?_); intro ad27 had27; have H27 := Lib.hid (show Bs w ad27 2 rc (R.take 2) by rw [had27.out]; exact Bs.part HRR.out 0 2 (by omega) (by omega)); simp only [Act.put, List.setIfInBounds_toArray, List.set_cons_zero, List.set_cons_succ])
              | (go_at_call 36; (with_reducible show Calls _ _ #[Value.slice ad27 _ _, _] _ _); go_must (refine (get_any ad27 2 rc _ big _ (H27.out.below (HB.out.trans (Below.mono (by repeat (first | exact Below.refl _ _ | refine Below.drew ?_ | refine Below.trans ?_ (below_drewN _ _ _) | refine Below.alloc ?_ (by first | exact Nat.le_refl _ | (simp; done) | (simp; omega)) _)) HB.out.size)))).mono ?_); intro e w5 hr5; unfold RetN at hr5; rw [HCD.out] at hr5; obtain ⟨rfl, hb5⟩ := hr5; have hE__ := cU HB (by repeat (first | exact Below.refl _ _ | refine Below.drew ?_ | refine Below.trans ?_ (below_drewN _ _ _) | refine Below.alloc ?_ (by first | exact Nat.le_refl _ | (simp; done) | (simp; omega)) _)) hb5; (first | replace HB := cK1 HB hE__); (first | replace HG := cB1 HG hE__ | replace HG := cO1 HG hE__ | replace HG := cG1 HG hE__ | replace HG := cW1 HG hE__ | replace HG := cV1 HG hE__ | replace HG := cP1 HG hE__ | replace HG := cK1 HG hE__); (first | replace HW := cB1 HW hE__ | replace HW := cO1 HW hE__ | replace HW := cG1 HW hE__ | replace HW := cW1 HW hE__ | replace HW := cV1 HW hE__ | replace HW := cP1 HW hE__ | replace HW := cK1 HW hE__); clear hE__; clear hb5 H27)
              | ((with_reducible show wpList _ _ _ (⟨some 32, _, _, _, _, _⟩ :: _) _ _); go_must (refine wpL_slice elB rfl (.tmp 31) (some (.const (.int .i64 2))) (some (.const (.int .i64 4))) rfl rfl 2 4 (.inr ⟨.i64, rfl⟩) (.inr ⟨.i64, rfl⟩) (by omega) (by omega) ?_); intro ad32 had32; have H32 := Lib.hid (show Bs w ad32 2 (rc - 2) ((R.drop 2).take 2) by rw [had32.out]; exact Bs.part HRR.out 2 4 (by omega) (by omega)); simp only [Act.put, List.setIfInBounds_toArray, List.set_cons_zero, List.set_cons_succ])
              | (go_at_call 36; (with_reducible show Calls _ _ #[Value.slice ad32 _ _, _] _ _); go_must (refine (get_any ad32 2 (rc - 2) _ big _ (H32.out.below (HB.out.trans (Below.mono (by repeat (first | exact Below.refl _ _ | refine Below.drew ?_ | refine Below.trans ?_ (below_drewN _ _ _) | refine Below.alloc ?_ (by first | exact Nat.le_refl _ | (simp; done) | (simp; omega)) _)) HB.out.size)))).mono ?_); intro e w6 hr6; unfold RetN at hr6; rw [HSZ.out] at hr6; obtain ⟨rfl, hb6⟩ := hr6; have hE__ := cU HB (by repeat (first | exact Below.refl _ _ | refine Below.drew ?_ | refine Below.trans ?_ (below_drewN _ _ _) | refine Below.alloc ?_ (by first | exact Nat.le_refl _ | (simp; done) | (simp; omega)) _)) hb6; (first | replace HB := cK1 HB hE__); (first | replace HG := cB1 HG hE__ | replace HG := cO1 HG hE__ | replace HG := cG1 HG hE__ | replace HG := cW1 HG hE__ | replace HG := cV1 HG hE__ | replace HG := cP1 HG hE__ | replace HG := cK1 HG hE__); (first | replace HW := cB1 HW hE__ | replace HW := cO1 HW hE__ | replace HW := cG1 HW hE__ | replace HW := cW1 HW hE__ | replace HW := cV1 HW hE__ | replace HW := cP1 HW hE__ | replace HW := cK1 HW hE__); clear hE__; clear hb6 H32)
              | ((with_reducible show wpList _ _ _ (⟨none, .store _ _ _, _, _, _, _⟩ :: _) _ _); go_must (refine wpL_storeS rfl 33 (.tmp 7) (.tmp 49) rfl w.heap.size (at_, 3) rfl rfl HG.out HI.out ?_); intro w9 hg9 hgr9; have HG9 := Lib.hid hg9; have HB9 := Lib.hid (HB.out.grown hgr9 HB.out.size (fun k e => by cases e; exact Nat.le_refl _)); have HW9 := Lib.hid (HW.out.other hgr9 (by omega)); clear hg9 hgr9; simp only [Act.put, List.setIfInBounds_toArray, List.set_cons_zero, List.set_cons_succ]))
            (try simp only [Exit.inBlock, Exit.then, Exit.noGoto_ret])
            refine bodyPost_cell4 (cs := spotC (at_, 3)) rfl rfl (range_block HG9.out) Try.underlying33 rfl HI.out rfl ?_
            exact ⟨none, 0, 0, [], by rw [HE.out]; rfl, OwnOps.nil _ _ _, by rw [HE.out]; rfl, HB9.out⟩
        · by_cases h5 : (rn : Int) - 4 < (sz : Int) + (padN sz : Int)
          · have HE := Lib.hid (((HE1.out.trans (if_neg (by omega))).trans (if_neg hc)).trans (if_pos (by omega)))
            go_wp2_with (first
              | ((with_reducible show wpList _ _ _ (⟨some 20, _, _, _, _, _⟩ :: _) _ _); go_must (refine wpL_slice elB rfl (.tmp 18) (some (.tmp 19)) none rfl rfl at_ n (.inr ⟨.i64, rfl⟩) (.inl ⟨rfl, rfl⟩) (by omega) (by omega) ?_); intro adr hadr; rw [← HRN.out, ← HRC.out]; have HRR := Lib.hid (show Bs w adr rn rc R by rw [hadr.out]; exact HR0.out); simp only [Act.put, List.setIfInBounds_toArray, List.set_cons_zero, List.set_cons_succ])
              | ((with_reducible show wpList _ _ _ (⟨some 27, _, _, _, _, _⟩ :: _) _ _); go_must (refine wpL_slice elB rfl (.tmp 26) none (some (.const (.int .i64 2))) rfl rfl 0 2 (.inl ⟨rfl, rfl⟩) (.inr ⟨.i64, rfl⟩) (by omega) (by omega) ?_); intro ad27 had27; have H27 := Lib.hid (show Bs w ad27 2 rc (R.take 2) by rw [had27.out]; exact Bs.part HRR.out 0 2 (by omega) (by omega)); simp only [Act.put, List.setIfInBounds_toArray, List.set_cons_zero, List.set_cons_succ])
              | (go_at_call 36; (with_reducible show Calls _ _ #[Value.slice ad27 _ _, _] _ _); go_must (refine (get_any ad27 2 rc _ big _ (H27.out.below (HB.out.trans (Below.mono (by repeat (first | exact Below.refl _ _ | refine Below.drew ?_ | refine Below.trans ?_ (below_drewN _ _ _) | refine Below.alloc ?_ (by first | exact Nat.le_refl _ | (simp; done) | (simp; omega)) _)) HB.out.size)))).mono ?_); intro e w5 hr5; unfold RetN at hr5; rw [HCD.out] at hr5; obtain ⟨rfl, hb5⟩ := hr5; have hE__ := cU HB (by repeat (first | exact Below.refl _ _ | refine Below.drew ?_ | refine Below.trans ?_ (below_drewN _ _ _) | refine Below.alloc ?_ (by first | exact Nat.le_refl _ | (simp; done) | (simp; omega)) _)) hb5; (first | replace HB := cK1 HB hE__); (first | replace HG := cB1 HG hE__ | replace HG := cO1 HG hE__ | replace HG := cG1 HG hE__ | replace HG := cW1 HG hE__ | replace HG := cV1 HG hE__ | replace HG := cP1 HG hE__ | replace HG := cK1 HG hE__); (first | replace HW := cB1 HW hE__ | replace HW := cO1 HW hE__ | replace HW := cG1 HW hE__ | replace HW := cW1 HW hE__ | replace HW := cV1 HW hE__ | replace HW := cP1 HW hE__ | replace HW := cK1 HW hE__); clear hE__; clear hb5 H27)
              | ((with_reducible show wpList _ _ _ (⟨some 32, _, _, _, _, _⟩ :: _) _ _); go_must (refine wpL_slice elB rfl (.tmp 31) (some (.const (.int .i64 2))) (some (.const (.int .i64 4))) rfl rfl 2 4 (.inr ⟨.i64, rfl⟩) (.inr ⟨.i64, rfl⟩) (by omega) (by omega) ?_); intro ad32 had32; have H32 := Lib.hid (show Bs w ad32 2 (rc - 2) ((R.drop 2).take 2) by rw [had32.out]; exact Bs.part HRR.out 2 4 (by omega) (by omega)); simp only [Act.put, List.setIfInBounds_toArray, List.set_cons_zero, List.set_cons_succ])
              | (go_at_call 36; (with_reducible show Calls _ _ #[Value.slice ad32 _ _, _] _ _); go_must (refine (get_any ad32 2 (rc - 2) _ big _ (H32.out.below (HB.out.trans (Below.mono (by repeat (first | exact Below.refl _ _ | refine Below.drew ?_ | refine Below.trans ?_ (below_drewN _ _ _) | refine Below.alloc ?_ (by first | exact Nat.le_refl _ | (simp; done) | (simp; omega)) _)) HB.out.size)))).mono ?_); intro e w6 hr6; unfold RetN at hr6; rw [HSZ.out] at hr6; obtain ⟨rfl, hb6⟩ := hr6; have hE__ := cU HB (by repeat (first | exact Below.refl _ _ | refine Below.drew ?_ | refine Below.trans ?_ (below_drewN _ _ _) | refine Below.alloc ?_ (by first | exact Nat.le_refl _ | (simp; done) | (simp; omega)) _)) hb6; (first | replace HB := cK1 HB hE__); (first | replace HG := cB1 HG hE__ | replace HG := cO1 HG hE__ | replace HG := cG1 HG hE__ | replace HG := cW1 HG hE__ | replace HG := cV1 HG hE__ | replace HG := cP1 HG hE__ | replace HG := cK1 HG hE__); (first | replace HW := cB1 HW hE__ | replace HW := cO1 HW hE__ | replace HW := cG1 HW hE__ | replace HW := cW1 HW hE__ | replace HW := cV1 HW hE__ | replace HW := cP1 HW hE__ | replace HW := cK1 HW hE__); clear hE__; clear hb6 H32)
              | (go_at_call 25; go_must (refine (pad_nat sz _ (by omega)).mono ?_); rintro e w8 ⟨rfl, rfl⟩)
              | ((with_reducible show wpList _ _ _ (⟨none, .store _ _ _, _, _, _, _⟩ :: _) _ _); go_must (refine wpL_storeS rfl 33 (.tmp 7) (.tmp 60) rfl w.heap.size (at_, 2) rfl rfl HG.out HI.out ?_); intro w9 hg9 hgr9; have HG9 := Lib.hid hg9; have HB9 := Lib.hid (HB.out.grown hgr9 HB.out.size (fun k e => by cases e; exact Nat.le_refl _)); have HW9 := Lib.hid (HW.out.other hgr9 (by omega)); clear hg9 hgr9; simp only [Act.put, List.setIfInBounds_toArray, List.set_cons_zero, List.set_cons_succ]))
            (try simp only [Exit.inBlock, Exit.then, Exit.noGoto_ret])
            refine bodyPost_cell4 (cs := spotC (at_, 2)) rfl rfl (range_block HG9.out) Try.underlying33 rfl HI.out rfl ?_
            exact ⟨none, 0, 0, [], by rw [HE.out]; rfl, OwnOps.nil _ _ _, by rw [HE.out]; rfl, HB9.out⟩
          · have HE := Lib.hid (((HE1.out.trans (if_neg (by omega))).trans (if_neg hc)).trans (if_neg (by omega)))
            obtain ⟨V, hV⟩ : ∃ V, V = (R.drop 4).take sz := ⟨_, rfl⟩
            have HV := Lib.hid hV
            have HVL := Lib.hid (show V.length = sz by rw [hV, List.length_take, List.length_drop, HRL.out]; omega)
            clear hV
            go_wp2_with (first
              | ((with_reducible show wpList _ _ _ (⟨some 20, _, _, _, _, _⟩ :: _) _ _); go_must (refine wpL_slice elB rfl (.tmp 18) (some (.tmp 19)) none rfl rfl at_ n (.inr ⟨.i64, rfl⟩) (.inl ⟨rfl, rfl⟩) (by omega) (by omega) ?_); intro adr hadr; rw [← HRN.out, ← HRC.out]; have HRR := Lib.hid (show Bs w adr rn rc R by rw [hadr.out]; exact HR0.out); simp only [Act.put, List.setIfInBounds_toArray, List.set_cons_zero, List.set_cons_succ])
              | ((with_reducible show wpList _ _ _ (⟨some 27, _, _, _, _, _⟩ :: _) _ _); go_must (refine wpL_slice elB rfl (.tmp 26) none (some (.const (.int .i64 2))) rfl rfl 0 2 (.inl ⟨rfl, rfl⟩) (.inr ⟨.i64, rfl⟩) (by omega) (by omega) ?_); intro ad27 had27; have H27 := Lib.hid (show Bs w ad27 2 rc (R.take 2) by rw [had27.out]; exact Bs.part HRR.out 0 2 (by omega) (by omega)); simp only [Act.put, List.setIfInBounds_toArray, List.set_cons_zero, List.set_cons_succ])
              | (go_at_call 36; (with_reducible show Calls _ _ #[Value.slice ad27 _ _, _] _ _); go_must (refine (get_any ad27 2 rc _ big _ (H27.out.below (HB.out.trans (Below.mono (by repeat (first | exact Below.refl _ _ | refine Below.drew ?_ | refine Below.trans ?_ (below_drewN _ _ _) | refine Below.alloc ?_ (by first | exact Nat.le_refl _ | (simp; done) | (simp; omega)) _)) HB.out.size)))).mono ?_); intro e w5 hr5; unfold RetN at hr5; rw [HCD.out] at hr5; obtain ⟨rfl, hb5⟩ := hr5; have hE__ := cU HB (by repeat (first | exact Below.refl _ _ | refine Below.drew ?_ | refine Below.trans ?_ (below_drewN _ _ _) | refine Below.alloc ?_ (by first | exact Nat.le_refl _ | (simp; done) | (simp; omega)) _)) hb5; (first | replace HB := cK1 HB hE__); (first | replace HG := cB1 HG hE__ | replace HG := cO1 HG hE__ | replace HG := cG1 HG hE__ | replace HG := cW1 HG hE__ | replace HG := cV1 HG hE__ | replace HG := cP1 HG hE__ | replace HG := cK1 HG hE__); (first | replace HW := cB1 HW hE__ | replace HW := cO1 HW hE__ | replace HW := cG1 HW hE__ | replace HW := cW1 HW hE__ | replace HW := cV1 HW hE__ | replace HW := cP1 HW hE__ | replace HW := cK1 HW hE__); clear hE__; clear hb5 H27)
              | ((with_reducible show wpList _ _ _ (⟨some 32, _, _, _, _, _⟩ :: _) _ _); go_must (refine wpL_slice elB rfl (.tmp 31) (some (.const (.int .i64 2))) (some (.const (.int .i64 4))) rfl rfl 2 4 (.inr ⟨.i64, rfl⟩) (.inr ⟨.i64, rfl⟩) (by omega) (by omega) ?_); intro ad32 had32; have H32 := Lib.hid (show Bs w ad32 2 (rc - 2) ((R.drop 2).take 2) by rw [had32.out]; exact Bs.part HRR.out 2 4 (by omega) (by omega)); simp only [Act.put, List.setIfInBounds_toArray, List.set_cons_zero, List.set_cons_succ])
              | (go_at_call 36; (with_reducible show Calls _ _ #[Value.slice ad32 _ _, _] _ _); go_must (refine (get_any ad32 2 (rc - 2) _ big _ (H32.out.below (HB.out.trans (Below.mono (by repeat (first | exact Below.refl _ _ | refine Below.drew ?_ | refine Below.trans ?_ (below_drewN _ _ _) | refine Below.alloc ?_ (by first | exact Nat.le_refl _ | (simp; done) | (simp; omega)) _)) HB.out.size)))).mono ?_); intro e w6 hr6; unfold RetN at hr6; rw [HSZ.out] at hr6; obtain ⟨rfl, hb6⟩ := hr6; have hE__ := cU HB (by repeat (first | exact Below.refl _ _ | refine Below.drew ?_ | refine Below.trans ?_ (below_drewN _ _ _) | refine Below.alloc ?_ (by first | exact Nat.le_refl _ | (simp; done) | (simp; omega)) _)) hb6; (first | replace HB := cK1 HB hE__); (first | replace HG := cB1 HG hE__ | replace HG := cO1 HG hE__ | replace HG := cG1 HG hE__ | replace HG := cW1 HG hE__ | replace HG := cV1 HG hE__ | replace HG := cP1 HG hE__ | replace HG := cK1 HG hE__); (first | replace HW := cB1 HW hE__ | replace HW := cO1 HW hE__ | replace HW := cG1 HW hE__ | replace HW := cW1 HW hE__ | replace HW := cV1 HW hE__ | replace HW := cP1 HW hE__ | replace HW := cK1 HW hE__); clear hE__; clear hb6 H32)
              | (go_at_call 25; go_must (refine (pad_nat sz _ (by omega)).mono ?_); rintro e w8 ⟨rfl, rfl⟩)
              | ((with_reducible show wpList _ _ _ (⟨some 66, _, _, _, _, _⟩ :: _) _ _); go_must (refine wpL_slice elB rfl (.tmp 63) (some (.const (.int .i64 4))) (some (.tmp 65)) rfl rfl 4 (4 + sz) (.inr ⟨.i64, rfl⟩) (.inr ⟨.i64, rfl⟩) (by omega) (by omega) ?_); intro ad66 had66; rw [show 4 + sz - 4 = sz by omega]; have H66 := Lib.hid (show Bs w ad66 sz (rc - 4) V by rw [had66.out, HV.out]; have := Bs.part HRR.out 4 (4 + sz) (by omega) (by omega); rwa [show 4 + sz - 4 = sz by omega] at this); simp only [Act.put, List.setIfInBounds_toArray, List.set_cons_zero, List.set_cons_succ])
              | (go_at_call 33; go_must (refine (bclone_any ad66 sz (rc - 4) V _ (H66.out.below (HB.out.trans (Below.mono (by repeat (first | exact Below.refl _ _ | refine Below.drew ?_ | refine Below.trans ?_ (below_drewN _ _ _) | refine Below.alloc ?_ (by first | exact Nat.le_refl _ | (simp; done) | (simp; omega)) _)) HB.out.size))) (by omega)).mono ?_); intro e w7 hr7; unfold RetB at hr7; rw [HVL.out] at hr7; obtain ⟨ad7, c7, rfl, ho7, hb7⟩ := hr7; have HNB := Lib.hid (new_apart ho7 HW.out (by have := HB.out.size; have := lt_of_block HG.out; omega)); have hE__ := cU HB (by repeat (first | exact Below.refl _ _ | refine Below.drew ?_ | refine Below.trans ?_ (below_drewN _ _ _) | refine Below.alloc ?_ (by first | exact Nat.le_refl _ | (simp; done) | (simp; omega)) _)) hb7; (first | replace HB := cK1 HB hE__); (first | replace HG := cB1 HG hE__ | replace HG := cO1 HG hE__ | replace HG := cG1 HG hE__ | replace HG := cW1 HG hE__ | replace HG := cV1 HG hE__ | replace HG := cP1 HG hE__ | replace HG := cK1 HG hE__); (first | replace HW := cB1 HW hE__ | replace HW := cO1 HW hE__ | replace HW := cG1 HW hE__ | replace HW := cW1 HW hE__ | replace HW := cV1 HW hE__ | replace HW := cP1 HW hE__ | replace HW := cK1 HW hE__); clear hE__; have H7 := Lib.hid (Bs.of_own ho7); clear ho7 hb7 H66)
              | ((with_reducible show wpList _ _ _ (⟨some 70, _, _, _, _, _⟩ :: _) _ _); go_must (refine wpL_pushO elO rfl (.tmp 61) (.tmp 69) rfl (w.heap.size + 1) rfl HW.out ⟨(cd : Int), ad7, sz, c7, V⟩ rfl rfl H7.out HNB.out (lt_of_block HG.out) (by omega) ?_); intro ad9 c9 w9 ho9 hb9; clear HW; have HW := Lib.hid ho9; have HB9 := Lib.hid (HB.out.trans (hb9.mono (by omega))); have HG9 := Lib.hid ((hb9.block w.heap.size (by omega)).trans HG.out); clear HB HG; have HB := HB9; have HG := HG9; clear HB9 HG9 ho9 hb9 H7 HNB; simp only [Act.put, List.setIfInBounds_toArray, List.set_cons_zero, List.set_cons_succ]))
            go_roundw
            case rel => exact ⟨at_ + (4 + sz + padN sz), ad9, n1 + 1, c9, os ++ [⟨(cd : Int), ad7, sz, c7, V⟩], by omega, rfl, by omega, by go_num, rfl, HW.out, HG.out, HB.out, Lib.hid (by rw [HE.out, vals_append, ← HV.out]; rfl)⟩
            case measure => simp [intOf]; omega
    · have HE := Lib.hid (HX.out.trans (rows_end big l at_ (vals os) (by omega)))
      clear hn
      go_wp2_with (first
        | ((with_reducible show wpList _ _ _ (⟨none, .store _ _ _, _, _, _, _⟩ :: _) _ _); go_must (refine wpL_storeS rfl 33 (.tmp 7) (.tmp 81) rfl w.heap.size (0, 0) rfl rfl HG.out HI.out ?_); intro w9 hg9 hgr9; have HG9 := Lib.hid hg9; have HB9 := Lib.hid (HB.out.grown hgr9 HB.out.size (fun k e => by cases e; exact Nat.le_refl _)); have HW9 := Lib.hid (HW.out.other hgr9 (by omega)); clear hg9 hgr9; simp only [Act.put, List.setIfInBounds_toArray, List.set_cons_zero, List.set_cons_succ]))
      (try simp only [Exit.inBlock, Exit.then, Exit.noGoto_ret])
      refine bodyPost_cell4 (cs := spotC (0, 0)) rfl rfl (range_block HG9.out) Try.underlying33 rfl HI.out rfl ?_
      exact ⟨ad1, n1, c1, os, by rw [HE.out]; rfl, HW9.out.base (by omega), by rw [HE.out], HB9.out⟩
end Go.Proofs.Ytmigbcoobbcahaa
