/-
  Joined by program (merge.py): Opt6, Opt7, Opt8, Opt9.
-/
import Derived.WalkMore
import Derived.Laws.StructEq
import Derived.Deep.RegionHeld
import Derived.OrdersHeld
import Derived.Test.YtmfplinbbcoahaaM2
import Derived.Test.YtmfplinbbcoahaaM4
/-
  Chapter 25: options read, walked.
-/
namespace Go.Proofs.Ytmfplinbbcoahaa
open Go.RowKit Go.Sort
set_option linter.unusedVariables false
set_option linter.unusedSimpArgs false

theorem cW {w a w' : World} {e : TypeId} {base : Nat} {ad : Option Addr} {n c : Nat} {os : List OptV} (h : Hid (OwnOps e base w ad n c os)) (hu : Below w.heap.size w a) (hb : Below a.heap.size a w') : Hid (OwnOps e base w' ad n c os) :=
  Lib.hid ((h.out.keep hu).keep hb)
theorem cW1 {w w' : World} {e : TypeId} {base : Nat} {ad : Option Addr} {n c : Nat} {os : List OptV} (h : Hid (OwnOps e base w ad n c os)) (hE : Below w.heap.size w w') : Hid (OwnOps e base w' ad n c os) := Lib.hid (h.out.keep hE)
instance {w w' : World} {e : TypeId} {base : Nat} {ad : Option Addr} {n c : Nat} {os : List OptV} : Ck (OwnOps e base w ad n c os) w' w (OwnOps e base w' ad n c os) := ⟨fun h hE => h.keep hE⟩
theorem new_apart {v w' : World} {e T : TypeId} {base : Nat} {ad ado : Option Addr} {n c no co : Nat} {xs : List Value} {os : List OptV} (h : w'.ownsRow v.heap.size e 1 (.slice ad n c) n xs) (hown : OwnOps T base v ado no co os) (hb : base ≤ v.heap.size) :
    ∀ x, ad = some x → base ≤ x.block ∧ x.block < w'.heap.size ∧ ∀ y, ado = some y → x.block ≠ y.block := by
  intro x hx
  rcases own_form h with ⟨h1, _⟩ | ⟨g, h1, h2, h3⟩
  · rw [h1] at hx; cases hx
  · rw [h1] at hx; cases hx
    refine ⟨?_, h3, fun y hy => ?_⟩
    · show base ≤ g
      omega
    · rcases own_form hown.1 with ⟨h4, _⟩ | ⟨g', h4, h5, h6⟩
      · rw [h4] at hy; cases hy
      · rw [h4] at hy; cases hy
        show g ≠ g'
        omega
theorem Bs.drop8 {w : World} {ad : Option Addr} {n c : Nat} {l : List UInt8} (h : Bs w ad n c l) (k : Nat) (hk : k ≤ n) : Bs w (subAd ad c k 1) (n - k) (c - k) (l.drop k) := by
  have := Sl.sub h (l := k) (h := n) hk (Nat.le_refl _)
  have e : ((BV l).drop (k * 1)).take ((n - k) * 1) = BV (l.drop k) := by
    have hn := h.len
    simp only [Nat.mul_one]
    unfold BV
    rw [← List.map_drop, List.take_of_length_le (by simp; omega)]
  rw [e] at this
  exact this

set_option maxRecDepth 100000 in
set_option maxHeartbeats 2000000 in
theorem rows_any (ad : Option Addr) (n c : Nat) (l : List UInt8) (big : Bool) (w : World) (hs : Bs w ad n c l) (hsz : n ≤ 1000000000) :
    Calls Try.prog 84 #[.slice ad n c, .bool big] w fun e w' => ∃ ad' n' c' os, e = .returned (.tuple #[.slice ad' n' c', .int .i64 ((rowsB big l).2.1 : Int), .bool (rowsB big l).2.2.1, .agg (spotC (rowsB big l).2.2.2).toArray]) ∧ OwnOps 90 w.heap.size w' ad' n' c' os ∧ vals os = (rowsB big l).1 ∧ Below w.heap.size w w' := by
  have hn := hs.len
  have hle := hs.le
  obtain ⟨X, hX⟩ : ∃ X, X = rowsB big l := ⟨_, rfl⟩
  have HX0 := Lib.hid (show X = rowsS big l.length (l.drop 0) 0 (vals []) by rw [hX, List.drop_zero]; rfl)
  rw [← hX]
  have HS := Lib.hid hs
  have HN := Lib.hid hn
  have HI : Hid ((Try.prog.info? 49).map (·.size) = some 2) := Lib.hid (by kernel_rfl)
  clear hs hn hX
  go_enter Try.func84, Try.ntmps84
  go_wp2_with fail
  go_step3
  go_wp2_with fail
  go_step3
  go_wp2_with fail
  go_loopw [8, 9, 10] (fun v i en wr => ∃ (at_ : Nat) (ad' : Option Addr) (n' c' : Nat) (os : List OptV), at_ ≤ n ∧ en = .bool false ∧ 4 * n' ≤ at_ ∧ i = .int .i64 at_ ∧ v = .slice ad' n' c' ∧ OwnOps 90 (w.heap.size + 1) wr ad' n' c' os ∧ wr.heap[w.heap.size]? = some (.cells (spotC (0, 0)).toArray 49 (0, 0)) ∧ Below w.heap.size w wr ∧ Hid (X = rowsS big l.length (l.drop at_) at_ (vals os))) (fun _ i _ _ => n - (intOf i).toNat)
  case atStart => exact ⟨0, none, 0, 0, [], by omega, rfl, by omega, rfl, rfl, OwnOps.nil _ _ _, heap_alloc_last w _, (Below.refl _ _).alloc (Nat.le_refl _) _, HX0⟩
  case round =>
    obtain ⟨at_, ad1, n1, c1, os, hat, rfl, hn1, rfl, rfl, how, hg, hb, HX⟩ := hrel
    have HW := Lib.hid how
    have HG := Lib.hid hg
    have HB := Lib.hid hb
    have hw1 : w.heap.size + 1 ≤ wr.heap.size := lt_of_block hg
    clear how hg hb HX0
    have hn := HN.out
    by_cases hlt : at_ < n
    · have HST := Lib.hid (HX.out.trans (rows_step big l at_ (vals os) (by omega)))
      have HR0 := Lib.hid (Bs.drop8 HS.out at_ (by omega))
      obtain ⟨R, hR⟩ : ∃ R, R = l.drop at_ := ⟨_, rfl⟩
      obtain ⟨rn, hrn⟩ : ∃ rn, rn = l.length - at_ := ⟨_, rfl⟩
      obtain ⟨rc, hrc⟩ : ∃ rc, rc = c - at_ := ⟨_, rfl⟩
      obtain ⟨cd, hcd⟩ : ∃ cd, cd = codeOf big R := ⟨_, rfl⟩
      obtain ⟨sz, hsz2⟩ : ∃ sz, sz = sizeOf2 big R := ⟨_, rfl⟩
      have hcd1 : cd ≤ 65535 := by rw [hcd]; exact codeOf_le _ _
      have hsz1 : sz ≤ 65535 := by rw [hsz2]; exact sizeOf2_le _ _
      rw [← hR, ← hcd, ← hsz2, ← hrn] at HST
      rw [← hn] at hrn
      rw [← hR, ← hrn, ← hrc] at HR0
      have hrb : rn + at_ = n := by omega
      have hrr : rn ≤ rc := by omega
      have HRN := Lib.hid hrn
      have HRC := Lib.hid hrc
      have HCD := Lib.hid (show getN (R.take 2) big = cd from hcd.symm)
      have HSZ := Lib.hid (show getN ((R.drop 2).take 2) big = sz from hsz2.symm)
      have HRL := Lib.hid (show R.length = rn by rw [hR, List.length_drop]; omega)
      have HR := Lib.hid hR
      have hp3 := padN_le sz
      have hac : at_ ≤ c := by omega
      clear hR hrn hrc hcd hsz2 hn
      by_cases h4 : (rn : Int) < 4
      · have HE := Lib.hid (HST.out.trans (if_pos (by omega)))
        go_wp2_with (first
          | ((with_reducible refine sl 20 ?_); go_must (refine wpL_slice elB rfl (.tmp 18) (some (.tmp 19)) none rfl rfl at_ n (.inr ⟨.i64, rfl⟩) (.inl ⟨rfl, rfl⟩) (by omega) (by omega) ?_); intro adr hadr; rw [← HRN.out, ← HRC.out]; have HRR := Lib.hid (show Bs w adr rn rc R by rw [hadr.out]; exact HR0.out); simp only [PT])
          | ((with_reducible show wpList _ _ _ (⟨none, .store _ _ _, _, _, _, _⟩ :: _) _ _); go_must (refine wpL_storeS rfl 49 (.tmp 7) (.tmp 25) rfl w.heap.size (at_, 2) rfl rfl HG.out HI.out ?_); intro w9 hg9 hgr9; have HG9 := Lib.hid hg9; have HB9 := Lib.hid (HB.out.grown hgr9 HB.out.size (fun k e => by cases e; exact Nat.le_refl _)); have HW9 := Lib.hid (HW.out.other hgr9 (by omega)); clear hg9 hgr9; simp only [PT]))
        (try simp only [Exit.inBlock, Exit.then, Exit.noGoto_ret])
        refine bodyPost_cell4 (cs := spotC (at_, 2)) rfl rfl (range_block HG9.out) Try.underlying49 rfl HI.out rfl ?_
        exact ⟨none, 0, 0, [], by rw [HE.out]; rfl, OwnOps.nil _ _ _, by rw [HE.out]; rfl, HB9.out⟩
      · have h4n : 4 ≤ rn := by omega
        have HE1 := Lib.hid (HST.out.trans (if_neg (by omega)))
        clear HST
        by_cases hc : cd = 0
        · by_cases hz : sz = 0
          · have HE := Lib.hid (HE1.out.trans (if_pos ⟨hc, hz⟩))
            go_wp2_with (first
              | ((with_reducible refine sl 20 ?_); go_must (refine wpL_slice elB rfl (.tmp 18) (some (.tmp 19)) none rfl rfl at_ n (.inr ⟨.i64, rfl⟩) (.inl ⟨rfl, rfl⟩) (by omega) (by omega) ?_); intro adr hadr; rw [← HRN.out, ← HRC.out]; have HRR := Lib.hid (show Bs w adr rn rc R by rw [hadr.out]; exact HR0.out); simp only [PT])
              | ((with_reducible refine sl 27 ?_); go_must (refine wpL_slice elB rfl (.tmp 26) none (some (.const (.int .i64 2))) rfl rfl 0 2 (.inl ⟨rfl, rfl⟩) (.inr ⟨.i64, rfl⟩) (by omega) (by omega) ?_); intro ad27 had27; have H27 := Lib.hid (show Bs w ad27 2 rc (R.take 2) by rw [had27.out]; exact Bs.part HRR.out 0 2 (by omega) (by omega)); simp only [PT])
              | (go_at_call 57; (with_reducible show Calls _ _ #[Value.slice ad27 _ _, _] _ _); go_must (refine (get_any ad27 2 rc _ big _ (H27.out.below (HB.out.trans (Below.mono bup HB.out.size)))).mono ?_); intro e w5 hr5; unfold RetN at hr5; rw [HCD.out] at hr5; obtain ⟨rfl, hb5⟩ := hr5; have hE__ := cU HB bup hb5; replace HB := ck HB hE__; replace HG := ck HG hE__; replace HW := ck HW hE__; clear hE__; clear hb5 H27)
              | ((with_reducible refine sl 32 ?_); go_must (refine wpL_slice elB rfl (.tmp 31) (some (.const (.int .i64 2))) (some (.const (.int .i64 4))) rfl rfl 2 4 (.inr ⟨.i64, rfl⟩) (.inr ⟨.i64, rfl⟩) (by omega) (by omega) ?_); intro ad32 had32; have H32 := Lib.hid (show Bs w ad32 2 (rc - 2) ((R.drop 2).take 2) by rw [had32.out]; exact Bs.part HRR.out 2 4 (by omega) (by omega)); simp only [PT])
              | (go_at_call 57; (with_reducible show Calls _ _ #[Value.slice ad32 _ _, _] _ _); go_must (refine (get_any ad32 2 (rc - 2) _ big _ (H32.out.below (HB.out.trans (Below.mono bup HB.out.size)))).mono ?_); intro e w6 hr6; unfold RetN at hr6; rw [HSZ.out] at hr6; obtain ⟨rfl, hb6⟩ := hr6; have hE__ := cU HB bup hb6; replace HB := ck HB hE__; replace HG := ck HG hE__; replace HW := ck HW hE__; clear hE__; clear hb6 H32)
              | ((with_reducible show wpList _ _ _ (⟨none, .store _ _ _, _, _, _, _⟩ :: _) _ _); go_must (refine wpL_storeS rfl 49 (.tmp 7) (.tmp 81) rfl w.heap.size (0, 0) rfl rfl HG.out HI.out ?_); intro w9 hg9 hgr9; have HG9 := Lib.hid hg9; have HB9 := Lib.hid (HB.out.grown hgr9 HB.out.size (fun k e => by cases e; exact Nat.le_refl _)); have HW9 := Lib.hid (HW.out.other hgr9 (by omega)); clear hg9 hgr9; simp only [PT]))
            (try simp only [Exit.inBlock, Exit.then, Exit.noGoto_ret])
            refine bodyPost_cell4 (cs := spotC (0, 0)) rfl rfl (range_block HG9.out) Try.underlying49 rfl HI.out rfl ?_
            exact ⟨ad1, n1, c1, os, by rw [HE.out]; rfl, HW9.out.base (by omega), by rw [HE.out], HB9.out⟩
          · have HE := Lib.hid ((HE1.out.trans (if_neg (by omega))).trans (if_pos hc))
            go_wp2_with (first
              | ((with_reducible refine sl 20 ?_); go_must (refine wpL_slice elB rfl (.tmp 18) (some (.tmp 19)) none rfl rfl at_ n (.inr ⟨.i64, rfl⟩) (.inl ⟨rfl, rfl⟩) (by omega) (by omega) ?_); intro adr hadr; rw [← HRN.out, ← HRC.out]; have HRR := Lib.hid (show Bs w adr rn rc R by rw [hadr.out]; exact HR0.out); simp only [PT])
              | ((with_reducible refine sl 27 ?_); go_must (refine wpL_slice elB rfl (.tmp 26) none (some (.const (.int .i64 2))) rfl rfl 0 2 (.inl ⟨rfl, rfl⟩) (.inr ⟨.i64, rfl⟩) (by omega) (by omega) ?_); intro ad27 had27; have H27 := Lib.hid (show Bs w ad27 2 rc (R.take 2) by rw [had27.out]; exact Bs.part HRR.out 0 2 (by omega) (by omega)); simp only [PT])
              | (go_at_call 57; (with_reducible show Calls _ _ #[Value.slice ad27 _ _, _] _ _); go_must (refine (get_any ad27 2 rc _ big _ (H27.out.below (HB.out.trans (Below.mono bup HB.out.size)))).mono ?_); intro e w5 hr5; unfold RetN at hr5; rw [HCD.out] at hr5; obtain ⟨rfl, hb5⟩ := hr5; have hE__ := cU HB bup hb5; replace HB := ck HB hE__; replace HG := ck HG hE__; replace HW := ck HW hE__; clear hE__; clear hb5 H27)
              | ((with_reducible refine sl 32 ?_); go_must (refine wpL_slice elB rfl (.tmp 31) (some (.const (.int .i64 2))) (some (.const (.int .i64 4))) rfl rfl 2 4 (.inr ⟨.i64, rfl⟩) (.inr ⟨.i64, rfl⟩) (by omega) (by omega) ?_); intro ad32 had32; have H32 := Lib.hid (show Bs w ad32 2 (rc - 2) ((R.drop 2).take 2) by rw [had32.out]; exact Bs.part HRR.out 2 4 (by omega) (by omega)); simp only [PT])
              | (go_at_call 57; (with_reducible show Calls _ _ #[Value.slice ad32 _ _, _] _ _); go_must (refine (get_any ad32 2 (rc - 2) _ big _ (H32.out.below (HB.out.trans (Below.mono bup HB.out.size)))).mono ?_); intro e w6 hr6; unfold RetN at hr6; rw [HSZ.out] at hr6; obtain ⟨rfl, hb6⟩ := hr6; have hE__ := cU HB bup hb6; replace HB := ck HB hE__; replace HG := ck HG hE__; replace HW := ck HW hE__; clear hE__; clear hb6 H32)
              | ((with_reducible show wpList _ _ _ (⟨none, .store _ _ _, _, _, _, _⟩ :: _) _ _); go_must (refine wpL_storeS rfl 49 (.tmp 7) (.tmp 49) rfl w.heap.size (at_, 3) rfl rfl HG.out HI.out ?_); intro w9 hg9 hgr9; have HG9 := Lib.hid hg9; have HB9 := Lib.hid (HB.out.grown hgr9 HB.out.size (fun k e => by cases e; exact Nat.le_refl _)); have HW9 := Lib.hid (HW.out.other hgr9 (by omega)); clear hg9 hgr9; simp only [PT]))
            (try simp only [Exit.inBlock, Exit.then, Exit.noGoto_ret])
            refine bodyPost_cell4 (cs := spotC (at_, 3)) rfl rfl (range_block HG9.out) Try.underlying49 rfl HI.out rfl ?_
            exact ⟨none, 0, 0, [], by rw [HE.out]; rfl, OwnOps.nil _ _ _, by rw [HE.out]; rfl, HB9.out⟩
        · by_cases h5 : (rn : Int) - 4 < (sz : Int) + (padN sz : Int)
          · have HE := Lib.hid (((HE1.out.trans (if_neg (by omega))).trans (if_neg hc)).trans (if_pos (by omega)))
            go_wp2_with (first
              | ((with_reducible refine sl 20 ?_); go_must (refine wpL_slice elB rfl (.tmp 18) (some (.tmp 19)) none rfl rfl at_ n (.inr ⟨.i64, rfl⟩) (.inl ⟨rfl, rfl⟩) (by omega) (by omega) ?_); intro adr hadr; rw [← HRN.out, ← HRC.out]; have HRR := Lib.hid (show Bs w adr rn rc R by rw [hadr.out]; exact HR0.out); simp only [PT])
              | ((with_reducible refine sl 27 ?_); go_must (refine wpL_slice elB rfl (.tmp 26) none (some (.const (.int .i64 2))) rfl rfl 0 2 (.inl ⟨rfl, rfl⟩) (.inr ⟨.i64, rfl⟩) (by omega) (by omega) ?_); intro ad27 had27; have H27 := Lib.hid (show Bs w ad27 2 rc (R.take 2) by rw [had27.out]; exact Bs.part HRR.out 0 2 (by omega) (by omega)); simp only [PT])
              | (go_at_call 57; (with_reducible show Calls _ _ #[Value.slice ad27 _ _, _] _ _); go_must (refine (get_any ad27 2 rc _ big _ (H27.out.below (HB.out.trans (Below.mono bup HB.out.size)))).mono ?_); intro e w5 hr5; unfold RetN at hr5; rw [HCD.out] at hr5; obtain ⟨rfl, hb5⟩ := hr5; have hE__ := cU HB bup hb5; replace HB := ck HB hE__; replace HG := ck HG hE__; replace HW := ck HW hE__; clear hE__; clear hb5 H27)
              | ((with_reducible refine sl 32 ?_); go_must (refine wpL_slice elB rfl (.tmp 31) (some (.const (.int .i64 2))) (some (.const (.int .i64 4))) rfl rfl 2 4 (.inr ⟨.i64, rfl⟩) (.inr ⟨.i64, rfl⟩) (by omega) (by omega) ?_); intro ad32 had32; have H32 := Lib.hid (show Bs w ad32 2 (rc - 2) ((R.drop 2).take 2) by rw [had32.out]; exact Bs.part HRR.out 2 4 (by omega) (by omega)); simp only [PT])
              | (go_at_call 57; (with_reducible show Calls _ _ #[Value.slice ad32 _ _, _] _ _); go_must (refine (get_any ad32 2 (rc - 2) _ big _ (H32.out.below (HB.out.trans (Below.mono bup HB.out.size)))).mono ?_); intro e w6 hr6; unfold RetN at hr6; rw [HSZ.out] at hr6; obtain ⟨rfl, hb6⟩ := hr6; have hE__ := cU HB bup hb6; replace HB := ck HB hE__; replace HG := ck HG hE__; replace HW := ck HW hE__; clear hE__; clear hb6 H32)
              | (go_at_call 72; go_must (refine (pad_nat sz _ (by omega)).mono ?_); rintro e w8 ⟨rfl, rfl⟩)
              | ((with_reducible show wpList _ _ _ (⟨none, .store _ _ _, _, _, _, _⟩ :: _) _ _); go_must (refine wpL_storeS rfl 49 (.tmp 7) (.tmp 60) rfl w.heap.size (at_, 2) rfl rfl HG.out HI.out ?_); intro w9 hg9 hgr9; have HG9 := Lib.hid hg9; have HB9 := Lib.hid (HB.out.grown hgr9 HB.out.size (fun k e => by cases e; exact Nat.le_refl _)); have HW9 := Lib.hid (HW.out.other hgr9 (by omega)); clear hg9 hgr9; simp only [PT]))
            (try simp only [Exit.inBlock, Exit.then, Exit.noGoto_ret])
            refine bodyPost_cell4 (cs := spotC (at_, 2)) rfl rfl (range_block HG9.out) Try.underlying49 rfl HI.out rfl ?_
            exact ⟨none, 0, 0, [], by rw [HE.out]; rfl, OwnOps.nil _ _ _, by rw [HE.out]; rfl, HB9.out⟩
          · have HE := Lib.hid (((HE1.out.trans (if_neg (by omega))).trans (if_neg hc)).trans (if_neg (by omega)))
            obtain ⟨V, hV⟩ : ∃ V, V = (R.drop 4).take sz := ⟨_, rfl⟩
            have HV := Lib.hid hV
            have HVL := Lib.hid (show V.length = sz by rw [hV, List.length_take, List.length_drop, HRL.out]; omega)
            clear hV
            go_wp2_with (first
              | ((with_reducible refine sl 20 ?_); go_must (refine wpL_slice elB rfl (.tmp 18) (some (.tmp 19)) none rfl rfl at_ n (.inr ⟨.i64, rfl⟩) (.inl ⟨rfl, rfl⟩) (by omega) (by omega) ?_); intro adr hadr; rw [← HRN.out, ← HRC.out]; have HRR := Lib.hid (show Bs w adr rn rc R by rw [hadr.out]; exact HR0.out); simp only [PT])
              | ((with_reducible refine sl 27 ?_); go_must (refine wpL_slice elB rfl (.tmp 26) none (some (.const (.int .i64 2))) rfl rfl 0 2 (.inl ⟨rfl, rfl⟩) (.inr ⟨.i64, rfl⟩) (by omega) (by omega) ?_); intro ad27 had27; have H27 := Lib.hid (show Bs w ad27 2 rc (R.take 2) by rw [had27.out]; exact Bs.part HRR.out 0 2 (by omega) (by omega)); simp only [PT])
              | (go_at_call 57; (with_reducible show Calls _ _ #[Value.slice ad27 _ _, _] _ _); go_must (refine (get_any ad27 2 rc _ big _ (H27.out.below (HB.out.trans (Below.mono bup HB.out.size)))).mono ?_); intro e w5 hr5; unfold RetN at hr5; rw [HCD.out] at hr5; obtain ⟨rfl, hb5⟩ := hr5; have hE__ := cU HB bup hb5; replace HB := ck HB hE__; replace HG := ck HG hE__; replace HW := ck HW hE__; clear hE__; clear hb5 H27)
              | ((with_reducible refine sl 32 ?_); go_must (refine wpL_slice elB rfl (.tmp 31) (some (.const (.int .i64 2))) (some (.const (.int .i64 4))) rfl rfl 2 4 (.inr ⟨.i64, rfl⟩) (.inr ⟨.i64, rfl⟩) (by omega) (by omega) ?_); intro ad32 had32; have H32 := Lib.hid (show Bs w ad32 2 (rc - 2) ((R.drop 2).take 2) by rw [had32.out]; exact Bs.part HRR.out 2 4 (by omega) (by omega)); simp only [PT])
              | (go_at_call 57; (with_reducible show Calls _ _ #[Value.slice ad32 _ _, _] _ _); go_must (refine (get_any ad32 2 (rc - 2) _ big _ (H32.out.below (HB.out.trans (Below.mono bup HB.out.size)))).mono ?_); intro e w6 hr6; unfold RetN at hr6; rw [HSZ.out] at hr6; obtain ⟨rfl, hb6⟩ := hr6; have hE__ := cU HB bup hb6; replace HB := ck HB hE__; replace HG := ck HG hE__; replace HW := ck HW hE__; clear hE__; clear hb6 H32)
              | (go_at_call 72; go_must (refine (pad_nat sz _ (by omega)).mono ?_); rintro e w8 ⟨rfl, rfl⟩)
              | ((with_reducible refine sl 66 ?_); go_must (refine wpL_slice elB rfl (.tmp 63) (some (.const (.int .i64 4))) (some (.tmp 65)) rfl rfl 4 (4 + sz) (.inr ⟨.i64, rfl⟩) (.inr ⟨.i64, rfl⟩) (by omega) (by omega) ?_); intro ad66 had66; rw [show 4 + sz - 4 = sz by omega]; have H66 := Lib.hid (show Bs w ad66 sz (rc - 4) V by rw [had66.out, HV.out]; have := Bs.part HRR.out 4 (4 + sz) (by omega) (by omega); rwa [show 4 + sz - 4 = sz by omega] at this); simp only [PT])
              | (go_at_call 68; go_must (refine (bclone_any ad66 sz (rc - 4) V _ (H66.out.below (HB.out.trans (Below.mono bup HB.out.size))) (by omega)).mono ?_); intro e w7 hr7; unfold RetB at hr7; rw [HVL.out] at hr7; obtain ⟨ad7, c7, rfl, ho7, hb7⟩ := hr7; have HNB := Lib.hid (new_apart ho7 HW.out (by have := HB.out.size; have := lt_of_block HG.out; omega)); have hE__ := cU HB bup hb7; replace HB := ck HB hE__; replace HG := ck HG hE__; replace HW := ck HW hE__; clear hE__; have H7 := Lib.hid (Bs.of_own ho7); clear ho7 hb7 H66)
              | ((with_reducible refine sl 70 ?_); go_must (refine wpL_pushO elO rfl (.tmp 61) (.tmp 69) rfl (w.heap.size + 1) rfl HW.out ⟨(cd : Int), ad7, sz, c7, V⟩ rfl rfl H7.out HNB.out (lt_of_block HG.out) (by omega) ?_); intro ad9 c9 w9 ho9 hb9; clear HW; have HW := Lib.hid ho9; have HB9 := Lib.hid (HB.out.trans (hb9.mono (by omega))); have HG9 := Lib.hid ((hb9.block w.heap.size (by omega)).trans HG.out); clear HB HG; have HB := HB9; have HG := HG9; clear HB9 HG9 ho9 hb9 H7 HNB; simp only [PT]))
            go_roundw
            case rel => exact ⟨at_ + (4 + sz + padN sz), ad9, n1 + 1, c9, os ++ [⟨(cd : Int), ad7, sz, c7, V⟩], by omega, rfl, by omega, by go_num, rfl, HW.out, HG.out, HB.out, Lib.hid (by rw [HE.out, vals_append, ← HV.out]; rfl)⟩
            case measure => simp [intOf]; omega
    · have HE := Lib.hid (HX.out.trans (rows_end big l at_ (vals os) (by omega)))
      clear hn
      go_wp2_with (first
        | ((with_reducible show wpList _ _ _ (⟨none, .store _ _ _, _, _, _, _⟩ :: _) _ _); go_must (refine wpL_storeS rfl 49 (.tmp 7) (.tmp 81) rfl w.heap.size (0, 0) rfl rfl HG.out HI.out ?_); intro w9 hg9 hgr9; have HG9 := Lib.hid hg9; have HB9 := Lib.hid (HB.out.grown hgr9 HB.out.size (fun k e => by cases e; exact Nat.le_refl _)); have HW9 := Lib.hid (HW.out.other hgr9 (by omega)); clear hg9 hgr9; simp only [PT]))
      (try simp only [Exit.inBlock, Exit.then, Exit.noGoto_ret])
      refine bodyPost_cell4 (cs := spotC (0, 0)) rfl rfl (range_block HG9.out) Try.underlying49 rfl HI.out rfl ?_
      exact ⟨ad1, n1, c1, os, by rw [HE.out]; rfl, HW9.out.base (by omega), by rw [HE.out], HB9.out⟩
end Go.Proofs.Ytmfplinbbcoahaa
/-
  Chapter 25: options read by the document, walked.
-/
namespace Go.Proofs.Ytmfplinbbcoahaa
open Go.RowKit Go.Sort
set_option linter.unusedVariables false
set_option linter.unusedSimpArgs false

set_option maxRecDepth 100000 in
set_option maxHeartbeats 2000000 in
theorem refRows_any (ad : Option Addr) (n c : Nat) (l : List UInt8) (big : Bool) (w : World) (hs : Bs w ad n c l) (hsz : n ≤ 1000000000) :
    Calls Try.prog 87 #[.slice ad n c, .bool big] w fun e w' => ∃ ad' n' c' os, e = .returned (.tuple #[.slice ad' n' c', .int .i64 ((rowsB big l).2.1 : Int), .bool (rowsB big l).2.2.1, .agg (spotC (rowsB big l).2.2.2).toArray]) ∧ OwnOps 90 w.heap.size w' ad' n' c' os ∧ vals os = (rowsB big l).1 ∧ Below w.heap.size w w' := by
  have hn := hs.len
  have hle := hs.le
  obtain ⟨X, hX⟩ : ∃ X, X = rowsB big l := ⟨_, rfl⟩
  have HX0 := Lib.hid (show X = rowsS big l.length (l.drop 0) 0 (vals []) by rw [hX, List.drop_zero]; rfl)
  rw [← hX]
  have HS := Lib.hid hs
  have HN := Lib.hid hn
  have HI : Hid ((Try.prog.info? 49).map (·.size) = some 2) := Lib.hid (by kernel_rfl)
  clear hs hn hX
  go_enter Try.func87, Try.ntmps87
  go_wp2_with fail
  go_loopw [8, 9] (fun v i wr => ∃ (at_ : Nat) (ad' : Option Addr) (n' c' : Nat) (os : List OptV), at_ ≤ n ∧ 4 * n' ≤ at_ ∧ i = .int .i64 at_ ∧ v = .slice ad' n' c' ∧ OwnOps 90 (w.heap.size + 1) wr ad' n' c' os ∧ wr.heap[w.heap.size]? = some (.cells (spotC (0, 0)).toArray 49 (0, 0)) ∧ Below w.heap.size w wr ∧ Hid (X = rowsS big l.length (l.drop at_) at_ (vals os))) (fun _ i _ => n - (intOf i).toNat)
  case atStart => exact ⟨0, none, 0, 0, [], by omega, by omega, rfl, rfl, OwnOps.nil _ _ _, heap_alloc_last w _, (Below.refl _ _).alloc (Nat.le_refl _) _, HX0⟩
  case round =>
    obtain ⟨at_, ad1, n1, c1, os, hat, hn1, rfl, rfl, how, hg, hb, HX⟩ := hrel
    have HW := Lib.hid how
    have HG := Lib.hid hg
    have HB := Lib.hid hb
    have hw1 : w.heap.size + 1 ≤ wr.heap.size := lt_of_block hg
    clear how hg hb HX0
    have hn := HN.out
    by_cases hlt : at_ < n
    · have HST := Lib.hid (HX.out.trans (rows_step big l at_ (vals os) (by omega)))
      have HR0 := Lib.hid (Bs.drop8 HS.out at_ (by omega))
      obtain ⟨R, hR⟩ : ∃ R, R = l.drop at_ := ⟨_, rfl⟩
      obtain ⟨rn, hrn⟩ : ∃ rn, rn = l.length - at_ := ⟨_, rfl⟩
      obtain ⟨rc, hrc⟩ : ∃ rc, rc = c - at_ := ⟨_, rfl⟩
      obtain ⟨cd, hcd⟩ : ∃ cd, cd = codeOf big R := ⟨_, rfl⟩
      obtain ⟨sz, hsz2⟩ : ∃ sz, sz = sizeOf2 big R := ⟨_, rfl⟩
      have hcd1 : cd ≤ 65535 := by rw [hcd]; exact codeOf_le _ _
      have hsz1 : sz ≤ 65535 := by rw [hsz2]; exact sizeOf2_le _ _
      rw [← hR, ← hcd, ← hsz2, ← hrn] at HST
      rw [← hn] at hrn
      rw [← hR, ← hrn, ← hrc] at HR0
      have hrb : rn + at_ = n := by omega
      have hrr : rn ≤ rc := by omega
      have HRN := Lib.hid hrn
      have HRC := Lib.hid hrc
      have HCD := Lib.hid (show getN (R.take 2) big = cd from hcd.symm)
      have HSZ := Lib.hid (show getN ((R.drop 2).take 2) big = sz from hsz2.symm)
      have HRL := Lib.hid (show R.length = rn by rw [hR, List.length_drop]; omega)
      have HR := Lib.hid hR
      have hp3 := padN_le sz
      have hac : at_ ≤ c := by omega
      clear hR hrn hrc hcd hsz2 hn
      by_cases h4 : (n : Int) < (at_ : Int) + 4
      · have HE := Lib.hid (HST.out.trans (if_pos (by omega)))
        go_wp2_with (first
          | ((with_reducible show wpList _ _ _ (⟨none, .store _ _ _, _, _, _, _⟩ :: _) _ _); go_must (refine wpL_storeS rfl 49 (.tmp 7) (.tmp 24) rfl w.heap.size (at_, 2) rfl rfl HG.out HI.out ?_); intro w9 hg9 hgr9; have HG9 := Lib.hid hg9; have HB9 := Lib.hid (HB.out.grown hgr9 HB.out.size (fun k e => by cases e; exact Nat.le_refl _)); have HW9 := Lib.hid (HW.out.other hgr9 (by omega)); clear hg9 hgr9; simp only [PT]))
        (try simp only [Exit.inBlock, Exit.then, Exit.noGoto_ret])
        refine bodyPost_cell4 (cs := spotC (at_, 2)) rfl rfl (range_block HG9.out) Try.underlying49 rfl HI.out rfl ?_
        exact ⟨none, 0, 0, [], by rw [HE.out]; rfl, OwnOps.nil _ _ _, by rw [HE.out]; rfl, HB9.out⟩
      · have h4n : 4 ≤ rn := by omega
        have HE1 := Lib.hid (HST.out.trans (if_neg (by omega)))
        clear HST
        by_cases hc : cd = 0
        · by_cases hz : sz = 0
          · have HE := Lib.hid (HE1.out.trans (if_pos ⟨hc, hz⟩))
            go_wp2_with (first
              | ((with_reducible refine sl 29 ?_); go_must (refine wpL_slice elB rfl (.tmp 25) (some (.tmp 26)) (some (.tmp 28)) rfl rfl at_ (at_ + 2) (.inr ⟨.i64, rfl⟩) (.inr ⟨.i64, rfl⟩) (by omega) (by omega) ?_); intro ad29 had29; rw [show at_ + 2 - at_ = 2 by omega]; have H29 := Lib.hid (show Bs w ad29 2 (c - at_) (R.take 2) by rw [had29.out, HR.out]; have := Bs.part HS.out at_ (at_ + 2) (by omega) (by omega); rwa [show at_ + 2 - at_ = 2 by omega] at this); simp only [PT])
              | (go_at_call 61; (with_reducible show Calls _ _ #[Value.slice ad29 _ _, _] _ _); go_must (refine (refGet_any ad29 2 (c - at_) _ big _ (H29.out.below (HB.out.trans (Below.mono bup HB.out.size)))).mono ?_); intro e w5 hr5; (try unfold RetN at hr5); rw [HCD.out] at hr5; obtain ⟨rfl, hb5⟩ := hr5; (first | (have hE__ := cU HB bup hb5; replace HB := ck HB hE__; replace HG := ck HG hE__; replace HW := ck HW hE__; clear hE__) | (subst hb5)); (try clear hb5); clear H29)
              | ((with_reducible refine sl 38 ?_); go_must (refine wpL_slice elB rfl (.tmp 33) (some (.tmp 35)) (some (.tmp 37)) rfl rfl (at_ + 2) (at_ + 4) (.inr ⟨.i64, rfl⟩) (.inr ⟨.i64, rfl⟩) (by omega) (by omega) ?_); intro ad38 had38; rw [show at_ + 4 - (at_ + 2) = 2 by omega]; have H38 := Lib.hid (show Bs w ad38 2 (c - (at_ + 2)) ((R.drop 2).take 2) by rw [had38.out, HR.out, List.drop_drop]; have := Bs.part HS.out (at_ + 2) (at_ + 4) (by omega) (by omega); rwa [show at_ + 4 - (at_ + 2) = 2 by omega] at this); simp only [PT])
              | (go_at_call 61; (with_reducible show Calls _ _ #[Value.slice ad38 _ _, _] _ _); go_must (refine (refGet_any ad38 2 (c - (at_ + 2)) _ big _ (H38.out.below (HB.out.trans (Below.mono bup HB.out.size)))).mono ?_); intro e w6 hr6; (try unfold RetN at hr6); rw [HSZ.out] at hr6; obtain ⟨rfl, hb6⟩ := hr6; (first | (have hE__ := cU HB bup hb6; replace HB := ck HB hE__; replace HG := ck HG hE__; replace HW := ck HW hE__; clear hE__) | (subst hb6)); (try clear hb6); clear H38)
              | ((with_reducible show wpList _ _ _ (⟨none, .store _ _ _, _, _, _, _⟩ :: _) _ _); go_must (refine wpL_storeS rfl 49 (.tmp 7) (.tmp 51) rfl w.heap.size (0, 0) rfl rfl HG.out HI.out ?_); intro w9 hg9 hgr9; have HG9 := Lib.hid hg9; have HB9 := Lib.hid (HB.out.grown hgr9 HB.out.size (fun k e => by cases e; exact Nat.le_refl _)); have HW9 := Lib.hid (HW.out.other hgr9 (by omega)); clear hg9 hgr9; simp only [PT]))
            (try simp only [Exit.inBlock, Exit.then, Exit.noGoto_ret])
            refine bodyPost_cell4 (cs := spotC (0, 0)) rfl rfl (range_block HG9.out) Try.underlying49 rfl HI.out rfl ?_
            exact ⟨ad1, n1, c1, os, by rw [HE.out]; rfl, HW9.out.base (by omega), by rw [HE.out], HB9.out⟩
          · have HE := Lib.hid ((HE1.out.trans (if_neg (by omega))).trans (if_pos hc))
            go_wp2_with (first
              | ((with_reducible refine sl 29 ?_); go_must (refine wpL_slice elB rfl (.tmp 25) (some (.tmp 26)) (some (.tmp 28)) rfl rfl at_ (at_ + 2) (.inr ⟨.i64, rfl⟩) (.inr ⟨.i64, rfl⟩) (by omega) (by omega) ?_); intro ad29 had29; rw [show at_ + 2 - at_ = 2 by omega]; have H29 := Lib.hid (show Bs w ad29 2 (c - at_) (R.take 2) by rw [had29.out, HR.out]; have := Bs.part HS.out at_ (at_ + 2) (by omega) (by omega); rwa [show at_ + 2 - at_ = 2 by omega] at this); simp only [PT])
              | (go_at_call 61; (with_reducible show Calls _ _ #[Value.slice ad29 _ _, _] _ _); go_must (refine (refGet_any ad29 2 (c - at_) _ big _ (H29.out.below (HB.out.trans (Below.mono bup HB.out.size)))).mono ?_); intro e w5 hr5; (try unfold RetN at hr5); rw [HCD.out] at hr5; obtain ⟨rfl, hb5⟩ := hr5; (first | (have hE__ := cU HB bup hb5; replace HB := ck HB hE__; replace HG := ck HG hE__; replace HW := ck HW hE__; clear hE__) | (subst hb5)); (try clear hb5); clear H29)
              | ((with_reducible refine sl 38 ?_); go_must (refine wpL_slice elB rfl (.tmp 33) (some (.tmp 35)) (some (.tmp 37)) rfl rfl (at_ + 2) (at_ + 4) (.inr ⟨.i64, rfl⟩) (.inr ⟨.i64, rfl⟩) (by omega) (by omega) ?_); intro ad38 had38; rw [show at_ + 4 - (at_ + 2) = 2 by omega]; have H38 := Lib.hid (show Bs w ad38 2 (c - (at_ + 2)) ((R.drop 2).take 2) by rw [had38.out, HR.out, List.drop_drop]; have := Bs.part HS.out (at_ + 2) (at_ + 4) (by omega) (by omega); rwa [show at_ + 4 - (at_ + 2) = 2 by omega] at this); simp only [PT])
              | (go_at_call 61; (with_reducible show Calls _ _ #[Value.slice ad38 _ _, _] _ _); go_must (refine (refGet_any ad38 2 (c - (at_ + 2)) _ big _ (H38.out.below (HB.out.trans (Below.mono bup HB.out.size)))).mono ?_); intro e w6 hr6; (try unfold RetN at hr6); rw [HSZ.out] at hr6; obtain ⟨rfl, hb6⟩ := hr6; (first | (have hE__ := cU HB bup hb6; replace HB := ck HB hE__; replace HG := ck HG hE__; replace HW := ck HW hE__; clear hE__) | (subst hb6)); (try clear hb6); clear H38)
              | ((with_reducible show wpList _ _ _ (⟨none, .store _ _ _, _, _, _, _⟩ :: _) _ _); go_must (refine wpL_storeS rfl 49 (.tmp 7) (.tmp 55) rfl w.heap.size (at_, 3) rfl rfl HG.out HI.out ?_); intro w9 hg9 hgr9; have HG9 := Lib.hid hg9; have HB9 := Lib.hid (HB.out.grown hgr9 HB.out.size (fun k e => by cases e; exact Nat.le_refl _)); have HW9 := Lib.hid (HW.out.other hgr9 (by omega)); clear hg9 hgr9; simp only [PT]))
            (try simp only [Exit.inBlock, Exit.then, Exit.noGoto_ret])
            refine bodyPost_cell4 (cs := spotC (at_, 3)) rfl rfl (range_block HG9.out) Try.underlying49 rfl HI.out rfl ?_
            exact ⟨none, 0, 0, [], by rw [HE.out]; rfl, OwnOps.nil _ _ _, by rw [HE.out]; rfl, HB9.out⟩
        · have HE2 := Lib.hid ((HE1.out.trans (if_neg (by omega))).trans (if_neg hc))
          clear HE1
          go_wp2_with (first
            | ((with_reducible refine sl 29 ?_); go_must (refine wpL_slice elB rfl (.tmp 25) (some (.tmp 26)) (some (.tmp 28)) rfl rfl at_ (at_ + 2) (.inr ⟨.i64, rfl⟩) (.inr ⟨.i64, rfl⟩) (by omega) (by omega) ?_); intro ad29 had29; rw [show at_ + 2 - at_ = 2 by omega]; have H29 := Lib.hid (show Bs w ad29 2 (c - at_) (R.take 2) by rw [had29.out, HR.out]; have := Bs.part HS.out at_ (at_ + 2) (by omega) (by omega); rwa [show at_ + 2 - at_ = 2 by omega] at this); simp only [PT])
            | (go_at_call 61; (with_reducible show Calls _ _ #[Value.slice ad29 _ _, _] _ _); go_must (refine (refGet_any ad29 2 (c - at_) _ big _ (H29.out.below (HB.out.trans (Below.mono bup HB.out.size)))).mono ?_); intro e w5 hr5; (try unfold RetN at hr5); rw [HCD.out] at hr5; obtain ⟨rfl, hb5⟩ := hr5; (first | (have hE__ := cU HB bup hb5; replace HB := ck HB hE__; replace HG := ck HG hE__; replace HW := ck HW hE__; clear hE__) | (subst hb5)); (try clear hb5); clear H29)
            | ((with_reducible refine sl 38 ?_); go_must (refine wpL_slice elB rfl (.tmp 33) (some (.tmp 35)) (some (.tmp 37)) rfl rfl (at_ + 2) (at_ + 4) (.inr ⟨.i64, rfl⟩) (.inr ⟨.i64, rfl⟩) (by omega) (by omega) ?_); intro ad38 had38; rw [show at_ + 4 - (at_ + 2) = 2 by omega]; have H38 := Lib.hid (show Bs w ad38 2 (c - (at_ + 2)) ((R.drop 2).take 2) by rw [had38.out, HR.out, List.drop_drop]; have := Bs.part HS.out (at_ + 2) (at_ + 4) (by omega) (by omega); rwa [show at_ + 4 - (at_ + 2) = 2 by omega] at this); simp only [PT])
            | (go_at_call 61; (with_reducible show Calls _ _ #[Value.slice ad38 _ _, _] _ _); go_must (refine (refGet_any ad38 2 (c - (at_ + 2)) _ big _ (H38.out.below (HB.out.trans (Below.mono bup HB.out.size)))).mono ?_); intro e w6 hr6; (try unfold RetN at hr6); rw [HSZ.out] at hr6; obtain ⟨rfl, hb6⟩ := hr6; (first | (have hE__ := cU HB bup hb6; replace HB := ck HB hE__; replace HG := ck HG hE__; replace HW := ck HW hE__; clear hE__) | (subst hb6)); (try clear hb6); clear H38))
          go_loop [12] (fun v => ∃ (j m : Nat), j ≤ padN sz ∧ v = .int .i64 m ∧ Hid (m = sz + j)) (fun v => sz + padN sz - (intOf v).toNat)
          case atStart => exact ⟨0, sz, by omega, rfl, Lib.hid rfl⟩
          case round =>
            obtain ⟨j, m, hj, rfl, HM⟩ := hrel
            have hmb : m ≤ 65538 := by have := HM.out; omega
            by_cases h6 : (m : Int) % 4 = 0
            · have hj2 : j = padN sz := padN_end sz j (by have := HM.out; omega) hj
              have hm2 : m = sz + padN sz := by rw [HM.out, hj2]
              have HM2 := Lib.hid hm2
              clear HM hj2 hm2
              by_cases h5 : (n : Int) < (at_ : Int) + 4 + (m : Int)
              · have HE := Lib.hid (HE2.out.trans (if_pos (by have := HM2.out; omega)))
                go_wp2_with (first
                  | ((with_reducible show wpList _ _ _ (⟨none, .store _ _ _, _, _, _, _⟩ :: _) _ _); go_must (refine wpL_storeS rfl 49 (.tmp 7) (.tmp 70) rfl w.heap.size (at_, 2) rfl rfl HG.out HI.out ?_); intro w9 hg9 hgr9; have HG9 := Lib.hid hg9; have HB9 := Lib.hid (HB.out.grown hgr9 HB.out.size (fun k e => by cases e; exact Nat.le_refl _)); have HW9 := Lib.hid (HW.out.other hgr9 (by omega)); clear hg9 hgr9; simp only [PT]))
                (try simp only [Exit.inBlock, Exit.then, Exit.noGoto_ret])
                refine bodyPost_cell4 (cs := spotC (at_, 2)) rfl rfl (range_block HG9.out) Try.underlying49 rfl HI.out rfl ?_
                exact ⟨none, 0, 0, by rw [HE.out]; rfl, [], OwnOps.nil _ _ _, by rw [HE.out]; rfl, HB9.out⟩
              · have HE := Lib.hid (HE2.out.trans (if_neg (by have := HM2.out; omega)))
                have hszc : at_ + 4 + sz ≤ n := by have := HM2.out; omega
                obtain ⟨V, hV⟩ : ∃ V, V = (R.drop 4).take sz := ⟨_, rfl⟩
                have HV := Lib.hid hV
                clear hV
                go_wp2_with (first
                  | ((with_reducible refine sl 79 ?_); go_must (refine wpL_slice elB rfl (.tmp 72) (some (.tmp 74)) (some (.tmp 78)) rfl rfl (at_ + 4) (at_ + 4 + sz) (.inr ⟨.i64, rfl⟩) (.inr ⟨.i64, rfl⟩) (by omega) (by omega) ?_); intro ad79 had79; rw [show at_ + 4 + sz - (at_ + 4) = sz by omega]; have H79 := Lib.hid (show Bs w ad79 sz (c - (at_ + 4)) V by rw [had79.out, HV.out, HR.out, List.drop_drop]; have := Bs.part HS.out (at_ + 4) (at_ + 4 + sz) (by omega) (by omega); rwa [show at_ + 4 + sz - (at_ + 4) = sz by omega] at this); simp only [PT])
                  | ((with_reducible refine sl 80 ?_); go_must (refine wpL_appB (l := []) elB rfl (.tmp 71) (.tmp 79) rfl wr.heap.size rfl (World.ownsRow_nil _ _ _ _) rfl (H79.out.below HB.out) (by omega) (Nat.le_refl _) ?_); intro ad7 c7 w7 ho7 hb7; rw [List.nil_append] at ho7; simp only [Nat.zero_add] at ho7; have HNB := Lib.hid (new_apart ho7 HW.out (by have := lt_of_block HG.out; omega)); have hE__ := cU HB bup hb7; replace HB := ck HB hE__; replace HG := ck HG hE__; replace HW := ck HW hE__; clear hE__; have H7 := Lib.hid (Bs.of_own ho7); clear ho7 hb7 H79; simp only [Nat.zero_add, Act.put, List.setIfInBounds_toArray, List.set_cons_zero, List.set_cons_succ])
                  | ((with_reducible refine sl 86 ?_); go_must (refine wpL_pushO elO rfl (.tmp 81) (.tmp 85) rfl (w.heap.size + 1) rfl HW.out ⟨(cd : Int), ad7, sz, c7, V⟩ rfl rfl H7.out HNB.out (lt_of_block HG.out) (by omega) ?_); intro ad9 c9 w9 ho9 hb9; clear HW; have HW := Lib.hid ho9; have HB9 := Lib.hid (HB.out.trans (hb9.mono (by omega))); have HG9 := Lib.hid ((hb9.block w.heap.size (by omega)).trans HG.out); clear HB HG; have HB := HB9; have HG := HG9; clear HB9 HG9 ho9 hb9 H7 HNB; simp only [PT]))
                go_roundw
                case rel => exact ⟨at_ + (4 + sz + padN sz), ad9, n1 + 1, c9, os ++ [⟨(cd : Int), ad7, sz, c7, V⟩], by have := HM2.out; omega, by omega, by have := HM2.out; go_num, rfl, HW.out, HG.out, HB.out, Lib.hid (by rw [HE.out, vals_append, ← HV.out]; rfl)⟩
                case measure => simp [intOf]; omega
            · have hj2 : j < padN sz := padN_more sz j (by have := HM.out; omega) hj
              go_wp2_with fail
              go_round
              case rel => exact ⟨j + 1, m + 1, by omega, by go_num, Lib.hid (by rw [HM.out]; omega)⟩
              case measure => simp [intOf]; have := HM.out; omega
    · have HE := Lib.hid (HX.out.trans (rows_end big l at_ (vals os) (by omega)))
      clear hn
      go_wp2_with (first
        | ((with_reducible show wpList _ _ _ (⟨none, .store _ _ _, _, _, _, _⟩ :: _) _ _); go_must (refine wpL_storeS rfl 49 (.tmp 7) (.tmp 93) rfl w.heap.size (0, 0) rfl rfl HG.out HI.out ?_); intro w9 hg9 hgr9; have HG9 := Lib.hid hg9; have HB9 := Lib.hid (HB.out.grown hgr9 HB.out.size (fun k e => by cases e; exact Nat.le_refl _)); have HW9 := Lib.hid (HW.out.other hgr9 (by omega)); clear hg9 hgr9; simp only [PT]))
      (try simp only [Exit.inBlock, Exit.then, Exit.noGoto_ret])
      refine bodyPost_cell4 (cs := spotC (0, 0)) rfl rfl (range_block HG9.out) Try.underlying49 rfl HI.out rfl ?_
      exact ⟨ad1, n1, c1, os, by rw [HE.out]; rfl, HW9.out.base (by omega), by rw [HE.out], HB9.out⟩
end Go.Proofs.Ytmfplinbbcoahaa
/-
  Chapter 25: spots compared; what Read, Rows answer, walked.
-/
namespace Go.Proofs.Ytmfplinbbcoahaa
open Go.RowKit Go.Sort
set_option linter.unusedVariables false
set_option linter.unusedSimpArgs false

theorem equal_spot (p q : Nat × Int) (w : World) : (Go.Op.equalIn 10000 49 (.agg (spotC p).toArray) (.agg (spotC q).toArray)).run Try.prog w = .ok (decide (p = q)) w := by
  obtain ⟨a, b⟩ := p
  obtain ⟨c, d⟩ := q
  rw [run_equalIn_agg (P := Try.prog) w 9999 49 _ _ (by kernel_rfl) (by kernel_rfl), show (Try.prog.fieldsOf 49).toList = _ from by rw [Program.fieldsOf, Try.underlying49]]
  simp [Op.eqFields, spotC, go_sem, part, isAgg, run_underlying Try.underlying3, run_underlying Try.underlying31, Try.underlying3, Try.underlying31]
  have e : ((a : Int) = (c : Int)) ↔ a = c := by omega
  by_cases h1 : a = c <;> by_cases h2 : b = d <;> simp [h1, h2, e]
theorem wpL_eqS {ops : Array Oper} {rest : List Oper} {o : Oper} {a : Act} {w : World} {Q : Exit → Act → World → Prop} (p q : Nat × Int) (b : Bool) (hb : b = decide (p = q)) (hgd : Region.wanted o (yielded ops a.tmps) = true) (x y : Operand) (ho : o.op = .binOp .eql 49 x y 49)
    (hx : a.eval x = .agg (spotC p).toArray) (hy : a.eval y = .agg (spotC q).toArray) (h : wpList Try.prog ops Q rest (a.put o.dst (.bool b)) w) : wpList Try.prog ops Q (o :: rest) a w := by
  subst hb
  refine wpL_run hgd (v := .bool (decide (p = q))) (w' := w) ?_ h
  have hgd := run_eqGuard_agg (P := Try.prog) w .eql 49 x y (spotC p).toArray (spotC q).toArray (by kernel_rfl)
  have hes := run_eql_struct (P := Try.prog) w 49 (spotC p).toArray (spotC q).toArray
  rw [equal_spot] at hes
  simp only [execOp, ho, hx, hy, Sem.run_bind, hgd, hes, Result.andThen_ok, Sem.run_pure]
theorem wpL_neS {ops : Array Oper} {rest : List Oper} {o : Oper} {a : Act} {w : World} {Q : Exit → Act → World → Prop} (p q : Nat × Int) (b : Bool) (hb : b = !decide (p = q)) (hgd : Region.wanted o (yielded ops a.tmps) = true) (x y : Operand) (ho : o.op = .binOp .neq 49 x y 49)
    (hx : a.eval x = .agg (spotC p).toArray) (hy : a.eval y = .agg (spotC q).toArray) (h : wpList Try.prog ops Q rest (a.put o.dst (.bool b)) w) : wpList Try.prog ops Q (o :: rest) a w := by
  subst hb
  refine wpL_run hgd (v := .bool (!decide (p = q))) (w' := w) ?_ h
  have hgd := run_eqGuard_agg (P := Try.prog) w .neq 49 x y (spotC p).toArray (spotC q).toArray (by kernel_rfl)
  have hes := run_neq_struct (P := Try.prog) w 49 (spotC p).toArray (spotC q).toArray
  rw [equal_spot] at hes
  simp only [execOp, ho, hx, hy, Sem.run_bind, hgd, hes, Result.andThen_ok, Sem.run_pure]
end Go.Proofs.Ytmfplinbbcoahaa
/-
  Chapter 25: Read, Rows, walked.
-/
namespace Go.Proofs.Ytmfplinbbcoahaa
open Go.RowKit Go.Sort
set_option linter.unusedVariables false
set_option linter.unusedSimpArgs false

theorem step_storeS {P : Program} {ops : Array Oper} {o : Oper} {a : Act} {w : World} {K : Act → World → Prop} {Q : Exit → Act → World → Prop} {E : Prop} (hgd : Region.wanted o (yielded ops a.tmps) = true) (ty : TypeId) (x y : Operand) (ho : o.op = .store ty x y)
    (g : Nat) (p : Nat × Int) (hx : a.eval x = .pointer (some ⟨g, 0, none⟩)) (hy : a.eval y = .agg (spotC p).toArray) {T : TypeId} {q : Nat × Int} (hg : w.heap[g]? = some (.cells (spotC q).toArray T (0, 0))) (hi : (P.info? ty).map (·.size) = some 2)
    (h : ∀ w1, w1.heap[g]? = some (.cells (spotC p).toArray T (0, 0)) → w.grownBy w1 (some g) → K (a.put o.dst undef) w1) : if Region.wanted o (yielded ops a.tmps) = true then Oper.wp P o a w K Q else E := by
  rw [if_pos hgd]
  refine wp_store_row ty x y ho g (spotC p).toArray hx hy T _ hg hi rfl ?_ (h _ (setRow_heap w g _ _ T _ hg) ⟨rfl, rfl, rfl, by simp [World.setRow], fun k _ hk => setRow_other w g k _ (fun e => hk (by rw [e]))⟩)
  simp only [spotC, List.all_toArray, List.all_cons, List.all_nil, Bool.and_true, Bool.and_eq_true]
  exact ⟨rfl, rfl⟩

set_option maxRecDepth 100000 in
set_option maxHeartbeats 2000000 in
theorem read_any (ad : Option Addr) (n c : Nat) (l : List UInt8) (big : Bool) (w : World) (hs : Bs w ad n c l) (hsz : n ≤ 1000000000) :
    Calls Try.prog 60 #[.slice ad n c, .bool big] w fun e w' => ∃ ad' n' c' os, e = .returned (.tuple #[.slice ad' n' c', .agg (spotC (readO big l).2).toArray]) ∧ OwnOps 90 w.heap.size w' ad' n' c' os ∧ vals os = (readO big l).1 ∧ Below w.heap.size w w' := by
  have hn := hs.len
  obtain ⟨Y, hY⟩ : ∃ Y, Y = readO big l := ⟨_, rfl⟩
  obtain ⟨X, hX⟩ : ∃ X, X = rowsB big l := ⟨_, rfl⟩
  have hY2 : Y = readR n X := by rw [hY, hX, hn]; rfl
  rw [← hY]
  obtain ⟨xl, xn, xe, xs⟩ := X
  have HX := Lib.hid hX.symm
  have HS := Lib.hid hs
  have HN := Lib.hid hn
  have HI : Hid ((Try.prog.info? 49).map (·.size) = some 2) := Lib.hid (by kernel_rfl)
  have HY : Hid (Y = if xs = (0, 0) then (if xn < n then ([], (xn, 3)) else (xl, (0, 0))) else ([], xs)) := Lib.hid hY2
  clear hs hn hX hY hY2
  by_cases hz : xs = (0, 0)
  · by_cases hlt : xn < n
    · have HE := Lib.hid ((HY.out.trans (if_pos hz)).trans (if_pos hlt))
      subst hz
      clear HY
      go_enter Try.func60, Try.ntmps60
      go_wp2_with (first
        | (go_at_call 84; go_must (refine (rows_any ad n c l big _ (HS.out.below bup) hsz).mono ?_); intro e w5 hr5; rw [HX.out] at hr5; obtain ⟨ad5, n5, c5, os, rfl, how, hvs, hb5⟩ := hr5; have HW := Lib.hid (how.base (base' := w.heap.size + 1) (by simp)); have HV := Lib.hid hvs; have HG := Lib.hid ((hb5.block w.heap.size (by simp)).trans (heap_alloc_last w (.cells (spotC (0, 0)).toArray 49))); have HB := Lib.hid (show Below w.heap.size w w5 from Below.trans bup (hb5.mono (by simp))); have HGF := Lib.hid (lt_of_block HG.out); clear how hvs hb5)
        | ((with_reducible show wpList _ _ _ (⟨none, .store _ _ (.tmp 17), _, _, _, _⟩ :: _) _ _); go_must (refine wpL_storeS (T := 49) (q := (0, 0)) rfl 49 (.tmp 9) (.tmp 17) rfl w5.heap.size (0, 0) rfl rfl (heap_alloc_last w5 _) HI.out ?_); intro w6 hg6 hgr6; have hb6 : Below w5.heap.size w5 w6 := ((Below.refl w5.heap.size w5).alloc (Nat.le_refl _) _).grown hgr6 (by simp) (fun k e => by cases e; exact Nat.le_refl _); have HF := Lib.hid hg6; replace HW := ckk HW bup hb6; replace HG := ckk HG bup hb6; replace HB := ckk HB bup hb6; clear hg6 hgr6 hb6; simp only [PT])
        | ((with_reducible refine sl 18 ?_); go_must (refine wpL_load rfl 49 (.tmp 9) rfl w5.heap.size 0 rfl (spotC (0, 0)) _ (range_block HF.out) Try.underlying49 rfl HI.out ?_); simp only [PT])
        | ((with_reducible refine sl 20 ?_); go_must (refine wpL_eqS (0, 0) (0, 0) true (by rfl) rfl (.tmp 18) (.tmp 19) rfl rfl rfl ?_); simp only [PT])
        | ((with_reducible show wpList _ _ _ (⟨none, .store _ _ (.tmp 28), _, _, _, _⟩ :: _) _ _); go_must (refine wpL_storeS (T := 49) (q := (0, 0)) rfl 49 (.tmp 9) (.tmp 28) rfl w5.heap.size (xn, 3) rfl rfl HF.out HI.out ?_); intro w7 hg7 hgr7; have HG7 := Lib.hid ((hgr7.block w.heap.size (lt_of_block HG.out) (by have := HGF.out; intro e; injection e with e; omega)).trans HG.out); have HB7 := Lib.hid (HB.out.grown hgr7 HB.out.size (fun k e => by have := HGF.out; cases e; omega)); clear HF HG HB HW; have HF := Lib.hid hg7; have HG := HG7; have HB := HB7; clear HG7 HB7 hg7 hgr7; simp only [PT])
        | ((with_reducible refine sl 29 ?_); go_must (refine wpL_load rfl 49 (.tmp 9) rfl w5.heap.size 0 rfl (spotC (xn, 3)) _ (range_block HF.out) Try.underlying49 rfl HI.out ?_); simp only [PT])
        | ((with_reducible refine sl 31 ?_); go_must (refine wpL_neS (xn, 3) (0, 0) true (by simp) rfl (.tmp 29) (.tmp 30) rfl rfl rfl ?_); simp only [PT]))
      refine wp_region_held_drew (S := fun v => v.rangeAt w5.heap.size 0 (spotC (xn, 3))) (by kernel_rfl) ?_ (fun hHeld => ?_)
      focus (first | exact range_block HF8.out | exact range_block HF.out)
      refine' tk 0 (oi := ⟨some 32, _, _, _, _, _⟩) (v := _) rfl (by kernel_rfl) (yieldsIf_load_mid (by rfl) _ _ rfl _ _ rfl (spotC (xn, 3)) _ (fun v hv => hv) (Try.underlying49) rfl (HI.out)) hHeld ?_
      simp only [PT]
      refine tk 1 (oi := ⟨some 4, _, _, _, _, _⟩) (v := ?_) rfl (by kernel_rfl) (.inl ⟨by rfl, ?_⟩) hHeld ?_; rotate_left; focus (intro w hSw; (try dsimp only at hSw); go_simp; try with_reducible rfl)
      simp only [PT]
      refine wpAnyH_ready (rs := [2]) (by kernel_rfl) (by simp) ?_
      refine (AllReadyH.cons (o := ⟨none, _, _, _, _, _⟩) rfl (fun K hK => ?_) AllReadyH.nil)
      (go_must (refine step_storeS (T := 49) (q := (0, 0)) rfl 49 (.tmp 5) (.tmp 32) rfl w.heap.size (xn, 3) rfl rfl HG.out HI.out ?_); intro w8 hg8 hgr8; have HG8 := Lib.hid hg8; have HF8 := Lib.hid ((hgr8.block w5.heap.size (lt_of_block HF.out) (by have := HGF.out; intro e; injection e with e; omega)).trans HF.out); have HB8 := Lib.hid ((show Below w.heap.size w _ from Below.trans HB.out (Below.drew (Below.refl _ _))).grown hgr8 HB.out.size (fun k e => by cases e; exact Nat.le_refl _)); clear hg8 hgr8)
      refine hK.out _ _ ?_ (fun hHeld => ?_)
      focus (first | exact range_block HF8.out | exact range_block HF.out)
      clear hK K
      try simp only [PT]
      refine wpAnyH_done (by kernel_rfl) ?_ _
      all_goals
        go_wp2_with fail
        (try simp only [Exit.inBlock, Exit.then, Exit.noGoto_ret])
        refine bodyPost_cell2 (cs := spotC (xn, 3)) rfl rfl (range_block HG8.out) Try.underlying49 rfl HI.out rfl ?_
        exact ⟨none, 0, 0, [], by rw [HE.out]; rfl, OwnOps.nil _ _ _, by rw [HE.out]; rfl, HB8.out⟩
    · have HE := Lib.hid ((HY.out.trans (if_pos hz)).trans (if_neg hlt))
      subst hz
      clear HY
      go_enter Try.func60, Try.ntmps60
      go_wp2_with (first
        | (go_at_call 84; go_must (refine (rows_any ad n c l big _ (HS.out.below bup) hsz).mono ?_); intro e w5 hr5; rw [HX.out] at hr5; obtain ⟨ad5, n5, c5, os, rfl, how, hvs, hb5⟩ := hr5; have HW := Lib.hid (how.base (base' := w.heap.size + 1) (by simp)); have HV := Lib.hid hvs; have HG := Lib.hid ((hb5.block w.heap.size (by simp)).trans (heap_alloc_last w (.cells (spotC (0, 0)).toArray 49))); have HB := Lib.hid (show Below w.heap.size w w5 from Below.trans bup (hb5.mono (by simp))); have HGF := Lib.hid (lt_of_block HG.out); clear how hvs hb5)
        | ((with_reducible show wpList _ _ _ (⟨none, .store _ _ (.tmp 17), _, _, _, _⟩ :: _) _ _); go_must (refine wpL_storeS (T := 49) (q := (0, 0)) rfl 49 (.tmp 9) (.tmp 17) rfl w5.heap.size (0, 0) rfl rfl (heap_alloc_last w5 _) HI.out ?_); intro w6 hg6 hgr6; have hb6 : Below w5.heap.size w5 w6 := ((Below.refl w5.heap.size w5).alloc (Nat.le_refl _) _).grown hgr6 (by simp) (fun k e => by cases e; exact Nat.le_refl _); have HF := Lib.hid hg6; replace HW := ckk HW bup hb6; replace HG := ckk HG bup hb6; replace HB := ckk HB bup hb6; clear hg6 hgr6 hb6; simp only [PT])
        | ((with_reducible refine sl 18 ?_); go_must (refine wpL_load rfl 49 (.tmp 9) rfl w5.heap.size 0 rfl (spotC (0, 0)) _ (range_block HF.out) Try.underlying49 rfl HI.out ?_); simp only [PT])
        | ((with_reducible refine sl 20 ?_); go_must (refine wpL_eqS (0, 0) (0, 0) true (by rfl) rfl (.tmp 18) (.tmp 19) rfl rfl rfl ?_); simp only [PT])
        | ((with_reducible refine sl 29 ?_); go_must (refine wpL_load rfl 49 (.tmp 9) rfl w5.heap.size 0 rfl (spotC (0, 0)) _ (range_block HF.out) Try.underlying49 rfl HI.out ?_); simp only [PT])
        | ((with_reducible refine sl 31 ?_); go_must (refine wpL_neS (0, 0) (0, 0) false (by rfl) rfl (.tmp 29) (.tmp 30) rfl rfl rfl ?_); simp only [PT]))
      refine wp_region_held_drew (S := fun v => v.rangeAt w5.heap.size 0 (spotC (0, 0))) (by kernel_rfl) ?_ (fun hHeld => ?_)
      focus (first | exact range_block HF8.out | exact range_block HF.out)
      refine tk 0 (oi := ⟨some 33, _, _, _, _, _⟩) (v := ?_) rfl (by kernel_rfl) (.inl ⟨by rfl, ?_⟩) hHeld ?_; rotate_left; focus (intro w hSw; (try dsimp only at hSw); go_simp; try with_reducible rfl)
      simp only [PT]
      refine' tk 1 (oi := ⟨some 34, _, _, _, _, _⟩) (v := _) rfl (by kernel_rfl) (yieldsIf_load_mid (by rfl) _ _ rfl _ _ rfl (spotC (0, 0)) _ (fun v hv => hv) (Try.underlying49) rfl (HI.out)) hHeld ?_
      simp only [PT]
      refine tk 2 (oi := ⟨some 4, _, _, _, _, _⟩) (v := ?_) rfl (by kernel_rfl) (.inl ⟨by rfl, ?_⟩) hHeld ?_; rotate_left; focus (intro w hSw; (try dsimp only at hSw); go_simp; try with_reducible rfl)
      simp only [PT]
      refine wpAnyH_ready (rs := [3]) (by kernel_rfl) (by simp) ?_
      refine (AllReadyH.cons (o := ⟨none, _, _, _, _, _⟩) rfl (fun K hK => ?_) AllReadyH.nil)
      (go_must (refine step_storeS (T := 49) (q := (0, 0)) rfl 49 (.tmp 5) (.tmp 34) rfl w.heap.size (0, 0) rfl rfl HG.out HI.out ?_); intro w8 hg8 hgr8; have HG8 := Lib.hid hg8; have HF8 := Lib.hid ((hgr8.block w5.heap.size (lt_of_block HF.out) (by have := HGF.out; intro e; injection e with e; omega)).trans HF.out); have HB8 := Lib.hid ((show Below w.heap.size w _ from Below.trans HB.out (Below.drew (Below.refl _ _))).grown hgr8 HB.out.size (fun k e => by cases e; exact Nat.le_refl _)); have HW8 := Lib.hid ((show OwnOps _ _ _ _ _ _ _ from HW.out.keep (Below.drew (Below.refl _ _))).other hgr8 (by omega)); clear hg8 hgr8)
      refine hK.out _ _ ?_ (fun hHeld => ?_)
      focus (first | exact range_block HF8.out | exact range_block HF.out)
      clear hK K
      try simp only [PT]
      refine wpAnyH_done (by kernel_rfl) ?_ _
      all_goals
        go_wp2_with fail
        (try simp only [Exit.inBlock, Exit.then, Exit.noGoto_ret])
        refine bodyPost_cell2 (cs := spotC (0, 0)) rfl rfl (range_block HG8.out) Try.underlying49 rfl HI.out rfl ?_
        exact ⟨ad5, n5, c5, os, by rw [HE.out]; rfl, HW8.out.base (by omega), by rw [HE.out]; exact HV.out, HB8.out⟩
  · have HE := Lib.hid (HY.out.trans (if_neg hz))
    have HZ1 := Lib.hid (show false = decide (xs = (0, 0)) by simp [hz])
    have HZ2 := Lib.hid (show true = !decide (xs = (0, 0)) by simp [hz])
    clear HY hz
    go_enter Try.func60, Try.ntmps60
    go_wp2_with (first
      | (go_at_call 84; go_must (refine (rows_any ad n c l big _ (HS.out.below bup) hsz).mono ?_); intro e w5 hr5; rw [HX.out] at hr5; obtain ⟨ad5, n5, c5, os, rfl, how, hvs, hb5⟩ := hr5; have HW := Lib.hid (how.base (base' := w.heap.size + 1) (by simp)); have HV := Lib.hid hvs; have HG := Lib.hid ((hb5.block w.heap.size (by simp)).trans (heap_alloc_last w (.cells (spotC (0, 0)).toArray 49))); have HB := Lib.hid (show Below w.heap.size w w5 from Below.trans bup (hb5.mono (by simp))); have HGF := Lib.hid (lt_of_block HG.out); clear how hvs hb5)
      | ((with_reducible show wpList _ _ _ (⟨none, .store _ _ (.tmp 17), _, _, _, _⟩ :: _) _ _); go_must (refine wpL_storeS (T := 49) (q := (0, 0)) rfl 49 (.tmp 9) (.tmp 17) rfl w5.heap.size xs rfl rfl (heap_alloc_last w5 _) HI.out ?_); intro w6 hg6 hgr6; have hb6 : Below w5.heap.size w5 w6 := ((Below.refl w5.heap.size w5).alloc (Nat.le_refl _) _).grown hgr6 (by simp) (fun k e => by cases e; exact Nat.le_refl _); have HF := Lib.hid hg6; replace HW := ckk HW bup hb6; replace HG := ckk HG bup hb6; replace HB := ckk HB bup hb6; clear hg6 hgr6 hb6; simp only [PT])
      | ((with_reducible refine sl 18 ?_); go_must (refine wpL_load rfl 49 (.tmp 9) rfl w5.heap.size 0 rfl (spotC xs) _ (range_block HF.out) Try.underlying49 rfl HI.out ?_); simp only [PT])
      | ((with_reducible refine sl 20 ?_); go_must (refine wpL_eqS xs (0, 0) false (HZ1.out) rfl (.tmp 18) (.tmp 19) rfl rfl rfl ?_); simp only [PT])
      | ((with_reducible refine sl 29 ?_); go_must (refine wpL_load rfl 49 (.tmp 9) rfl w5.heap.size 0 rfl (spotC xs) _ (range_block HF.out) Try.underlying49 rfl HI.out ?_); simp only [PT])
      | ((with_reducible refine sl 31 ?_); go_must (refine wpL_neS xs (0, 0) true (HZ2.out) rfl (.tmp 29) (.tmp 30) rfl rfl rfl ?_); simp only [PT]))
    refine wp_region_held_drew (S := fun v => v.rangeAt w5.heap.size 0 (spotC xs)) (by kernel_rfl) ?_ (fun hHeld => ?_)
    focus (first | exact range_block HF8.out | exact range_block HF.out)
    refine' tk 0 (oi := ⟨some 32, _, _, _, _, _⟩) (v := _) rfl (by kernel_rfl) (yieldsIf_load_mid (by rfl) _ _ rfl _ _ rfl (spotC xs) _ (fun v hv => hv) (Try.underlying49) rfl (HI.out)) hHeld ?_
    simp only [PT]
    refine tk 1 (oi := ⟨some 4, _, _, _, _, _⟩) (v := ?_) rfl (by kernel_rfl) (.inl ⟨by rfl, ?_⟩) hHeld ?_; rotate_left; focus (intro w hSw; (try dsimp only at hSw); go_simp; try with_reducible rfl)
    simp only [PT]
    refine wpAnyH_ready (rs := [2]) (by kernel_rfl) (by simp) ?_
    refine (AllReadyH.cons (o := ⟨none, _, _, _, _, _⟩) rfl (fun K hK => ?_) AllReadyH.nil)
    (go_must (refine step_storeS (T := 49) (q := (0, 0)) rfl 49 (.tmp 5) (.tmp 32) rfl w.heap.size xs rfl rfl HG.out HI.out ?_); intro w8 hg8 hgr8; have HG8 := Lib.hid hg8; have HF8 := Lib.hid ((hgr8.block w5.heap.size (lt_of_block HF.out) (by have := HGF.out; intro e; injection e with e; omega)).trans HF.out); have HB8 := Lib.hid ((show Below w.heap.size w _ from Below.trans HB.out (Below.drew (Below.refl _ _))).grown hgr8 HB.out.size (fun k e => by cases e; exact Nat.le_refl _)); clear hg8 hgr8)
    refine hK.out _ _ ?_ (fun hHeld => ?_)
    focus (first | exact range_block HF8.out | exact range_block HF.out)
    clear hK K
    try simp only [PT]
    refine wpAnyH_done (by kernel_rfl) ?_ _
    all_goals
      go_wp2_with fail
      (try simp only [Exit.inBlock, Exit.then, Exit.noGoto_ret])
      refine bodyPost_cell2 (cs := spotC xs) rfl rfl (range_block HG8.out) Try.underlying49 rfl HI.out rfl ?_
      exact ⟨none, 0, 0, [], by rw [HE.out]; rfl, OwnOps.nil _ _ _, by rw [HE.out]; rfl, HB8.out⟩
end Go.Proofs.Ytmfplinbbcoahaa
