/-
  Joined by program (merge.py): LawC.
-/
import Derived.Test.YtmfplinbbcoahaaM18
/-
  Chapter 26: the law BlockCuts, walked.
-/
namespace Go.Proofs.Ytmfplinbbcoahaa
open Go.RowKit Go.Sort
set_option linter.unusedVariables false
set_option linter.unusedSimpArgs false

theorem turn_at (x : PB) (h : mayP x = true) (hw : wfB x) (hs : sizeB x ≤ 1048576) (big : Bool) (j i : Nat) (hj : j < 4) (c : UInt8) (hc : c ≠ 0) (L : List UInt8) (hL : L = bytesB big x) (hi : i = sizeB x - 1 - j) : getP big (L.set i ((at8 L i) ^^^ c)) = (noneB, 0, 3) := by
  subst hL
  subst hi
  have h12 := sizeB_ge x
  refine get_turn x h hw hs big j hj _ ?_
  rw [List.getElem?_eq_getElem (by rw [bytesB_length]; omega), ← at8_get _ _ (by rw [bytesB_length]; omega)]
  intro e
  exact xor_ne _ _ hc (Option.some.inj e).symm

set_option maxRecDepth 100000 in
set_option maxHeartbeats 16000000 in
theorem cuts26_walk (v : BlkV) (big : Bool) (a2 a3 : Int) (w : World) (hv : Blk w v) (wv : wfB v.val) (h2 : 0 ≤ a2 ∧ a2 ≤ 65535) (h3 : 0 ≤ a3 ∧ a3 ≤ 255) :
    Calls Try.prog 8 #[.agg v.cells.toArray, .bool big, .int .u16 a2, .int .u8 a3] w fun e w' => e = .returned (.bool true) ∧ Below w.heap.size w w' := by
  have HB := Lib.hid (Below.refl w.heap.size w)
  have HBI := Lib.hid blk_info
  have HZI := Lib.hid zero_info
  have HV := Lib.hid hv
  obtain ⟨h20, h21⟩ := h2
  obtain ⟨h30, h31⟩ := h3
  cases hf1 : fewB v
  · have HF1 := Lib.hid hf1
    clear hf1 hv
    go_enter Try.func8, Try.ntmps8
    go_wp2_with (first
      | ((with_reducible refine sl 4 ?_); go_must (refine wpL_boxG rfl 27 (.tmp 0) rfl v.cells.toArray rfl ?_); intro wb4 g4 he__ le_g4 lt_g4 hg__ hb__; have HG4 := Lib.hid hg__; have hE__ := cU HB bup hb__; replace HB := ck HB hE__; replace HV := ck HV hE__; clear hE__; clear hg__ hb__ he__; simp only [PT])
      | (go_at_call 17; go_must (refine (blkAwake_any _).mono ?_); intro e wc1 hr; obtain ⟨rfl, hb__⟩ := hr; have hE__ := cU HB bup hb__; replace HB := ck HB hE__; replace HV := ck HV hE__; replace HG4 := ck HG4 hE__; clear hE__; clear hb__)
      | ((with_reducible refine sl 20 ?_); go_must (refine wpL_load rfl 27 (.tmp 4) rfl g4 0 rfl (v.cells) _ (range_block HG4.out) Try.underlying27 rfl HBI.out ?_); simp only [PT])
      | (go_at_call 18; (with_reducible show Calls _ _ #[Value.agg v.cells.toArray] _ _); go_must (refine (few_at _ v HF1.out _ (HV.out.below bup)).mono ?_); intro e wc2 hr; obtain ⟨rfl, hb__⟩ := hr; have hE__ := cU HB bup hb__; replace HB := ck HB hE__; replace HV := ck HV hE__; replace HG4 := ck HG4 hE__; clear hE__; clear hb__))
    go_ret
    exact ⟨rfl, HB.out⟩
  have HF1 := Lib.hid hf1
  have HS1 := Lib.hid (SmB.of_few hf1)
  have HW1 := Lib.hid wv
  cases hr : rightP v.val
  · have HR := Lib.hid hr
    by_cases hm : mayP v.val = true
    · have HY : Hid (whyP v.val = 4) := Lib.hid (by unfold whyP; rw [hm]; rfl)
      clear hf1 hv wv hr hm
      go_enter Try.func8, Try.ntmps8
      go_wp2_with (first
        | ((with_reducible refine sl 4 ?_); go_must (refine wpL_boxG rfl 27 (.tmp 0) rfl v.cells.toArray rfl ?_); intro wb4 g4 he__ le_g4 lt_g4 hg__ hb__; have HG4 := Lib.hid hg__; have hE__ := cU HB bup hb__; replace HB := ck HB hE__; replace HV := ck HV hE__; clear hE__; clear hg__ hb__ he__; simp only [PT])
        | (go_at_call 17; go_must (refine (blkAwake_any _).mono ?_); intro e wc1 hr; obtain ⟨rfl, hb__⟩ := hr; have hE__ := cU HB bup hb__; replace HB := ck HB hE__; replace HV := ck HV hE__; replace HG4 := ck HG4 hE__; clear hE__; clear hb__)
        | ((with_reducible refine sl 20 ?_); go_must (refine wpL_load rfl 27 (.tmp 4) rfl g4 0 rfl (v.cells) _ (range_block HG4.out) Try.underlying27 rfl HBI.out ?_); simp only [PT])
        | (go_at_call 18; (with_reducible show Calls _ _ #[Value.agg v.cells.toArray] _ _); go_must (refine (few_at _ v HF1.out _ (HV.out.below bup)).mono ?_); intro e wc2 hr; obtain ⟨rfl, hb__⟩ := hr; have hE__ := cU HB bup hb__; replace HB := ck HB hE__; replace HV := ck HV hE__; replace HG4 := ck HG4 hE__; clear hE__; clear hb__)
        | ((with_reducible refine sl 26 ?_); go_must (refine wpL_load rfl 27 (.tmp 4) rfl g4 0 rfl (v.cells) _ (range_block HG4.out) Try.underlying27 rfl HBI.out ?_); simp only [PT])
        | (go_at_call 23; go_must (refine (blkPut_wrong v big HR.out _ (HV.out.below bup) HS1.out HW1.out).mono ?_); intro e wc3 hr; rw [HY.out] at hr; obtain ⟨rfl, hb__⟩ := hr; have hE__ := cU HB bup hb__; replace HB := ck HB hE__; replace HV := ck HV hE__; replace HG4 := ck HG4 hE__; clear hE__; clear hb__))
      go_ret
      exact ⟨rfl, HB.out⟩
    · have HY : Hid (whyP v.val = 1) := Lib.hid (by unfold whyP; rw [if_neg hm])
      clear hf1 hv wv hr hm
      go_enter Try.func8, Try.ntmps8
      go_wp2_with (first
        | ((with_reducible refine sl 4 ?_); go_must (refine wpL_boxG rfl 27 (.tmp 0) rfl v.cells.toArray rfl ?_); intro wb4 g4 he__ le_g4 lt_g4 hg__ hb__; have HG4 := Lib.hid hg__; have hE__ := cU HB bup hb__; replace HB := ck HB hE__; replace HV := ck HV hE__; clear hE__; clear hg__ hb__ he__; simp only [PT])
        | (go_at_call 17; go_must (refine (blkAwake_any _).mono ?_); intro e wc1 hr; obtain ⟨rfl, hb__⟩ := hr; have hE__ := cU HB bup hb__; replace HB := ck HB hE__; replace HV := ck HV hE__; replace HG4 := ck HG4 hE__; clear hE__; clear hb__)
        | ((with_reducible refine sl 20 ?_); go_must (refine wpL_load rfl 27 (.tmp 4) rfl g4 0 rfl (v.cells) _ (range_block HG4.out) Try.underlying27 rfl HBI.out ?_); simp only [PT])
        | (go_at_call 18; (with_reducible show Calls _ _ #[Value.agg v.cells.toArray] _ _); go_must (refine (few_at _ v HF1.out _ (HV.out.below bup)).mono ?_); intro e wc2 hr; obtain ⟨rfl, hb__⟩ := hr; have hE__ := cU HB bup hb__; replace HB := ck HB hE__; replace HV := ck HV hE__; replace HG4 := ck HG4 hE__; clear hE__; clear hb__)
        | ((with_reducible refine sl 26 ?_); go_must (refine wpL_load rfl 27 (.tmp 4) rfl g4 0 rfl (v.cells) _ (range_block HG4.out) Try.underlying27 rfl HBI.out ?_); simp only [PT])
        | (go_at_call 23; go_must (refine (blkPut_wrong v big HR.out _ (HV.out.below bup) HS1.out HW1.out).mono ?_); intro e wc3 hr; rw [HY.out] at hr; obtain ⟨rfl, hb__⟩ := hr; have hE__ := cU HB bup hb__; replace HB := ck HB hE__; replace HV := ck HV hE__; replace HG4 := ck HG4 hE__; clear hE__; clear hb__))
      go_ret
      exact ⟨rfl, HB.out⟩
  have HR := Lib.hid hr
  have hm : mayP v.val = true := by simp [rightP] at hr; exact hr.1
  have hz : sizeB v.val ≤ 1048576 := by simp [rightP] at hr; exact hr.2
  obtain ⟨S, hS⟩ : ∃ S, S = sizeB v.val := ⟨_, rfl⟩
  have hsm : S % 4 = 0 := by rw [hS]; exact sizeB_mod _ hm
  have hs4 : (S : Int) % 4 = 0 := by omega
  have hs12 : 12 ≤ S := by rw [hS]; exact sizeB_ge _
  have hsz : S ≤ 1048576 := by rw [hS]; exact hz
  obtain ⟨LL, hLL⟩ : ∃ L, L = bytesB big v.val := ⟨_, rfl⟩
  have HLL := Lib.hid hLL
  have HLS : Hid (LL.length = S) := Lib.hid (by rw [hLL, bytesB_length, hS])
  have hll : LL.length ≤ 1048576 := by rw [HLS.out]; exact hsz
  have hsi : ¬ (S : Int) < 12 := by omega
  obtain ⟨q, hq⟩ : ∃ q : Nat, a2 % (S : Int) = (q : Int) := ⟨(a2 % (S : Int)).toNat, by have := Int.emod_nonneg a2 (show (S : Int) ≠ 0 by omega); omega⟩
  have hqs : q < S := by have := Int.emod_lt_of_pos a2 (show (0 : Int) < (S : Int) by omega); omega
  obtain ⟨j, hj⟩ : ∃ j : Nat, a3 % 4 = (j : Int) := ⟨(a3 % 4).toNat, by omega⟩
  have hj4 : j < 4 := by omega
  obtain ⟨d, hd⟩ : ∃ d : Nat, a3 / 64 = (d : Int) := ⟨(a3 / 64).toNat, by omega⟩
  have hd4 : d < 4 := by omega
  obtain ⟨cx, hcx⟩ : ∃ c : UInt8, c.toNat = 1 + d := ⟨UInt8.ofNat (1 + d), by rw [UInt8.toNat_ofNat_of_lt' (by show 1 + d < 256; omega)]⟩
  have hcxi : (1 : Int) + (d : Int) = (cx.toNat : Int) := by omega
  have hcxw : IntKind.u8.wrap ((1 : Int) + (d : Int)) = (cx.toNat : Int) := by rw [IntKind.wrap_u8]; omega
  have hcx0 : cx ≠ 0 := fun e => by rw [e] at hcx; simp at hcx; omega
  obtain ⟨s1, hs1⟩ : ∃ s1, s1 = S - 1 := ⟨_, rfl⟩
  have k1 : (S : Int) - 1 = (s1 : Int) := by omega
  have k2 : IntKind.i64.wrap ((S : Int) - 1) = (s1 : Int) := by rw [IntKind.wrap_i64]; omega
  obtain ⟨i, hi⟩ : ∃ i, i = s1 - j := ⟨_, rfl⟩
  have k3 : (s1 : Int) - (j : Int) = (i : Int) := by omega
  have k4 : IntKind.i64.wrap ((s1 : Int) - (j : Int)) = (i : Int) := by rw [IntKind.wrap_i64]; omega
  have hiS : i < S := by omega
  have hie : i = sizeB v.val - 1 - j := by omega
  have HGC : Hid (getP big (LL.take q) = (noneB, 0, 2)) := Lib.hid (by rw [hLL]; exact get_cut v.val hm wv hz big q (by omega))
  have HXO := Lib.hid (xor_any (at8 LL i) cx)
  have HGT : Hid (getP big (LL.set i ((at8 LL i) ^^^ cx)) = (noneB, 0, 3)) := Lib.hid (turn_at v.val hm wv hz big j i hj4 cx hcx0 LL hLL hie)
  have hxo := HXO.out
  obtain ⟨bx, hbx⟩ : ∃ b, b = (at8 LL i) ^^^ cx := ⟨_, rfl⟩
  clear hf1 hv wv hr hm hz hS hLL hsm hcx hcx0 hs1 hi hie hj4 hd4 hbx bx
  go_enter Try.func8, Try.ntmps8
  go_wp2_with (first
    | ((with_reducible refine sl 4 ?_); go_must (refine wpL_boxG rfl 27 (.tmp 0) rfl v.cells.toArray rfl ?_); intro wb4 g4 he__ le_g4 lt_g4 hg__ hb__; have HG4 := Lib.hid hg__; have hE__ := cU HB bup hb__; replace HB := ck HB hE__; replace HV := ck HV hE__; clear hE__; clear hg__ hb__ he__; simp only [PT])
    | (go_at_call 17; go_must (refine (blkAwake_any _).mono ?_); intro e wc1 hr; obtain ⟨rfl, hb__⟩ := hr; have hE__ := cU HB bup hb__; replace HB := ck HB hE__; replace HV := ck HV hE__; replace HG4 := ck HG4 hE__; clear hE__; clear hb__)
    | ((with_reducible refine sl 20 ?_); go_must (refine wpL_load rfl 27 (.tmp 4) rfl g4 0 rfl (v.cells) _ (range_block HG4.out) Try.underlying27 rfl HBI.out ?_); simp only [PT])
    | (go_at_call 18; (with_reducible show Calls _ _ #[Value.agg v.cells.toArray] _ _); go_must (refine (few_at _ v HF1.out _ (HV.out.below bup)).mono ?_); intro e wc2 hr; obtain ⟨rfl, hb__⟩ := hr; have hE__ := cU HB bup hb__; replace HB := ck HB hE__; replace HV := ck HV hE__; replace HG4 := ck HG4 hE__; clear hE__; clear hb__)
    | ((with_reducible refine sl 26 ?_); go_must (refine wpL_load rfl 27 (.tmp 4) rfl g4 0 rfl (v.cells) _ (range_block HG4.out) Try.underlying27 rfl HBI.out ?_); simp only [PT])
    | (go_at_call 23; go_must (refine (blkPut_rightS LL S v big HLL.out HLS.out HR.out _ (HV.out.below bup) HS1.out HW1.out).mono ?_); intro e wc3 hr; obtain ⟨ad5, c5, rfl, ho__, hb__⟩ := hr; obtain ⟨gx, rfl, hgx, hgl⟩ := own_some ho__ (by omega); have hgw : w.heap.size ≤ gx := Nat.le_trans HB.out.size (Nat.le_trans (bsz bup) hgx); have hc5 := (Bs.of_own ho__).le; have H5 := Lib.hid ho__; clear ho__ hgx; have hE__ := cU HB bup hb__; replace HB := ck HB hE__; replace HV := ck HV hE__; replace HG4 := ck HG4 hE__; clear hE__; clear hb__)
    | ((with_reducible refine sl 47 ?_); go_must (refine wpL_sliceG elB rfl (.tmp 41) none (some (.tmp 46)) rfl rfl 0 q (.inl ⟨rfl, rfl⟩) (.inr ⟨.i64, congrArg (fun z => some (Value.int .i64 z)) hq⟩) (by omega) (by omega) q c5 rfl rfl ?_); intro ad47 had; have H47 := Lib.hid (Bs.partG (Bs.of_own H5.out) 0 q q c5 (by omega) (by omega) rfl rfl ad47 had (LL.take q) rfl); clear had; simp only [PT])
    | (go_at_call 26; (with_reducible show Calls _ _ #[Value.slice ad47 _ _, _] _ _); go_must (refine (blkGet_at noneB 0 2 ad47 q c5 (LL.take q) big HGC.out _ (H47.out.below bup) (by omega)).mono ?_); intro e wc4 hr; obtain ⟨v1, rfl, hv__, ho__, hb__⟩ := hr; clear ho__ hv__; have hE__ := cU HB bup hb__; replace HB := ck HB hE__; replace HV := ck HV hE__; replace HG4 := ck HG4 hE__; replace H5 := ck H5 hE__; clear hE__; clear hb__)
    | ((with_reducible refine sl 11 ?_); go_must (refine wpL_newN rfl rfl 27 rfl (.tmp 11) (.tmp 50) rfl (v1.cells).toArray _ HZI.out rfl (bcells_all _) (fun _ => rfl) (fun _ => rfl) ?_); intro wn11 g11 le_g11 lt_g11 hg__ hb__; have HG11 := Lib.hid hg__; have hE__ := cU HB bup hb__; replace HB := ck HB hE__; replace HV := ck HV hE__; replace HG4 := ck HG4 hE__; replace H5 := ck H5 hE__; clear hE__; clear hg__ hb__; simp only [PT])
    | ((with_reducible refine sl 62 ?_); go_must (refine wpL_loadC rfl 5 (.tmp 61) rfl gx i rfl (.int .u8 ((at8 LL i).toNat : Int)) (own_cell (own_keep H5.out bup) (by omega)) Try.underlying5 rfl ?_); simp only [PT])
    | ((with_reducible show wpList _ _ _ (⟨none, .store _ (.tmp 67) (.tmp 66), _, _, _, _⟩ :: _) _ _); go_must (refine wpL_storeB rfl 5 (.tmp 67) (.tmp 66) rfl (own_keep H5.out bup) i (by omega) ((at8 LL i) ^^^ cx) rfl (by first | rfl | exact congrArg (Value.int .u8) HXO.out | simp [HXO.out]) (by kernel_rfl) ?_); intro wst hs__ hr__; replace HB := cKg HB bup hr__ hgw; clear H5; have H5 := Lib.hid (Bs.of_own hs__); clear hs__ hr__; simp only [PT])
    | (go_at_call 26; (with_reducible show Calls _ _ #[Value.slice (some ⟨gx, 0, none⟩) _ _, _] _ _); go_must (refine (blkGet_at noneB 0 3 (some ⟨gx, 0, none⟩) S c5 (LL.set i ((at8 LL i) ^^^ cx)) big HGT.out _ (H5.out.below bup) (by omega)).mono ?_); intro e wc5 hr; obtain ⟨v2, rfl, hv__, ho__, hb__⟩ := hr; clear ho__ hv__; have hE__ := cU HB bup hb__; replace HB := ck HB hE__; clear hE__; clear hb__)
    | ((with_reducible refine sl 14 ?_); go_must (refine wpL_newN rfl rfl 27 rfl (.tmp 14) (.tmp 72) rfl (v2.cells).toArray _ HZI.out rfl (bcells_all _) (fun _ => rfl) (fun _ => rfl) ?_); intro wn14 g14 le_g14 lt_g14 hg__ hb__; have HG14 := Lib.hid hg__; have hE__ := cU HB bup hb__; replace HB := ck HB hE__; clear hE__; clear hg__ hb__; simp only [PT]))
  go_ret
  exact ⟨by simp, HB.out⟩

end Go.Proofs.Ytmfplinbbcoahaa
