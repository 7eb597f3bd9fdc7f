/-
  Joined by program (merge.py): PutB, Opn1, Opn2.
-/
import Derived.Test.YtmfplinbbcoahaaM6
import Derived.Test.YtmfplinbbcoahaaM8
import Derived.Test.YtmfplinbbcoahaaM9
import Derived.Test.YtmfplinbbcoahaaM12
/-
  Chapter 26: a block laid, walked.
-/
namespace Go.Proofs.Ytmfplinbbcoahaa
open Go.RowKit Go.Sort
set_option linter.unusedVariables false
set_option linter.unusedSimpArgs false

theorem bytesB_parts (big : Bool) (x : PB) : bytesB big x = ((putL (typeB x) 4 (ordB big x) ++ putL (sizeB x) 4 (ordB big x)) ++ bodyB (ordB big x) x) ++ putL (sizeB x) 4 (ordB big x) := by
  unfold bytesB
  simp only [List.append_assoc]

set_option maxRecDepth 100000 in
set_option maxHeartbeats 8000000 in
theorem blkPut_any (v : BlkV) (big : Bool) (w : World) (hv : Blk w v) (hf : SmB v) (hw : wfB v.val) :
    Calls Try.prog 23 #[.agg v.cells.toArray, .bool big] w fun e w' => Below w.heap.size w w' ∧
      ((mayP v.val = false ∧ e = .returned (.tuple #[.slice none 0 0, .int .i64 1])) ∨
       (mayP v.val = true ∧ ¬ sizeB v.val ≤ 1048576 ∧ e = .returned (.tuple #[.slice none 0 0, .int .i64 4])) ∨
       (rightP v.val = true ∧ ∃ ad c, e = .returned (.tuple #[.slice ad (bytesB big v.val).length c, .int .i64 0]) ∧ w'.ownsRow w.heap.size 5 1 (.slice ad (bytesB big v.val).length c) (bytesB big v.val).length (BV (bytesB big v.val)))) := by
  have HB := Lib.hid (Below.refl w.heap.size w)
  have HV := Lib.hid hv
  have HF := Lib.hid hf
  have HWF := Lib.hid hw
  have hl : v.len < 4294967296 := hw.2.2.2
  have ht : v.type < 4294967296 := hw.1
  have HBI := Lib.hid blk_info
  have HR : Hid (rightP v.val = (mayP v.val && decide (sizeB v.val ≤ 1048576))) := Lib.hid rfl
  by_cases hm : mayP v.val = true
  rotate_left
  · have hm' : false = mayP v.val := by cases h : mayP v.val <;> simp_all
    have HM := Lib.hid hm'
    clear hv hf hw hm hm'
    go_enter Try.func23, Try.ntmps23
    go_wp2_with (first
      | ((with_reducible refine sl 2 ?_); go_must (refine wpL_boxG rfl 27 (.tmp 0) rfl v.cells.toArray rfl ?_); intro w1 g2 he__ le_g2 lt_g2 hg__ hb__; have HG2 := Lib.hid hg__; have hE__ := cU HB bup hb__; replace HB := ck HB hE__; clear hE__; clear hg__ hb__ he__; simp only [PT])
      | ((with_reducible refine sl 9 ?_); go_must (refine wpL_load rfl 27 (.tmp 2) rfl g2 0 rfl v.cells _ (range_block HG2.out) Try.underlying27 rfl HBI.out ?_); simp only [PT])
      | (go_at_call 41; go_must (refine (may_any v _ (HV.out.below (HB.out.trans (Below.mono bup HB.out.size))) HF.out hl).mono ?_); intro e w5 hr; rw [← HM.out] at hr; obtain ⟨rfl, hb__⟩ := hr; have hE__ := cU HB bup hb__; replace HB := ck HB hE__; replace HG2 := ck HG2 hE__; clear hE__; clear hb__))
    go_ret2
    exact ⟨HB.out, .inl ⟨HM.out.symm, rfl⟩⟩
  by_cases hr : sizeB v.val ≤ 1048576
  rotate_left
  · have HM := Lib.hid hm.symm
    have HRR : Hid (false = rightP v.val) := Lib.hid (by rw [HR.out, hm]; simp [hr])
    have HNR := Lib.hid hr
    clear hv hf hw hm hr
    go_enter Try.func23, Try.ntmps23
    go_wp2_with (first
      | ((with_reducible refine sl 2 ?_); go_must (refine wpL_boxG rfl 27 (.tmp 0) rfl v.cells.toArray rfl ?_); intro w1 g2 he__ le_g2 lt_g2 hg__ hb__; have HG2 := Lib.hid hg__; have hE__ := cU HB bup hb__; replace HB := ck HB hE__; clear hE__; clear hg__ hb__ he__; simp only [PT])
      | ((with_reducible refine sl 9 ?_); go_must (refine wpL_load rfl 27 (.tmp 2) rfl g2 0 rfl v.cells _ (range_block HG2.out) Try.underlying27 rfl HBI.out ?_); simp only [PT])
      | ((with_reducible refine sl 12 ?_); go_must (refine wpL_load rfl 27 (.tmp 2) rfl g2 0 rfl v.cells _ (range_block HG2.out) Try.underlying27 rfl HBI.out ?_); simp only [PT])
      | (go_at_call 41; go_must (refine (may_any v _ (HV.out.below (HB.out.trans (Below.mono bup HB.out.size))) HF.out hl).mono ?_); intro e w5 hr; rw [← HM.out] at hr; obtain ⟨rfl, hb__⟩ := hr; have hE__ := cU HB bup hb__; replace HB := ck HB hE__; replace HG2 := ck HG2 hE__; clear hE__; clear hb__)
      | (go_at_call 19; go_must (refine (blkRight_any v _ (HV.out.below (HB.out.trans (Below.mono bup HB.out.size))) HF.out hl).mono ?_); intro e w6 hr; rw [← HRR.out] at hr; obtain ⟨rfl, hb__⟩ := hr; have hE__ := cU HB bup hb__; replace HB := ck HB hE__; replace HG2 := ck HG2 hE__; clear hE__; clear hb__))
    go_ret2
    exact ⟨HB.out, .inr (.inl ⟨HM.out.symm, HNR.out, rfl⟩)⟩
  have HM := Lib.hid hm.symm
  have HRR : Hid (true = rightP v.val) := Lib.hid (by rw [HR.out, hm]; simp [hr])
  obtain ⟨s, hs⟩ : ∃ s, s = sizeB v.val := ⟨_, rfl⟩
  obtain ⟨T, hT⟩ : ∃ T, T = typeB v.val := ⟨_, rfl⟩
  obtain ⟨TK, hTK⟩ : ∃ T, T = typeP v.kind := ⟨_, rfl⟩
  obtain ⟨G, hG⟩ : ∃ G, G = ordB big v.val := ⟨_, rfl⟩
  obtain ⟨BD, hBD⟩ : ∃ B, B = bodyB G v.val := ⟨_, rfl⟩
  obtain ⟨PS, hPS⟩ : ∃ P, P = putL s 4 G := ⟨_, rfl⟩
  obtain ⟨PTy, hPT⟩ : ∃ P, P = putL T 4 G := ⟨_, rfl⟩
  have HFIN : Hid (bytesB big v.val = ((PTy ++ PS) ++ BD) ++ PS) := Lib.hid (by rw [bytesB_parts, hPT, hPS, hBD, hT, hs, hG])
  have l1 : PS.length = 4 := by rw [hPS, putL4_length]
  have l2 : PTy.length = 4 := by rw [hPT, putL4_length]
  have l3 : BD.length + 12 ≤ 1048576 := by rw [hBD, bodyB_length]; unfold sizeB at hr; omega
  have L1 := Lib.hid l1
  have L2 := Lib.hid l2
  have l1' : PS.length ≤ 4 := by omega
  have l2' : PTy.length ≤ 4 := by omega
  have hTl : T < 4294967296 := by
    rw [hT]; unfold typeB typeP
    show (if v.kind = 7 then v.type else _) < _
    repeat' split
    all_goals omega
  have HS := Lib.hid hs
  have HBD := Lib.hid hBD
  have HPS := Lib.hid hPS
  have HPT := Lib.hid hPT
  have HTK := Lib.hid hTK
  have hsl : s ≤ 1048576 := by omega
  have hws : IntKind.u64.wrap (s : Int) = (s : Int) := u64_wrap_nat _ (by omega)
  have hwT : IntKind.u64.wrap (T : Int) = (T : Int) := u64_wrap_nat _ (by omega)
  have hk3 : (v.kind = 1 ∧ G = v.big ∧ T = TK) ∨ (v.kind = 7 ∧ G = big ∧ T = v.type) ∨ (¬ v.kind = 1 ∧ ¬ v.kind = 7 ∧ G = big ∧ T = TK) := by
    rw [hG, hT, hTK]
    unfold ordB typeB
    show (v.kind = 1 ∧ (if v.kind = 1 then v.big else big) = v.big ∧ (if v.kind = 7 then v.type else typeP v.kind) = _) ∨ (v.kind = 7 ∧ (if v.kind = 1 then v.big else big) = big ∧ (if v.kind = 7 then v.type else typeP v.kind) = v.type) ∨ (¬ v.kind = 1 ∧ ¬ v.kind = 7 ∧ (if v.kind = 1 then v.big else big) = big ∧ (if v.kind = 7 then v.type else typeP v.kind) = typeP v.kind)
    by_cases h1 : v.kind = 1
    · exact .inl ⟨h1, by rw [if_pos h1], by rw [if_neg (by omega)]⟩
    · by_cases h7 : v.kind = 7
      · exact .inr (.inl ⟨h7, by rw [if_neg h1], by rw [if_pos h7]⟩)
      · exact .inr (.inr ⟨h1, h7, by rw [if_neg h1], by rw [if_neg h7]⟩)
  clear hv hf hw hm hr hs hT hTK hG hBD hPS hPT l1 l2
  rcases hk3 with ⟨hk, e1, e2⟩ | ⟨hk, e1, e2⟩ | ⟨hk, hk7, e1, e2⟩
  · have HTO : Hid (∀ w, Calls Try.prog 46 #[.int .i64 1] w fun e w' => e = .returned (.int .u32 ((TK : Nat) : Int)) ∧ Below w.heap.size w w') := Lib.hid (fun w => by rw [HTK.out, hk]; exact typeOf_any _ w)
    clear HTK
    subst e1
    subst e2
    go_enter Try.func23, Try.ntmps23
    go_wp2_with (first
      | ((with_reducible refine sl 2 ?_); go_must (refine wpL_boxG rfl 27 (.tmp 0) rfl v.cells.toArray rfl ?_); intro w1 g2 he__ le_g2 lt_g2 hg__ hb__; have HG2 := Lib.hid hg__; have hE__ := cU HB bup hb__; replace HB := ck HB hE__; clear hE__; clear hg__ hb__ he__; simp only [PT])
      | ((with_reducible refine sl 9 ?_); go_must (refine wpL_load rfl 27 (.tmp 2) rfl g2 0 rfl v.cells _ (range_block HG2.out) Try.underlying27 rfl HBI.out ?_); simp only [PT])
      | ((with_reducible refine sl 12 ?_); go_must (refine wpL_load rfl 27 (.tmp 2) rfl g2 0 rfl v.cells _ (range_block HG2.out) Try.underlying27 rfl HBI.out ?_); simp only [PT])
      | ((with_reducible refine sl 28 ?_); go_must (refine wpL_load rfl 27 (.tmp 2) rfl g2 0 rfl v.cells _ (range_block HG2.out) Try.underlying27 rfl HBI.out ?_); simp only [PT])
      | (go_at_call 41; go_must (refine (may_any v _ (HV.out.below (HB.out.trans (Below.mono bup HB.out.size))) HF.out hl).mono ?_); intro e w5 hr; rw [← HM.out] at hr; obtain ⟨rfl, hb__⟩ := hr; have hE__ := cU HB bup hb__; replace HB := ck HB hE__; replace HG2 := ck HG2 hE__; clear hE__; clear hb__)
      | (go_at_call 19; go_must (refine (blkRight_any v _ (HV.out.below (HB.out.trans (Below.mono bup HB.out.size))) HF.out hl).mono ?_); intro e w6 hr; rw [← HRR.out] at hr; obtain ⟨rfl, hb__⟩ := hr; have hE__ := cU HB bup hb__; replace HB := ck HB hE__; replace HG2 := ck HG2 hE__; clear hE__; clear hb__)
      | ((with_reducible refine sl 16 ?_); go_must (refine wpL_loadF rfl 3 (.tmp 15) rfl g2 0 rfl (.int .i64 v.kind) HG2.out rfl Try.underlying3 rfl ?_); simp only [PT])
      | ((with_reducible refine sl 19 ?_); go_must (refine wpL_loadF rfl 3 (.tmp 18) rfl g2 0 rfl (.int .i64 v.kind) HG2.out rfl Try.underlying3 rfl ?_); simp only [PT])
      | ((with_reducible refine sl 23 ?_); go_must (refine wpL_loadF rfl 4 (.tmp 22) rfl g2 1 rfl (.bool v.big) HG2.out rfl Try.underlying4 rfl ?_); simp only [PT])
      | ((with_reducible refine sl 27 ?_); go_must (refine wpL_loadF rfl 22 (.tmp 26) rfl g2 2 rfl (.int .u32 (v.type : Int)) HG2.out rfl Try.underlying22 rfl ?_); simp only [PT])
      | (go_at_call 46; go_must (refine (HTO.out _).mono ?_); intro e w7 hr; obtain ⟨rfl, hb__⟩ := hr; have hE__ := cU HB bup hb__; replace HB := ck HB hE__; replace HG2 := ck HG2 hE__; clear hE__; clear hb__)
      | (go_at_call 42; go_must (refine (blkSize_any v _ (HV.out.below (HB.out.trans (Below.mono bup HB.out.size))) HF.out).mono ?_); intro e w8 hr; rw [← HS.out] at hr; obtain ⟨rfl, hb__⟩ := hr; have hE__ := cU HB bup hb__; replace HB := ck HB hE__; replace HG2 := ck HG2 hE__; clear hE__; clear hb__)
      | (go_at_call 47; (with_reducible show Calls _ _ #[Value.int .u64 (s : Int), _, _] _ _); go_must (refine (put_any s 4 _ _ (by omega)).mono ?_); intro e w9 hr; rw [← HPS.out] at hr; unfold RetB at hr; obtain ⟨ad9, c9, rfl, ho9, hb__⟩ := hr; have H9 := Lib.hid (Bs.of_own ho9); have hE__ := cU HB bup hb__; replace HB := ck HB hE__; replace HG2 := ck HG2 hE__; clear hE__; have HE := Lib.hid (Below.refl w9.heap.size w9); clear hb__ ho9)
      | (go_at_call 47; go_must (refine (put_any T 4 _ _ (by omega)).mono ?_); intro e w10 hr; rw [← HPT.out] at hr; unfold RetB at hr; obtain ⟨ad10, c10, rfl, ho10, hb__⟩ := hr; replace HE := cE0 HE bup hb__; have HO := Lib.hid (own_base (base' := w9.heap.size) ho10 (bsz bup)); clear hb__ ho10)
      | ((with_reducible refine sl 38 ?_); go_must (refine wpL_append elB rfl (.tmp 36) (.tmp 37) rfl w9.heap.size rfl (own_keep HO.out bup) rfl (H9.out.below (HE.out.trans (Below.mono bup HE.out.size))) (BV_one _) (by unfold maxLen; omega) (by omega) (Nat.le_trans HE.out.size (bsz bup)) ?_); intro ad11 c11 w11 hown__ hgr__ _ _; rw [← BV_append] at hown__; replace HE := cEa HE bup hgr__ (ownBlock_ge HO.out); clear HO; have HO := Lib.hid hown__; clear hown__ hgr__; simp only [PT])
      | ((with_reducible refine sl 40 ?_); go_must (refine wpL_load rfl 27 (.tmp 2) rfl g2 0 rfl v.cells _ (range_block (((HE.out.trans (Below.mono bup HE.out.size)).block _ (lt_of_block HG2.out)).trans HG2.out)) Try.underlying27 rfl HBI.out ?_); simp only [PT])
      | (go_at_call 48; go_must (refine (body_any v _ _ (HV.out.below ((HB.out.trans (HE.out.mono HB.out.size)).trans (Below.mono bup (Nat.le_trans HB.out.size HE.out.size)))) HF.out HM.out.symm HWF.out).mono ?_); intro e w12 hr; rw [← HBD.out] at hr; obtain ⟨⟨ad12, c12, rfl, h12⟩, hb__⟩ := hr; have H12 := Lib.hid h12; clear h12; replace HO := cOa HO bup hb__; replace HE := cE0 HE bup hb__; clear hb__)
      | ((with_reducible refine sl 43 ?_); go_must (refine wpL_append elB rfl (.tmp 39) (.tmp 42) rfl w9.heap.size rfl (own_keep HO.out bup) rfl (H12.out.below bup) (BV_one _) (by unfold maxLen; omega) (by omega) (Nat.le_trans HE.out.size (bsz bup)) ?_); intro ad13 c13 w13 hown__ hgr__ _ _; rw [← BV_append] at hown__; replace HE := cEa HE bup hgr__ (ownBlock_ge HO.out); clear HO; have HO := Lib.hid hown__; clear hown__ hgr__; simp only [PT])
      | ((with_reducible refine sl 46 ?_); go_must (refine wpL_append elB rfl (.tmp 44) (.tmp 45) rfl w9.heap.size rfl (own_keep HO.out bup) rfl (H9.out.below (HE.out.trans (Below.mono bup HE.out.size))) (BV_one _) (by unfold maxLen; omega) (by omega) (Nat.le_trans HE.out.size (bsz bup)) ?_); intro ad14 c14 w14 hown__ hgr__ _ _; rw [← BV_append] at hown__; replace HE := cEa HE bup hgr__ (ownBlock_ge HO.out); clear HO; have HO := Lib.hid hown__; clear hown__ hgr__; simp only [PT]))
    go_ret2
    refine ⟨HB.out.trans (HE.out.mono HB.out.size), .inr (.inr ⟨HRR.out.symm, ad14, c14, ?_, ?_⟩)⟩
    · rw [HFIN.out]; simp only [List.length_append]; rfl
    · rw [HFIN.out]; simp only [List.length_append]; exact own_base HO.out HB.out.size
  · have HTO : Hid (∀ w, Calls Try.prog 46 #[.int .i64 7] w fun e w' => e = .returned (.int .u32 ((TK : Nat) : Int)) ∧ Below w.heap.size w w') := Lib.hid (fun w => by rw [HTK.out, hk]; exact typeOf_any _ w)
    clear HTK
    subst e1
    subst e2
    go_enter Try.func23, Try.ntmps23
    go_wp2_with (first
      | ((with_reducible refine sl 2 ?_); go_must (refine wpL_boxG rfl 27 (.tmp 0) rfl v.cells.toArray rfl ?_); intro w1 g2 he__ le_g2 lt_g2 hg__ hb__; have HG2 := Lib.hid hg__; have hE__ := cU HB bup hb__; replace HB := ck HB hE__; clear hE__; clear hg__ hb__ he__; simp only [PT])
      | ((with_reducible refine sl 9 ?_); go_must (refine wpL_load rfl 27 (.tmp 2) rfl g2 0 rfl v.cells _ (range_block HG2.out) Try.underlying27 rfl HBI.out ?_); simp only [PT])
      | ((with_reducible refine sl 12 ?_); go_must (refine wpL_load rfl 27 (.tmp 2) rfl g2 0 rfl v.cells _ (range_block HG2.out) Try.underlying27 rfl HBI.out ?_); simp only [PT])
      | ((with_reducible refine sl 28 ?_); go_must (refine wpL_load rfl 27 (.tmp 2) rfl g2 0 rfl v.cells _ (range_block HG2.out) Try.underlying27 rfl HBI.out ?_); simp only [PT])
      | (go_at_call 41; go_must (refine (may_any v _ (HV.out.below (HB.out.trans (Below.mono bup HB.out.size))) HF.out hl).mono ?_); intro e w5 hr; rw [← HM.out] at hr; obtain ⟨rfl, hb__⟩ := hr; have hE__ := cU HB bup hb__; replace HB := ck HB hE__; replace HG2 := ck HG2 hE__; clear hE__; clear hb__)
      | (go_at_call 19; go_must (refine (blkRight_any v _ (HV.out.below (HB.out.trans (Below.mono bup HB.out.size))) HF.out hl).mono ?_); intro e w6 hr; rw [← HRR.out] at hr; obtain ⟨rfl, hb__⟩ := hr; have hE__ := cU HB bup hb__; replace HB := ck HB hE__; replace HG2 := ck HG2 hE__; clear hE__; clear hb__)
      | ((with_reducible refine sl 16 ?_); go_must (refine wpL_loadF rfl 3 (.tmp 15) rfl g2 0 rfl (.int .i64 v.kind) HG2.out rfl Try.underlying3 rfl ?_); simp only [PT])
      | ((with_reducible refine sl 19 ?_); go_must (refine wpL_loadF rfl 3 (.tmp 18) rfl g2 0 rfl (.int .i64 v.kind) HG2.out rfl Try.underlying3 rfl ?_); simp only [PT])
      | ((with_reducible refine sl 23 ?_); go_must (refine wpL_loadF rfl 4 (.tmp 22) rfl g2 1 rfl (.bool v.big) HG2.out rfl Try.underlying4 rfl ?_); simp only [PT])
      | ((with_reducible refine sl 27 ?_); go_must (refine wpL_loadF rfl 22 (.tmp 26) rfl g2 2 rfl (.int .u32 (v.type : Int)) HG2.out rfl Try.underlying22 rfl ?_); simp only [PT])
      | (go_at_call 46; go_must (refine (HTO.out _).mono ?_); intro e w7 hr; obtain ⟨rfl, hb__⟩ := hr; have hE__ := cU HB bup hb__; replace HB := ck HB hE__; replace HG2 := ck HG2 hE__; clear hE__; clear hb__)
      | (go_at_call 42; go_must (refine (blkSize_any v _ (HV.out.below (HB.out.trans (Below.mono bup HB.out.size))) HF.out).mono ?_); intro e w8 hr; rw [← HS.out] at hr; obtain ⟨rfl, hb__⟩ := hr; have hE__ := cU HB bup hb__; replace HB := ck HB hE__; replace HG2 := ck HG2 hE__; clear hE__; clear hb__)
      | (go_at_call 47; (with_reducible show Calls _ _ #[Value.int .u64 (s : Int), _, _] _ _); go_must (refine (put_any s 4 _ _ (by omega)).mono ?_); intro e w9 hr; rw [← HPS.out] at hr; unfold RetB at hr; obtain ⟨ad9, c9, rfl, ho9, hb__⟩ := hr; have H9 := Lib.hid (Bs.of_own ho9); have hE__ := cU HB bup hb__; replace HB := ck HB hE__; replace HG2 := ck HG2 hE__; clear hE__; have HE := Lib.hid (Below.refl w9.heap.size w9); clear hb__ ho9)
      | (go_at_call 47; go_must (refine (put_any v.type 4 _ _ (by omega)).mono ?_); intro e w10 hr; rw [← HPT.out] at hr; unfold RetB at hr; obtain ⟨ad10, c10, rfl, ho10, hb__⟩ := hr; replace HE := cE0 HE bup hb__; have HO := Lib.hid (own_base (base' := w9.heap.size) ho10 (bsz bup)); clear hb__ ho10)
      | ((with_reducible refine sl 38 ?_); go_must (refine wpL_append elB rfl (.tmp 36) (.tmp 37) rfl w9.heap.size rfl (own_keep HO.out bup) rfl (H9.out.below (HE.out.trans (Below.mono bup HE.out.size))) (BV_one _) (by unfold maxLen; omega) (by omega) (Nat.le_trans HE.out.size (bsz bup)) ?_); intro ad11 c11 w11 hown__ hgr__ _ _; rw [← BV_append] at hown__; replace HE := cEa HE bup hgr__ (ownBlock_ge HO.out); clear HO; have HO := Lib.hid hown__; clear hown__ hgr__; simp only [PT])
      | ((with_reducible refine sl 40 ?_); go_must (refine wpL_load rfl 27 (.tmp 2) rfl g2 0 rfl v.cells _ (range_block (((HE.out.trans (Below.mono bup HE.out.size)).block _ (lt_of_block HG2.out)).trans HG2.out)) Try.underlying27 rfl HBI.out ?_); simp only [PT])
      | (go_at_call 48; go_must (refine (body_any v _ _ (HV.out.below ((HB.out.trans (HE.out.mono HB.out.size)).trans (Below.mono bup (Nat.le_trans HB.out.size HE.out.size)))) HF.out HM.out.symm HWF.out).mono ?_); intro e w12 hr; rw [← HBD.out] at hr; obtain ⟨⟨ad12, c12, rfl, h12⟩, hb__⟩ := hr; have H12 := Lib.hid h12; clear h12; replace HO := cOa HO bup hb__; replace HE := cE0 HE bup hb__; clear hb__)
      | ((with_reducible refine sl 43 ?_); go_must (refine wpL_append elB rfl (.tmp 39) (.tmp 42) rfl w9.heap.size rfl (own_keep HO.out bup) rfl (H12.out.below bup) (BV_one _) (by unfold maxLen; omega) (by omega) (Nat.le_trans HE.out.size (bsz bup)) ?_); intro ad13 c13 w13 hown__ hgr__ _ _; rw [← BV_append] at hown__; replace HE := cEa HE bup hgr__ (ownBlock_ge HO.out); clear HO; have HO := Lib.hid hown__; clear hown__ hgr__; simp only [PT])
      | ((with_reducible refine sl 46 ?_); go_must (refine wpL_append elB rfl (.tmp 44) (.tmp 45) rfl w9.heap.size rfl (own_keep HO.out bup) rfl (H9.out.below (HE.out.trans (Below.mono bup HE.out.size))) (BV_one _) (by unfold maxLen; omega) (by omega) (Nat.le_trans HE.out.size (bsz bup)) ?_); intro ad14 c14 w14 hown__ hgr__ _ _; rw [← BV_append] at hown__; replace HE := cEa HE bup hgr__ (ownBlock_ge HO.out); clear HO; have HO := Lib.hid hown__; clear hown__ hgr__; simp only [PT]))
    go_ret2
    refine ⟨HB.out.trans (HE.out.mono HB.out.size), .inr (.inr ⟨HRR.out.symm, ad14, c14, ?_, ?_⟩)⟩
    · rw [HFIN.out]; simp only [List.length_append]; rfl
    · rw [HFIN.out]; simp only [List.length_append]; exact own_base HO.out HB.out.size
  · have HTO : Hid (∀ w, Calls Try.prog 46 #[.int .i64 v.kind] w fun e w' => e = .returned (.int .u32 ((TK : Nat) : Int)) ∧ Below w.heap.size w w') := Lib.hid (fun w => by rw [HTK.out]; exact typeOf_any _ w)
    clear HTK
    subst e1
    subst e2
    go_enter Try.func23, Try.ntmps23
    go_wp2_with (first
      | ((with_reducible refine sl 2 ?_); go_must (refine wpL_boxG rfl 27 (.tmp 0) rfl v.cells.toArray rfl ?_); intro w1 g2 he__ le_g2 lt_g2 hg__ hb__; have HG2 := Lib.hid hg__; have hE__ := cU HB bup hb__; replace HB := ck HB hE__; clear hE__; clear hg__ hb__ he__; simp only [PT])
      | ((with_reducible refine sl 9 ?_); go_must (refine wpL_load rfl 27 (.tmp 2) rfl g2 0 rfl v.cells _ (range_block HG2.out) Try.underlying27 rfl HBI.out ?_); simp only [PT])
      | ((with_reducible refine sl 12 ?_); go_must (refine wpL_load rfl 27 (.tmp 2) rfl g2 0 rfl v.cells _ (range_block HG2.out) Try.underlying27 rfl HBI.out ?_); simp only [PT])
      | ((with_reducible refine sl 28 ?_); go_must (refine wpL_load rfl 27 (.tmp 2) rfl g2 0 rfl v.cells _ (range_block HG2.out) Try.underlying27 rfl HBI.out ?_); simp only [PT])
      | (go_at_call 41; go_must (refine (may_any v _ (HV.out.below (HB.out.trans (Below.mono bup HB.out.size))) HF.out hl).mono ?_); intro e w5 hr; rw [← HM.out] at hr; obtain ⟨rfl, hb__⟩ := hr; have hE__ := cU HB bup hb__; replace HB := ck HB hE__; replace HG2 := ck HG2 hE__; clear hE__; clear hb__)
      | (go_at_call 19; go_must (refine (blkRight_any v _ (HV.out.below (HB.out.trans (Below.mono bup HB.out.size))) HF.out hl).mono ?_); intro e w6 hr; rw [← HRR.out] at hr; obtain ⟨rfl, hb__⟩ := hr; have hE__ := cU HB bup hb__; replace HB := ck HB hE__; replace HG2 := ck HG2 hE__; clear hE__; clear hb__)
      | ((with_reducible refine sl 16 ?_); go_must (refine wpL_loadF rfl 3 (.tmp 15) rfl g2 0 rfl (.int .i64 v.kind) HG2.out rfl Try.underlying3 rfl ?_); simp only [PT])
      | ((with_reducible refine sl 19 ?_); go_must (refine wpL_loadF rfl 3 (.tmp 18) rfl g2 0 rfl (.int .i64 v.kind) HG2.out rfl Try.underlying3 rfl ?_); simp only [PT])
      | ((with_reducible refine sl 23 ?_); go_must (refine wpL_loadF rfl 4 (.tmp 22) rfl g2 1 rfl (.bool v.big) HG2.out rfl Try.underlying4 rfl ?_); simp only [PT])
      | ((with_reducible refine sl 27 ?_); go_must (refine wpL_loadF rfl 22 (.tmp 26) rfl g2 2 rfl (.int .u32 (v.type : Int)) HG2.out rfl Try.underlying22 rfl ?_); simp only [PT])
      | (go_at_call 46; go_must (refine (HTO.out _).mono ?_); intro e w7 hr; obtain ⟨rfl, hb__⟩ := hr; have hE__ := cU HB bup hb__; replace HB := ck HB hE__; replace HG2 := ck HG2 hE__; clear hE__; clear hb__)
      | (go_at_call 42; go_must (refine (blkSize_any v _ (HV.out.below (HB.out.trans (Below.mono bup HB.out.size))) HF.out).mono ?_); intro e w8 hr; rw [← HS.out] at hr; obtain ⟨rfl, hb__⟩ := hr; have hE__ := cU HB bup hb__; replace HB := ck HB hE__; replace HG2 := ck HG2 hE__; clear hE__; clear hb__)
      | (go_at_call 47; (with_reducible show Calls _ _ #[Value.int .u64 (s : Int), _, _] _ _); go_must (refine (put_any s 4 _ _ (by omega)).mono ?_); intro e w9 hr; rw [← HPS.out] at hr; unfold RetB at hr; obtain ⟨ad9, c9, rfl, ho9, hb__⟩ := hr; have H9 := Lib.hid (Bs.of_own ho9); have hE__ := cU HB bup hb__; replace HB := ck HB hE__; replace HG2 := ck HG2 hE__; clear hE__; have HE := Lib.hid (Below.refl w9.heap.size w9); clear hb__ ho9)
      | (go_at_call 47; go_must (refine (put_any T 4 _ _ (by omega)).mono ?_); intro e w10 hr; rw [← HPT.out] at hr; unfold RetB at hr; obtain ⟨ad10, c10, rfl, ho10, hb__⟩ := hr; replace HE := cE0 HE bup hb__; have HO := Lib.hid (own_base (base' := w9.heap.size) ho10 (bsz bup)); clear hb__ ho10)
      | ((with_reducible refine sl 38 ?_); go_must (refine wpL_append elB rfl (.tmp 36) (.tmp 37) rfl w9.heap.size rfl (own_keep HO.out bup) rfl (H9.out.below (HE.out.trans (Below.mono bup HE.out.size))) (BV_one _) (by unfold maxLen; omega) (by omega) (Nat.le_trans HE.out.size (bsz bup)) ?_); intro ad11 c11 w11 hown__ hgr__ _ _; rw [← BV_append] at hown__; replace HE := cEa HE bup hgr__ (ownBlock_ge HO.out); clear HO; have HO := Lib.hid hown__; clear hown__ hgr__; simp only [PT])
      | ((with_reducible refine sl 40 ?_); go_must (refine wpL_load rfl 27 (.tmp 2) rfl g2 0 rfl v.cells _ (range_block (((HE.out.trans (Below.mono bup HE.out.size)).block _ (lt_of_block HG2.out)).trans HG2.out)) Try.underlying27 rfl HBI.out ?_); simp only [PT])
      | (go_at_call 48; go_must (refine (body_any v _ _ (HV.out.below ((HB.out.trans (HE.out.mono HB.out.size)).trans (Below.mono bup (Nat.le_trans HB.out.size HE.out.size)))) HF.out HM.out.symm HWF.out).mono ?_); intro e w12 hr; rw [← HBD.out] at hr; obtain ⟨⟨ad12, c12, rfl, h12⟩, hb__⟩ := hr; have H12 := Lib.hid h12; clear h12; replace HO := cOa HO bup hb__; replace HE := cE0 HE bup hb__; clear hb__)
      | ((with_reducible refine sl 43 ?_); go_must (refine wpL_append elB rfl (.tmp 39) (.tmp 42) rfl w9.heap.size rfl (own_keep HO.out bup) rfl (H12.out.below bup) (BV_one _) (by unfold maxLen; omega) (by omega) (Nat.le_trans HE.out.size (bsz bup)) ?_); intro ad13 c13 w13 hown__ hgr__ _ _; rw [← BV_append] at hown__; replace HE := cEa HE bup hgr__ (ownBlock_ge HO.out); clear HO; have HO := Lib.hid hown__; clear hown__ hgr__; simp only [PT])
      | ((with_reducible refine sl 46 ?_); go_must (refine wpL_append elB rfl (.tmp 44) (.tmp 45) rfl w9.heap.size rfl (own_keep HO.out bup) rfl (H9.out.below (HE.out.trans (Below.mono bup HE.out.size))) (BV_one _) (by unfold maxLen; omega) (by omega) (Nat.le_trans HE.out.size (bsz bup)) ?_); intro ad14 c14 w14 hown__ hgr__ _ _; rw [← BV_append] at hown__; replace HE := cEa HE bup hgr__ (ownBlock_ge HO.out); clear HO; have HO := Lib.hid hown__; clear hown__ hgr__; simp only [PT]))
    go_ret2
    refine ⟨HB.out.trans (HE.out.mono HB.out.size), .inr (.inr ⟨HRR.out.symm, ad14, c14, ?_, ?_⟩)⟩
    · rw [HFIN.out]; simp only [List.length_append]; rfl
    · rw [HFIN.out]; simp only [List.length_append]; exact own_base HO.out HB.out.size
end Go.Proofs.Ytmfplinbbcoahaa
/-
  Chapter 26: a number read at a place (a closure over variables), walked.
-/
namespace Go.Proofs.Ytmfplinbbcoahaa
open Go.RowKit Go.Sort
set_option linter.unusedVariables false
set_option linter.unusedSimpArgs false

set_option maxRecDepth 100000 in
set_option maxHeartbeats 2000000 in
theorem num1_any (g4 g5 : Nat) (ad : Option Addr) (n c : Nat) (l : List UInt8) (big : Bool) (k m : Nat) (hkm : k + m ≤ n) (hn : n ≤ 4000000000) (w : World) (h4 : w.heap[g4]? = some (.cells #[.slice ad n c] 24 (0, 0))) (h5 : w.heap[g5]? = some (.cells #[.bool big] 4 (0, 0))) (hs : Bs w ad n c l) :
    Calls Try.prog 82 #[.int .i64 (k : Int), .int .i64 (m : Int), .pointer (some ⟨g4, 0, none⟩), .pointer (some ⟨g5, 0, none⟩)] w fun e w' => e = .returned (.int .u64 (getN ((l.drop k).take m) big)) ∧ Below w.heap.size w w' := by
  have HS := Lib.hid hs
  have hc := hs.le
  have HG4 := Lib.hid h4
  have HG5 := Lib.hid h5
  have HB := Lib.hid (Below.refl w.heap.size w)
  obtain ⟨q, hq⟩ : ∃ q, q = k + m := ⟨_, rfl⟩
  have hqi : (k : Int) + (m : Int) = (q : Int) := by omega
  have hqw : IntKind.i64.wrap ((k : Int) + (m : Int)) = (q : Int) := by rw [IntKind.wrap_i64]; omega
  have hqv : IntKind.i64.wrap (q : Int) = (q : Int) := by rw [IntKind.wrap_i64]; omega
  have hqk : Hid (q - k = m) := Lib.hid (by omega)
  have hkq : k ≤ q := by omega
  have hqn : q ≤ n := by omega
  obtain ⟨R, hR⟩ : ∃ R, R = getN ((l.drop k).take m) big := ⟨_, rfl⟩
  rw [← hR]
  have HR := Lib.hid hR
  obtain ⟨adq, hadq⟩ : ∃ a, a = subAd ad c k 1 := ⟨_, rfl⟩
  have HA := Lib.hid hadq
  have HQ := Lib.hid (show Bs w adq (q - k) (c - k) ((l.drop k).take m) from by rw [hadq, ← hqk.out]; exact Bs.part hs k q hkq hqn)
  clear hs h4 h5 hq hR hadq hkm
  go_enter Try.func82, Try.ntmps82
  go_wp2_with fail
  refine wp_region_held_drew (S := fun v => v.cell? ⟨g4, 0, none⟩ = some (.slice ad n c) ∧ v.cell? ⟨g5, 0, none⟩ = some (.bool big)) (by kernel_rfl) ?_ (fun hHeld => ?_)
  focus (exact ⟨cell_of_one HG4.out, cell_of_one HG5.out⟩)
  refine' tk 0 (oi := ⟨some 7, _, _, _, _, _⟩) (v := (.slice ad n c)) rfl (by kernel_rfl) (.inl ⟨by rfl, ?_⟩) hHeld ?_; focus (intro w hSw; (try dsimp only at hSw); go_simp; first | done | rfl | (simp [*]; done) | (simp [*]; omega))
  simp only [PT]
  refine tk 1 (oi := ⟨some 8, _, _, _, _, _⟩) (v := ?_) rfl (by kernel_rfl) (.inl ⟨by rfl, ?_⟩) hHeld ?_; rotate_left; focus (intro w hSw; (try dsimp only at hSw); go_simp; try with_reducible rfl)
  simp only [PT]
  refine tk 2 (oi := ⟨some 9, _, _, _, _, _⟩) (v := ?_) rfl (by kernel_rfl) (.inl ⟨by rfl, ?_⟩) hHeld ?_; rotate_left; focus (intro w hSw; (try dsimp only at hSw); go_simp; try with_reducible rfl)
  simp only [PT]
  refine tk 3 (oi := ⟨some 10, _, _, _, _, _⟩) (v := ?_) rfl (by kernel_rfl) (.inl ⟨by rfl, ?_⟩) hHeld ?_; rotate_left; focus (intro w hSw; (try dsimp only at hSw); go_simp; try with_reducible rfl)
  simp only [PT]
  refine' tk 4 (oi := ⟨some 11, _, _, _, _, _⟩) (v := (.int .i64 (q : Int))) rfl (by kernel_rfl) (.inl ⟨by rfl, ?_⟩) hHeld ?_; focus (intro w hSw; (try dsimp only at hSw); go_simp; first | done | rfl | (simp [*]; done) | (simp [*]; omega))
  simp only [PT]
  refine' tk 5 (oi := ⟨some 12, _, _, _, _, _⟩) (v := _) rfl (by kernel_rfl) (yields_slice elB rfl (.tmp 7) (some (.tmp 8)) (some (.tmp 11)) rfl rfl k q (.inr ⟨.i64, rfl⟩) (.inr ⟨.i64, rfl⟩) hkq (by omega)) hHeld ?_
  simp only [PT]
  refine' tk 6 (oi := ⟨some 13, _, _, _, _, _⟩) (v := (.bool big)) rfl (by kernel_rfl) (.inl ⟨by rfl, ?_⟩) hHeld ?_; focus (intro w hSw; (try dsimp only at hSw); go_simp; first | done | rfl | (simp [*]; done) | (simp [*]; omega))
  simp only [PT]
  refine wpAnyH_ready (rs := [7]) (by kernel_rfl) (by simp) ?_
  refine (AllReadyH.cons (o := ⟨some 14, _, _, _, _, _⟩) rfl (fun K hK => ?_) AllReadyH.nil)
  focus (go_simp; go_must (rw [← HA.out]); go_must (refine (get_any adq (q - k) (c - k) ((l.drop k).take m) big _ (HQ.out.below bup)).mono ?_); intro e w5 hr; unfold RetN at hr; rw [← HR.out] at hr; obtain ⟨rfl, hb5⟩ := hr; have hE__ := cU HB bup hb5; replace HB := ck HB hE__; replace HG4 := ck HG4 hE__; replace HG5 := ck HG5 hE__; clear hE__; clear hb5; go_wp2_with fail)
  refine hK.out _ _ ?_ (fun hHeld => ?_)
  focus (exact ⟨cell_of_one HG4.out, cell_of_one HG5.out⟩)
  clear hK K
  try simp only [PT]
  refine tk 8 (oi := ⟨some 6, _, _, _, _, _⟩) (v := ?_) rfl (by kernel_rfl) (.inl ⟨by rfl, ?_⟩) hHeld ?_; rotate_left; focus (intro w hSw; (try dsimp only at hSw); go_simp; try with_reducible rfl)
  simp only [PT]
  refine wpAnyH_done (by kernel_rfl) ?_ _
  all_goals
    go_wp2_with fail
    go_ret
    exact ⟨rfl, HB.out⟩
end Go.Proofs.Ytmfplinbbcoahaa
/-
  Chapter 26: a block's body read, kind by kind, walked (by genopen.py).
-/
namespace Go.Proofs.Ytmfplinbbcoahaa
open Go.RowKit Go.Sort
set_option linter.unusedVariables false
set_option linter.unusedSimpArgs false

/-- a block whose bytes and options are of a call's own (base or later) -/
def OwnBlk (base : Nat) (w : World) (v : BlkV) : Prop :=
  w.ownsRow base 5 1 (.slice v.dad v.dn v.dc) v.dn (BV v.dl) ∧ OwnOps 90 base w v.nad v.nn v.nc v.ns ∧ OwnOps 90 base w v.oad v.on v.oc v.os
theorem OwnBlk.blk {base : Nat} {w : World} {v : BlkV} (h : OwnBlk base w v) : Blk w v := ⟨Bs.of_own h.1, h.2.1.ops, h.2.2.ops⟩
theorem OwnBlk.keep {base : Nat} {w w' : World} {v : BlkV} (h : OwnBlk base w v) (hb : Below w.heap.size w w') : OwnBlk base w' v := ⟨own_keep h.1 hb, h.2.1.keep hb, h.2.2.keep hb⟩
theorem OwnBlk.base {base base' : Nat} {w : World} {v : BlkV} (h : OwnBlk base w v) (hb : base' ≤ base) : OwnBlk base' w v := ⟨own_base h.1 hb, h.2.1.base hb, h.2.2.base hb⟩
theorem cX1 {w w' : World} {base : Nat} {v : BlkV} (h : Hid (OwnBlk base w v)) (hE : Below w.heap.size w w') : Hid (OwnBlk base w' v) := Lib.hid (h.out.keep hE)
theorem cXg {w wd w1 : World} {base g : Nat} {v : BlkV} (h : Hid (OwnBlk base w v)) (hE : Below w.heap.size w wd) (hg : wd.grownBy w1 (some g)) (hb : g < base) : Hid (OwnBlk base w1 v) :=
  Lib.hid ⟨(cOg (Lib.hid h.out.1) hE hg hb).out, (cPg (Lib.hid h.out.2.1) hE hg hb).out, (cPg (Lib.hid h.out.2.2) hE hg hb).out⟩
instance {w w' : World} {base : Nat} {v : BlkV} : Ck (OwnBlk base w v) w' w (OwnBlk base w' v) := ⟨fun h hE => h.keep hE⟩
instance {w w1 : World} {base g : Nat} {v : BlkV} : Cg (OwnBlk base w v) w1 g w (g < base) (OwnBlk base w1 v) := ⟨fun wd h hE hg hs => (cXg (Lib.hid h) hE hg hs).out⟩
theorem own_nil (base : Nat) (w : World) (e : TypeId) (size : Nat) : w.ownsRow base e size (.slice none 0 0) 0 [] := World.ownsRow_nil _ _ _ _
theorem need_at1 (w : World) : (Instr.index 105 (.agg #[.int .i64 0, .int .i64 16, .int .i64 8, .int .i64 20, .int .i64 4, .int .i64 0, .int .i64 12, .int .i64 0]) (.int .i64 1)).run Try.prog w = .ok (.int .i64 16) w := by kernel_rfl
theorem need_at2 (w : World) : (Instr.index 105 (.agg #[.int .i64 0, .int .i64 16, .int .i64 8, .int .i64 20, .int .i64 4, .int .i64 0, .int .i64 12, .int .i64 0]) (.int .i64 2)).run Try.prog w = .ok (.int .i64 8) w := by kernel_rfl
theorem need_at3 (w : World) : (Instr.index 105 (.agg #[.int .i64 0, .int .i64 16, .int .i64 8, .int .i64 20, .int .i64 4, .int .i64 0, .int .i64 12, .int .i64 0]) (.int .i64 3)).run Try.prog w = .ok (.int .i64 20) w := by kernel_rfl
theorem need_at4 (w : World) : (Instr.index 105 (.agg #[.int .i64 0, .int .i64 16, .int .i64 8, .int .i64 20, .int .i64 4, .int .i64 0, .int .i64 12, .int .i64 0]) (.int .i64 4)).run Try.prog w = .ok (.int .i64 4) w := by kernel_rfl
theorem need_at5 (w : World) : (Instr.index 105 (.agg #[.int .i64 0, .int .i64 16, .int .i64 8, .int .i64 20, .int .i64 4, .int .i64 0, .int .i64 12, .int .i64 0]) (.int .i64 5)).run Try.prog w = .ok (.int .i64 0) w := by kernel_rfl
theorem need_at6 (w : World) : (Instr.index 105 (.agg #[.int .i64 0, .int .i64 16, .int .i64 8, .int .i64 20, .int .i64 4, .int .i64 0, .int .i64 12, .int .i64 0]) (.int .i64 6)).run Try.prog w = .ok (.int .i64 12) w := by kernel_rfl
theorem need_at7 (w : World) : (Instr.index 105 (.agg #[.int .i64 0, .int .i64 16, .int .i64 8, .int .i64 20, .int .i64 4, .int .i64 0, .int .i64 12, .int .i64 0]) (.int .i64 7)).run Try.prog w = .ok (.int .i64 0) w := by kernel_rfl
def noneV : BlkV := ⟨0, false, 0, 0, 0, 0, 0, 0, none, 0, 0, [], none, 0, 0, [], none, 0, 0, []⟩
/-- what open answers -/
def OpenR (ad : Option Addr) (n c : Nat) (l : List UInt8) (o : Option (PB × List UInt8)) (w : World) (e : Ending) (w' : World) : Prop :=
  ∃ v rad rn rc ok, e = .returned (.tuple #[.agg v.cells.toArray, .slice rad rn rc, .bool ok]) ∧ ok = o.isSome ∧
    (∀ x r, o = some (x, r) → v.val = x ∧ (∀ w0, Bs w0 ad n c l → Bs w0 rad rn rc r) ∧ OwnBlk w.heap.size w' v) ∧ Below w.heap.size w w'
set_option maxRecDepth 100000 in
set_option maxHeartbeats 8000000 in
theorem open2_short (ad : Option Addr) (n c : Nat) (l : List UInt8) (big : Bool) (w : World) (hs : Bs w ad n c l) (hn : n ≤ 1048576) (h : n < 8) :
    Calls Try.prog 59 #[.agg #[.int .i64 2, .bool false, .int .u32 0, .int .i64 0, .int .u32 0, .int .i64 0, .int .u64 0, .int .u32 0, .slice none 0 0, .slice none 0 0, .slice none 0 0], .slice ad n c, .bool big] w (OpenR ad n c l (openP 2 0 l big) w) := by
  have HB := Lib.hid (Below.refl w.heap.size w)
  have HS := Lib.hid hs
  have HBI := Lib.hid blk_info
  have hc := hs.le
  have HN := Lib.hid hs.len
  clear hs
  have hi : (n : Int) < 8 := by omega
  have HO := Lib.hid (show openP 2 0 l big = none from by have := HN.out; unfold openP; simp [show l.length < 8 by omega])
  clear h
  go_enter Try.func59, Try.ntmps59
  go_wp2_with (first
    | ((with_reducible refine sl 3 ?_); go_must (refine wpL_boxG rfl 27 (.tmp 0) rfl #[.int .i64 2, .bool false, .int .u32 0, .int .i64 0, .int .u32 0, .int .i64 0, .int .u64 0, .int .u32 0, .slice none 0 0, .slice none 0 0, .slice none 0 0] rfl ?_); intro w1 g3 he__ le_g3 lt_g3 hg__ hb__; have HG3 := Lib.hid hg__; have hE__ := cU HB bup hb__; replace HB := ck HB hE__; clear hE__; clear hg__ hb__ he__; simp only [PT])
    | ((with_reducible refine sl 4 ?_); go_must (refine wpL_boxG rfl 24 (.tmp 1) rfl #[.slice ad n c] rfl ?_); intro w2 g4 he__ le_g4 lt_g4 hg__ hb__; have HG4 := Lib.hid hg__; have hE__ := cU HB bup hb__; replace HB := ck HB hE__; replace HG3 := ck HG3 hE__; clear hE__; clear hg__ hb__ he__; simp only [PT])
    | ((with_reducible refine sl 5 ?_); go_must (refine wpL_boxG rfl 4 (.tmp 2) rfl #[.bool big] rfl ?_); intro w3 g5 he__ le_g5 lt_g5 hg__ hb__; have HG5 := Lib.hid hg__; have hE__ := cU HB bup hb__; replace HB := ck HB hE__; replace HG3 := ck HG3 hE__; replace HG4 := ck HG4 hE__; clear hE__; clear hg__ hb__ he__; simp only [PT])
    | ((with_reducible refine sl 6 ?_); go_must (refine wpL_allocG rfl 27 rfl (.agg #[.int .i64 0, .bool false, .int .u32 0, .int .i64 0, .int .u32 0, .int .i64 0, .int .u64 0, .int .u32 0, .slice none 0 0, .slice none 0 0, .slice none 0 0]) #[.int .i64 0, .bool false, .int .u32 0, .int .i64 0, .int .u32 0, .int .i64 0, .int .u64 0, .int .u32 0, .slice none 0 0, .slice none 0 0, .slice none 0 0] 11 (by kernel_rfl) rfl ?_); intro w4 g6 he__ le_g6 lt_g6 hg__ hb__; have HG6 := Lib.hid hg__; have hE__ := cU HB bup hb__; replace HB := ck HB hE__; replace HG3 := ck HG3 hE__; replace HG4 := ck HG4 hE__; replace HG5 := ck HG5 hE__; clear hE__; clear hg__ hb__ he__; simp only [PT])
    | ((with_reducible refine sl 19 ?_); go_must (refine wpL_index rfl (.tmp 16) (.tmp 18) rfl _ _ rfl rfl (.int .i64 8) need_at2 ?_); simp only [PT])
    | ((with_reducible refine sl 18 ?_); go_must (refine wpL_loadF rfl 3 (.tmp 17) rfl g3 0 rfl (.int .i64 2) HG3.out rfl Try.underlying3 rfl ?_); simp only [PT])
    | ((with_reducible refine sl 20 ?_); go_must (refine wpL_loadF rfl 24 (.tmp 4) rfl g4 0 rfl (.slice ad n c) HG4.out rfl Try.underlying24 rfl ?_); simp only [PT])
    | ((with_reducible refine sl 30 ?_); go_must (refine wpL_loadF rfl 3 (.tmp 29) rfl g3 0 rfl (.int .i64 2) HG3.out rfl Try.underlying3 rfl ?_); simp only [PT])
    | ((with_reducible refine sl 26 ?_); go_must (refine wpL_loadF rfl 24 (.tmp 4) rfl g4 0 rfl (.slice ad n c) HG4.out rfl Try.underlying24 rfl ?_); simp only [PT])
    | ((with_reducible refine sl 24 ?_); go_must (refine wpL_load rfl 27 (.tmp 3) rfl g3 0 rfl [.int .i64 2, .bool false, .int .u32 0, .int .i64 0, .int .u32 0, .int .i64 0, .int .u64 0, .int .u32 0, .slice none 0 0, .slice none 0 0, .slice none 0 0] _ (range_block HG3.out) Try.underlying27 rfl HBI.out ?_); simp only [PT])
    | ((with_reducible show wpList _ _ _ (⟨none, .store _ (.tmp 6) (.tmp 24), _, _, _, _⟩ :: _) _ _); go_must (refine wpL_storeRow rfl 27 (.tmp 6) (.tmp 24) rfl g6 #[.int .i64 2, .bool false, .int .u32 0, .int .i64 0, .int .u32 0, .int .i64 0, .int .u64 0, .int .u32 0, .slice none 0 0, .slice none 0 0, .slice none 0 0] rfl rfl HG6.out HBI.out rfl (all1 _ rfl) ?_); intro w9 hs__ hr__; replace HB := cg HB bup hr__ (by omega); replace HG3 := cg HG3 bup hr__ (by omega); clear HG6; have HG6 := Lib.hid hs__; clear hs__ hr__; simp only [PT]))
  all_goals
    (try simp only [Exit.inBlock, Exit.then, Exit.noGoto_ret])
    refine bodyPost_cell1x (cs := [.int .i64 2, .bool false, .int .u32 0, .int .i64 0, .int .u32 0, .int .i64 0, .int .u64 0, .int .u32 0, .slice none 0 0, .slice none 0 0, .slice none 0 0]) rfl rfl (range_block HG6.out) Try.underlying27 rfl HBI.out rfl ?_
    exact ⟨⟨2, false, 0, 0, 0, 0, 0, 0, none, 0, 0, [], none, 0, 0, [], none, 0, 0, []⟩, none, 0, 0, false, rfl, by rw [HO.out]; rfl, fun x r h => absurd (HO.out.symm.trans h) (by simp), HB.out⟩

set_option maxRecDepth 100000 in
set_option maxHeartbeats 8000000 in
theorem open2_ok (ad : Option Addr) (n c : Nat) (l : List UInt8) (big : Bool) (w : World) (hs : Bs w ad n c l) (hn : n ≤ 1048576) (h : 8 ≤ n) :
    Calls Try.prog 59 #[.agg #[.int .i64 2, .bool false, .int .u32 0, .int .i64 0, .int .u32 0, .int .i64 0, .int .u64 0, .int .u32 0, .slice none 0 0, .slice none 0 0, .slice none 0 0], .slice ad n c, .bool big] w (OpenR ad n c l (openP 2 0 l big) w) := by
  have HB := Lib.hid (Below.refl w.heap.size w)
  have HS := Lib.hid hs
  have HBI := Lib.hid blk_info
  have hc := hs.le
  have HN := Lib.hid hs.len
  clear hs
  have hi : ¬ (n : Int) < 8 := by omega
  obtain ⟨L0, hL0⟩ : ∃ x, x = getN ((l.drop 0).take 2) big := ⟨_, rfl⟩
  have bL0 : L0 < 65536 := by rw [hL0]; exact w2_lt big l 0
  have HL0 := Lib.hid hL0
  clear hL0
  obtain ⟨S4, hS4⟩ : ∃ x, x = getN ((l.drop 4).take 4) big := ⟨_, rfl⟩
  have bS4 : S4 < 4294967296 := by rw [hS4]; exact w4_lt big l 4
  have HS4 := Lib.hid hS4
  clear hS4
  have e1 : IntKind.i64.wrap (L0 : Int) = (L0 : Int) := by rw [IntKind.wrap_i64]; omega
  have e2 : IntKind.u32.wrap (S4 : Int) = (S4 : Int) := by rw [IntKind.wrap_u32]; omega
  have HO : Hid (openP 2 0 l big = some ({ noneB with kind := 2, link := (L0 : Int), snap := S4 }, l.drop 8)) := Lib.hid (by rw [HL0.out, HS4.out]; have := HN.out; unfold openP; rw [if_neg (by decide), if_pos rfl, if_neg (by omega)]; rfl)
  clear HN
  go_enter Try.func59, Try.ntmps59
  go_wp2_with (first
    | ((with_reducible refine sl 3 ?_); go_must (refine wpL_boxG rfl 27 (.tmp 0) rfl #[.int .i64 2, .bool false, .int .u32 0, .int .i64 0, .int .u32 0, .int .i64 0, .int .u64 0, .int .u32 0, .slice none 0 0, .slice none 0 0, .slice none 0 0] rfl ?_); intro w1 g3 he__ le_g3 lt_g3 hg__ hb__; have HG3 := Lib.hid hg__; have hE__ := cU HB bup hb__; replace HB := ck HB hE__; clear hE__; clear hg__ hb__ he__; simp only [PT])
    | ((with_reducible refine sl 4 ?_); go_must (refine wpL_boxG rfl 24 (.tmp 1) rfl #[.slice ad n c] rfl ?_); intro w2 g4 he__ le_g4 lt_g4 hg__ hb__; have HG4 := Lib.hid hg__; have hE__ := cU HB bup hb__; replace HB := ck HB hE__; replace HG3 := ck HG3 hE__; clear hE__; clear hg__ hb__ he__; simp only [PT])
    | ((with_reducible refine sl 5 ?_); go_must (refine wpL_boxG rfl 4 (.tmp 2) rfl #[.bool big] rfl ?_); intro w3 g5 he__ le_g5 lt_g5 hg__ hb__; have HG5 := Lib.hid hg__; have hE__ := cU HB bup hb__; replace HB := ck HB hE__; replace HG3 := ck HG3 hE__; replace HG4 := ck HG4 hE__; clear hE__; clear hg__ hb__ he__; simp only [PT])
    | ((with_reducible refine sl 6 ?_); go_must (refine wpL_allocG rfl 27 rfl (.agg #[.int .i64 0, .bool false, .int .u32 0, .int .i64 0, .int .u32 0, .int .i64 0, .int .u64 0, .int .u32 0, .slice none 0 0, .slice none 0 0, .slice none 0 0]) #[.int .i64 0, .bool false, .int .u32 0, .int .i64 0, .int .u32 0, .int .i64 0, .int .u64 0, .int .u32 0, .slice none 0 0, .slice none 0 0, .slice none 0 0] 11 (by kernel_rfl) rfl ?_); intro w4 g6 he__ le_g6 lt_g6 hg__ hb__; have HG6 := Lib.hid hg__; have hE__ := cU HB bup hb__; replace HB := ck HB hE__; replace HG3 := ck HG3 hE__; replace HG4 := ck HG4 hE__; replace HG5 := ck HG5 hE__; clear hE__; clear hg__ hb__ he__; simp only [PT])
    | ((with_reducible refine sl 19 ?_); go_must (refine wpL_index rfl (.tmp 16) (.tmp 18) rfl _ _ rfl rfl (.int .i64 8) need_at2 ?_); simp only [PT])
    | ((with_reducible refine sl 18 ?_); go_must (refine wpL_loadF rfl 3 (.tmp 17) rfl g3 0 rfl (.int .i64 2) HG3.out rfl Try.underlying3 rfl ?_); simp only [PT])
    | ((with_reducible refine sl 20 ?_); go_must (refine wpL_loadF rfl 24 (.tmp 4) rfl g4 0 rfl (.slice ad n c) HG4.out rfl Try.underlying24 rfl ?_); simp only [PT])
    | ((with_reducible refine sl 30 ?_); go_must (refine wpL_loadF rfl 3 (.tmp 29) rfl g3 0 rfl (.int .i64 2) HG3.out rfl Try.underlying3 rfl ?_); simp only [PT])
    | ((with_reducible refine sl 26 ?_); go_must (refine wpL_loadF rfl 24 (.tmp 4) rfl g4 0 rfl (.slice ad n c) HG4.out rfl Try.underlying24 rfl ?_); simp only [PT])
    | ((with_reducible refine sl 28 ?_); go_must (refine wpL_slice elB rfl (.tmp 26) (some (.tmp 27)) none rfl rfl 8 n (.inr ⟨.i64, rfl⟩) (.inl ⟨rfl, rfl⟩) (by omega) (by omega) ?_); intro ad28 had28; have HRG := Lib.hid (show ∀ w0, Bs w0 ad n c l → Bs w0 ad28 (n - 8) (c - 8) (l.drop 8) from fun w0 h0 => by rw [had28.out]; exact Bs.drop8 h0 8 (by omega)); clear had28; simp only [PT])
    | (go_at_call 82; (with_reducible show Calls _ _ #[Value.int .i64 0, Value.int .i64 2, _, _] _ _); go_must (refine (num1_any g4 g5 ad n c l big 0 2 (by omega) (by omega) _ (by exact HG4.out) (by exact HG5.out) (HS.out.below (HB.out.trans (Below.mono bup HB.out.size)))).mono ?_); intro e w5 hr; rw [← HL0.out] at hr; obtain ⟨rfl, hb__⟩ := hr; have hE__ := cU HB bup hb__; replace HB := ck HB hE__; replace HG3 := ck HG3 hE__; replace HG4 := ck HG4 hE__; replace HG5 := ck HG5 hE__; replace HG6 := ck HG6 hE__; clear hE__; clear hb__)
    | (go_at_call 82; (with_reducible show Calls _ _ #[Value.int .i64 4, Value.int .i64 4, _, _] _ _); go_must (refine (num1_any g4 g5 ad n c l big 4 4 (by omega) (by omega) _ (by exact HG4.out) (by exact HG5.out) (HS.out.below (HB.out.trans (Below.mono bup HB.out.size)))).mono ?_); intro e w6 hr; rw [← HS4.out] at hr; obtain ⟨rfl, hb__⟩ := hr; have hE__ := cU HB bup hb__; replace HB := ck HB hE__; replace HG3 := ck HG3 hE__; replace HG4 := ck HG4 hE__; replace HG5 := ck HG5 hE__; replace HG6 := ck HG6 hE__; clear hE__; clear hb__)
    | ((with_reducible show wpList _ _ _ (⟨none, .store _ (.tmp 51) (.tmp 47), _, _, _, _⟩ :: _) _ _); go_must (refine wpL_storeF rfl 3 (.tmp 51) (.tmp 47) rfl g3 3 (.int .i64 (L0 : Int)) rfl rfl rfl HG3.out (by simp) (by kernel_rfl) #[.int .i64 2, .bool false, .int .u32 0, .int .i64 (L0 : Int), .int .u32 0, .int .i64 0, .int .u64 0, .int .u32 0, .slice none 0 0, .slice none 0 0, .slice none 0 0] rfl ?_); intro w7 hs__ hr__; replace HB := cg HB bup hr__ (by omega); replace HG4 := cg HG4 bup hr__ (by omega); replace HG5 := cg HG5 bup hr__ (by omega); replace HG6 := cg HG6 bup hr__ (by omega); clear HG3; have HG3 := Lib.hid hs__; clear hs__ hr__; simp only [PT])
    | ((with_reducible show wpList _ _ _ (⟨none, .store _ (.tmp 52) (.tmp 50), _, _, _, _⟩ :: _) _ _); go_must (refine wpL_storeF rfl 22 (.tmp 52) (.tmp 50) rfl g3 4 (.int .u32 (S4 : Int)) rfl rfl rfl HG3.out (by simp) (by kernel_rfl) #[.int .i64 2, .bool false, .int .u32 0, .int .i64 (L0 : Int), .int .u32 (S4 : Int), .int .i64 0, .int .u64 0, .int .u32 0, .slice none 0 0, .slice none 0 0, .slice none 0 0] rfl ?_); intro w8 hs__ hr__; replace HB := cg HB bup hr__ (by omega); replace HG4 := cg HG4 bup hr__ (by omega); replace HG5 := cg HG5 bup hr__ (by omega); replace HG6 := cg HG6 bup hr__ (by omega); clear HG3; have HG3 := Lib.hid hs__; clear hs__ hr__; simp only [PT])
    | ((with_reducible refine sl 146 ?_); go_must (refine wpL_load rfl 27 (.tmp 3) rfl g3 0 rfl [.int .i64 2, .bool false, .int .u32 0, .int .i64 (L0 : Int), .int .u32 (S4 : Int), .int .i64 0, .int .u64 0, .int .u32 0, .slice none 0 0, .slice none 0 0, .slice none 0 0] _ (range_block HG3.out) Try.underlying27 rfl HBI.out ?_); simp only [PT])
    | ((with_reducible show wpList _ _ _ (⟨none, .store _ (.tmp 6) (.tmp 146), _, _, _, _⟩ :: _) _ _); go_must (refine wpL_storeRow rfl 27 (.tmp 6) (.tmp 146) rfl g6 #[.int .i64 2, .bool false, .int .u32 0, .int .i64 (L0 : Int), .int .u32 (S4 : Int), .int .i64 0, .int .u64 0, .int .u32 0, .slice none 0 0, .slice none 0 0, .slice none 0 0] rfl rfl HG6.out HBI.out rfl (all1 _ rfl) ?_); intro w9 hs__ hr__; replace HB := cg HB bup hr__ (by omega); replace HG3 := cg HG3 bup hr__ (by omega); clear HG6; have HG6 := Lib.hid hs__; clear hs__ hr__; simp only [PT]))
  all_goals
    (try simp only [Exit.inBlock, Exit.then, Exit.noGoto_ret])
    refine bodyPost_cell1x (cs := [.int .i64 2, .bool false, .int .u32 0, .int .i64 (L0 : Int), .int .u32 (S4 : Int), .int .i64 0, .int .u64 0, .int .u32 0, .slice none 0 0, .slice none 0 0, .slice none 0 0]) rfl rfl (range_block HG6.out) Try.underlying27 rfl HBI.out rfl ?_
    refine ⟨⟨2, false, 0, (L0 : Int), S4, 0, 0, 0, none, 0, 0, [], none, 0, 0, [], none, 0, 0, []⟩, ad28, (n - 8), (c - 8), true, rfl, by rw [HO.out]; rfl, fun x r h => ?_, HB.out⟩
    have hh := HO.out.symm.trans h
    simp only [Option.some.injEq, Prod.mk.injEq] at hh
    obtain ⟨rfl, rfl⟩ := hh
    refine ⟨rfl, HRG.out, own_nil _ _ _ _, OwnOps.nil _ _ _, OwnOps.nil _ _ _⟩
end Go.Proofs.Ytmfplinbbcoahaa
