/-
  Joined by program (merge.py): RefBlk1, RB1, RB2, RB3.
-/
import Derived.Test.YtmfplinbbcoahaaM2
import Derived.Test.YtmfplinbbcoahaaM4
import Derived.Test.YtmfplinbbcoahaaM8
import Derived.Test.YtmfplinbbcoahaaM9
import Derived.Test.YtmfplinbbcoahaaM10
import Derived.Test.YtmfplinbbcoahaaM17
/-
  Chapter 26: the reference's four bytes and time, walked.
-/
namespace Go.Proofs.Ytmfplinbbcoahaa
open Go.RowKit Go.Sort
set_option linter.unusedVariables false
set_option linter.unusedSimpArgs false

set_option maxRecDepth 100000 in
set_option maxHeartbeats 4000000 in
theorem four_any (base : Nat) (ad : Option Addr) (c : Nat) (l : List UInt8) (N : Nat) (big : Bool) (w : World) (hN : N ≤ 18446744073709551615) (hl : l.length ≤ 4000000) (ho : w.ownsRow base 5 1 (.slice ad l.length c) l.length (BV l)) (hb : base ≤ w.heap.size) :
    Calls Try.prog 52 #[.slice ad l.length c, .int .u64 N, .bool big] w fun e w' => (∃ ad' c', e = .returned (.slice ad' (l ++ putL N 4 big).length c') ∧ w'.ownsRow base 5 1 (.slice ad' (l ++ putL N 4 big).length c') (l ++ putL N 4 big).length (BV (l ++ putL N 4 big))) ∧ Below base w w' := by
  have HO := Lib.hid ho
  obtain ⟨P, hP⟩ : ∃ P, P = putL N 4 big := ⟨_, rfl⟩
  rw [← hP]
  have hPl : P.length ≤ 4 := by rw [hP, putL4_length]; omega
  have HP := Lib.hid hP
  clear ho hP
  go_enter Try.func52, Try.ntmps52
  go_wp2_with (first
    | (go_at_call 53; go_must (refine (refPut_any N 4 big _ (by omega)).mono ?_); intro e w3 hr; rw [← HP.out] at hr; unfold RetB at hr; obtain ⟨ad3, c3, rfl, ho3, hb3⟩ := hr; go_must (have H3 := Lib.hid (Bs.of_own ho3)); have HB3 := Lib.hid hb3; go_must (have HO3 := Lib.hid (own_keep HO.out hb3)); clear ho3 hb3)
    | ((with_reducible refine sl 11 ?_); go_must (refine wpL_append elB rfl (.tmp 7) (.tmp 10) rfl base rfl HO3.out rfl H3.out (BV_one _) (by unfold maxLen; omega) (by omega) (Nat.le_trans hb HB3.out.size) ?_); intro ad4 c4 w4 hown hgr _ _; have HB4 := Lib.hid ((HB3.out.mono hb).grown hgr (Nat.le_trans hb HB3.out.size) (ownBlock_ge HO3.out)); rw [← BV_append] at hown; have HO4 := Lib.hid hown; clear hown hgr; simp only [PT]))
  go_ret
  refine ⟨⟨ad4, c4, ?_, ?_⟩, HB4.out⟩
  · rw [List.length_append]
    rfl
  · rw [List.length_append]
    exact HO4.out
set_option maxRecDepth 100000 in
theorem four_int (base : Nat) (ad : Option Addr) (n c : Nat) (l : List UInt8) (z : Int) (N : Nat) (hz : z = (N : Int)) (big : Bool) (w : World) (hN : N ≤ 18446744073709551615) (hl : l.length ≤ 4000000) (hn : n = l.length) (ho : w.ownsRow base 5 1 (.slice ad l.length c) l.length (BV l)) (hb : base ≤ w.heap.size) :
    Calls Try.prog 52 #[.slice ad n c, .int .u64 z, .bool big] w fun e w' => (∃ ad' c', e = .returned (.slice ad' (l ++ putL N 4 big).length c') ∧ w'.ownsRow base 5 1 (.slice ad' (l ++ putL N 4 big).length c') (l ++ putL N 4 big).length (BV (l ++ putL N 4 big))) ∧ Below base w w' := by
  subst hz
  subst hn
  exact four_any base ad c l N big w hN hl ho hb

set_option maxRecDepth 100000 in
set_option maxHeartbeats 4000000 in
theorem refTime_any (base : Nat) (ad : Option Addr) (c : Nat) (l : List UInt8) (N : Nat) (big : Bool) (w : World) (hN : N ≤ 18446744073709551615) (hl : l.length ≤ 3000000) (ho : w.ownsRow base 5 1 (.slice ad l.length c) l.length (BV l)) (hb : base ≤ w.heap.size) :
    Calls Try.prog 54 #[.slice ad l.length c, .int .u64 N, .bool big] w fun e w' => (∃ ad' c', e = .returned (.slice ad' (l ++ timeB big N).length c') ∧ w'.ownsRow base 5 1 (.slice ad' (l ++ timeB big N).length c') (l ++ timeB big N).length (BV (l ++ timeB big N))) ∧ Below base w w' := by
  have HO := Lib.hid ho
  obtain ⟨L1, hL1⟩ : ∃ L, L = l ++ putL (N / 4294967296) 4 big := ⟨_, rfl⟩
  have hn1 : L1.length ≤ l.length + 4 := by rw [hL1, List.length_append, putL4_length]; exact Nat.le_refl _
  have HL1 := Lib.hid hL1
  have HE : Hid (l ++ timeB big N = L1 ++ putL (N % 4294967296) 4 big) := Lib.hid (by rw [hL1]; unfold timeB; rw [List.append_assoc])
  clear ho hL1
  go_enter Try.func54, Try.ntmps54
  go_wp2_with (first
    | (go_at_call 52; (with_reducible show Calls _ _ #[Value.slice ad l.length c, _, _] _ _); go_must (refine (four_int base ad l.length c l _ (N / 4294967296) (by simp <;> omega) big _ (by omega) (by omega) rfl HO.out hb).mono ?_); intro e w3 hr; rw [← HL1.out] at hr; obtain ⟨⟨ad3, c3, rfl, ho3⟩, hb3⟩ := hr; have HO3 := Lib.hid ho3; have HB3 := Lib.hid hb3; have HD := Lib.hid (Nat.le_trans hb hb3.size); clear ho3 hb3 HO)
    | (go_at_call 52; go_must (refine (four_int base ad3 L1.length c3 L1 _ (N % 4294967296) (by simp <;> omega) big _ (by omega) (by omega) rfl HO3.out HD.out).mono ?_); intro e w4 hr; rw [← HE.out] at hr; obtain ⟨⟨ad4, c4, rfl, ho4⟩, hb4⟩ := hr; have HO4 := Lib.hid ho4; have HB4 := Lib.hid (HB3.out.trans (hb4.mono (Nat.le_refl _))); clear ho4 hb4))
  go_ret
  exact ⟨⟨ad4, c4, by rw [List.length_append]; rfl, HO4.out⟩, HB4.out⟩
end Go.Proofs.Ytmfplinbbcoahaa
/-
  Chapter 26: a block laid by the document, kind by kind, walked (by genrefb.py).
-/
namespace Go.Proofs.Ytmfplinbbcoahaa
open Go.RowKit Go.Sort
set_option linter.unusedVariables false
set_option linter.unusedSimpArgs false

set_option maxRecDepth 100000 in
set_option maxHeartbeats 8000000 in
theorem refBytes1 (v : BlkV) (big : Bool) (w : World) (hv : Blk w v) (hk : v.kind = 1) (hf : SmB v) (hm : mayP v.val = true) (hw : wfB v.val) :
    Calls Try.prog 25 #[.agg v.cells.toArray, .bool big] w (RetB 5 (bytesB big v.val) w) := by
  obtain ⟨z1, z2, z3⟩ := hf.sizes
  obtain ⟨_, hfit, hlink, hifc, hwo, hwn, hlast⟩ := (mayP_iff v.val).1 hm
  obtain ⟨hw1, hw2, hw3, hw4'⟩ := hw
  change 0 ≤ v.link ∧ v.link ≤ 65535 at hlink
  change 0 ≤ v.iface ∧ v.iface ≤ 4294967295 at hifc
  have hoo : ∀ o ∈ vals v.os, okO o := wrongO_zero.1 hwo
  have hon : ∀ o ∈ vals v.ns, okO o := wrongO_zero.1 hwn
  change v.type < 4294967296 at hw1
  change v.snap < 4294967296 at hw2
  change v.time < 18446744073709551616 at hw3
  change v.len < 4294967296 at hw4'
  have HB := Lib.hid (Below.refl w.heap.size w)
  have HV := Lib.hid hv
  have hdn := hv.1.len
  have HDN := Lib.hid hdn
  have hdl : v.dl.length ≤ 1100000 := by omega
  have HGG : Hid (ordB big v.val = v.big) := Lib.hid (by show (if v.kind = 1 then v.big else big) = _; rw [if_pos hk])
  have HTY : Hid (typeB v.val = 168627466) := Lib.hid (by show (if v.kind = 7 then v.type else typeP v.kind) = _; rw [if_neg (by omega), hk]; rfl)
  have ew : IntKind.u64.wrap (v.type : Int) = (v.type : Int) := by rw [IntKind.wrap_u64]; omega
  have HKK := Lib.hid hk
  clear hv hf hm hfit hwo hwn hlast hdn
  obtain ⟨L1, hL1⟩ : ∃ L : List UInt8, L = [] ++ putL 439041101 4 v.big := ⟨_, rfl⟩
  have lL1 : L1.length ≤ 4 := by rw [hL1]; simp [putL4_length]
  have HL1 := Lib.hid hL1
  clear hL1
  obtain ⟨P1, hP1⟩ : ∃ L : List UInt8, L = putL 1 2 v.big := ⟨_, rfl⟩
  have lP1 : P1.length ≤ 2 := by rw [hP1]; rw [putL2_length]; omega
  have HP1 := Lib.hid hP1
  clear hP1
  obtain ⟨L2, hL2⟩ : ∃ L : List UInt8, L = L1 ++ P1 := ⟨_, rfl⟩
  have lL2 : L2.length ≤ 6 := by rw [hL2]; rw [List.length_append]; omega
  have HL2 := Lib.hid hL2
  clear hL2
  obtain ⟨L3, hL3⟩ : ∃ L : List UInt8, L = L2 ++ [0, 0, 255, 255, 255, 255, 255, 255, 255, 255] := ⟨_, rfl⟩
  have lL3 : L3.length ≤ 16 := by rw [hL3]; rw [List.length_append]; simp; omega
  have HL3 := Lib.hid hL3
  clear hL3
  have HFB : Hid (L3 = fieldsB v.big v.val) := Lib.hid (by rw [HL3.out, HL2.out, HL1.out, HP1.out]; unfold fieldsB; simp [show v.val.kind = 1 from HKK.out])
  obtain ⟨PO, hPO⟩ : ∃ L : List UInt8, L = putAll v.big (vals v.os) := ⟨_, rfl⟩
  have lPO : PO.length ≤ 70424 := by rw [hPO]; rw [putAll_length]; split <;> omega
  have HPO := Lib.hid hPO
  clear hPO
  obtain ⟨BD, hBD⟩ : ∃ L : List UInt8, L = L3 ++ PO := ⟨_, rfl⟩
  have HFL : Hid (BD = bodyB v.big v.val) := Lib.hid (by rw [hBD]; unfold bodyB; rw [HFB.out, HPO.out]; rfl)
  have lBD : BD.length ≤ 1300000 := by rw [hBD, List.length_append]; first | omega | (simp; omega)
  have HBD := Lib.hid hBD
  clear hBD
  obtain ⟨N, hN⟩ : ∃ N, N = BD.length + 12 := ⟨_, rfl⟩
  have hNi : (BD.length : Int) + 12 = (N : Int) := by omega
  have hNw : IntKind.i64.wrap ((BD.length : Int) + 12) = (N : Int) := by rw [IntKind.wrap_i64]; omega
  have hNu : IntKind.u64.wrap (N : Int) = (N : Int) := by rw [IntKind.wrap_u64]; omega
  have hNv : IntKind.i64.wrap (N : Int) = (N : Int) := by rw [IntKind.wrap_i64]; omega
  have hNb : N ≤ 1400000 := by omega
  have HSZ : Hid (sizeB v.val = N) := Lib.hid (by rw [hN, HFL.out]; unfold sizeB; rw [bodyB_length v.big]; omega)
  clear hN
  obtain ⟨O1, hO1⟩ : ∃ L : List UInt8, L = [] ++ putL 168627466 4 v.big := ⟨_, rfl⟩
  have lO1 : O1.length ≤ 4 := by rw [hO1]; rw [List.length_append, putL4_length]; simp
  have HO1 := Lib.hid hO1
  clear hO1
  obtain ⟨O2, hO2⟩ : ∃ L : List UInt8, L = O1 ++ putL N 4 v.big := ⟨_, rfl⟩
  have lO2 : O2.length ≤ 8 := by rw [hO2]; rw [List.length_append, putL4_length]; omega
  have HO2 := Lib.hid hO2
  clear hO2
  obtain ⟨O3, hO3⟩ : ∃ L : List UInt8, L = O2 ++ BD := ⟨_, rfl⟩
  have lO3 : O3.length ≤ 1300010 := by rw [hO3]; rw [List.length_append]; omega
  have HO3 := Lib.hid hO3
  clear hO3
  obtain ⟨O4, hO4⟩ : ∃ L : List UInt8, L = O3 ++ putL N 4 v.big := ⟨_, rfl⟩
  have lO4 : O4.length ≤ 1300020 := by rw [hO4]; rw [List.length_append, putL4_length]; omega
  have HO4 := Lib.hid hO4
  clear hO4
  have HFIN : Hid (bytesB big v.val = O4) := Lib.hid (by
    unfold bytesB
    rw [HGG.out, HTY.out, HSZ.out, ← HFL.out, HO4.out, HO3.out, HO2.out, HO1.out]
    simp only [List.append_assoc, List.nil_append])
  go_enter Try.func25, Try.ntmps25
  go_wp2_with (first
    | ((with_reducible refine sl 2 ?_); go_must (refine wpL_boxG rfl 27 (.tmp 0) rfl v.cells.toArray rfl ?_); intro w1 g2 he__ le_g2 lt_g2 hg__ hb__; have HG2 := Lib.hid hg__; have hE__ := cU HB bup hb__; replace HB := ck HB hE__; clear hE__; clear hg__ hb__ he__; have HE := Lib.hid (Below.refl w1.heap.size w1); have HO := Lib.hid (World.ownsRow_nil w1 w1.heap.size 5 1); rw [← show BV [] = [] from rfl] at HO; simp only [PT])
    | ((with_reducible refine sl 10 ?_); go_must (refine wpL_loadF rfl 22 (.tmp 9) rfl g2 2 rfl (.int .u32 (v.type : Int)) (by exact ((HE.out.block _ (lt_of_block HG2.out)).trans HG2.out)) rfl Try.underlying22 rfl ?_); simp only [PT])
    | ((with_reducible refine sl 13 ?_); go_must (refine wpL_loadF rfl 3 (.tmp 12) rfl g2 0 rfl (.int .i64 v.kind) (by exact ((HE.out.block _ (lt_of_block HG2.out)).trans HG2.out)) rfl Try.underlying3 rfl ?_); simp only [PT])
    | ((with_reducible refine sl 17 ?_); go_must (refine wpL_loadF rfl 4 (.tmp 16) rfl g2 1 rfl (.bool v.big) (by exact ((HE.out.block _ (lt_of_block HG2.out)).trans HG2.out)) rfl Try.underlying4 rfl ?_); simp only [PT])
    | (go_at_call 52; (with_reducible show Calls _ _ #[_, Value.int .u64 439041101, _] _ _); go_must (refine (four_int w1.heap.size none ([] : List UInt8).length 0 ([] : List UInt8) _ 439041101 (by first | rfl | omega) v.big _ (by omega) (by first | omega | exact Nat.zero_le _) rfl (own_keep HO.out bup) (Nat.le_trans HE.out.size (bsz bup))).mono ?_); intro e w2 hr; rw [← HL1.out] at hr; obtain ⟨⟨ad1, c1, rfl, ho__⟩, hb__⟩ := hr; replace HE := cEb HE bup hb__; clear HO; have HO := Lib.hid ho__; clear ho__ hb__)
    | (go_at_call 53; (with_reducible show Calls _ _ #[Value.int .u64 1, Value.int .i64 2, _] _ _); go_must (refine (refPut_any 1 2 v.big _ (by omega)).mono ?_); intro e w3 hr; rw [← HP1.out] at hr; unfold RetB at hr; obtain ⟨adq, cq, rfl, ho__, hb__⟩ := hr; have BP1 := Lib.hid (Bs.of_own ho__); replace HO := cOa HO bup hb__; replace HE := cE0 HE bup hb__; clear hb__ ho__)
    | ((with_reducible refine sl 24 ?_); go_must (refine wpL_appL elB rfl (.tmp 21) (.tmp 23) rfl w1.heap.size rfl (own_keep HO.out bup) rfl (BP1.out.below bup) L2 HL2.out.symm (by omega) (Nat.le_trans HE.out.size (bsz bup)) ?_); intro ad2 c2 w4 ho__ hb__; replace HE := cEb HE bup hb__; clear HO; have HO := Lib.hid ho__; clear ho__ hb__; simp only [PT])
    | ((with_reducible refine sl 26 ?_); go_must (refine wpL_lit rfl 10 _ rfl [0, 0, 255, 255, 255, 255, 255, 255, 255, 255] rfl (by decide) (by decide) (by rfl) ?_); intro w5 adl le__ ho__ hb__; have BL1 := Lib.hid (Bs.of_own ho__); replace HO := cOa HO bup hb__; replace HE := cE0 HE bup hb__; clear hb__ ho__ le__; simp only [PT])
    | ((with_reducible refine sl 27 ?_); go_must (refine wpL_appL elB rfl (.tmp 25) (.tmp 26) rfl w1.heap.size rfl (own_keep HO.out bup) rfl (BL1.out.below bup) L3 HL3.out.symm (by omega) (Nat.le_trans HE.out.size (bsz bup)) ?_); intro ad3 c3 w6 ho__ hb__; replace HE := cEb HE bup hb__; clear HO; have HO := Lib.hid ho__; clear ho__ hb__; simp only [PT])
    | ((with_reducible refine sl 119 ?_); go_must (refine wpL_loadF rfl 25 (.tmp 118) rfl g2 10 rfl (.slice v.oad v.on v.oc) (by exact ((HE.out.block _ (lt_of_block HG2.out)).trans HG2.out)) rfl Try.underlying25 rfl ?_); simp only [PT])
    | (go_at_call 56; (with_reducible show Calls _ _ #[Value.slice v.oad _ _, _] _ _); go_must (refine (refOptPut_any v.oad v.on v.oc v.os v.big _ (HV.out.2.2.below ((HB.out.trans (HE.out.mono HB.out.size)).trans (Below.mono bup (Nat.le_trans HB.out.size HE.out.size)))) (by omega) hoo).mono ?_); intro e wp hr; rw [← HPO.out] at hr; unfold RetB at hr; obtain ⟨adp, cp, rfl, ho__, hb__⟩ := hr; have BPO := Lib.hid (Bs.of_own ho__); replace HO := cOa HO bup hb__; replace HE := cE0 HE bup hb__; clear hb__ ho__)
    | ((with_reducible refine sl 122 ?_); go_must (refine wpL_appL elB rfl (.tmp 117) (.tmp 121) rfl w1.heap.size rfl (own_keep HO.out bup) rfl (BPO.out.below bup) BD HBD.out.symm (by omega) (Nat.le_trans HE.out.size (bsz bup)) ?_); intro adb cb wb ho__ hb__; replace HE := cEb HE bup hb__; clear HO; have HO := Lib.hid ho__; clear ho__ hb__; have HS := Lib.hid (Bs.of_own HO.out); have HF := Lib.hid (Below.refl wb.heap.size wb); have HP := Lib.hid (World.ownsRow_nil wb wb.heap.size 5 1); rw [← show BV [] = [] from rfl] at HP; simp only [PT])
    | (go_at_call 52; (with_reducible show Calls _ _ #[Value.slice none _ _, _, _] _ _); go_must (refine (four_int wb.heap.size none ([] : List UInt8).length 0 ([] : List UInt8) _ 168627466 (by first | rfl | omega) v.big _ (by omega) (by first | omega | exact Nat.zero_le _) rfl (own_keep HP.out bup) (Nat.le_trans HF.out.size (bsz bup))).mono ?_); intro e wx hr; rw [← HO1.out] at hr; obtain ⟨⟨adx, cx, rfl, ho__⟩, hb__⟩ := hr; replace HF := cEb HF bup hb__; clear HP; have HP := Lib.hid ho__; clear ho__ hb__)
    | (go_at_call 52; (with_reducible show Calls _ _ #[Value.slice adx _ _, _, _] _ _); go_must (refine (four_int wb.heap.size adx O1.length cx O1 _ N (by first | rfl | omega) v.big _ (by omega) (by first | omega | exact Nat.zero_le _) rfl (own_keep HP.out bup) (Nat.le_trans HF.out.size (bsz bup))).mono ?_); intro e wy hr; rw [← HO2.out] at hr; obtain ⟨⟨ady, cy, rfl, ho__⟩, hb__⟩ := hr; replace HF := cEb HF bup hb__; clear HP; have HP := Lib.hid ho__; clear ho__ hb__)
    | ((with_reducible refine sl 135 ?_); go_must (refine wpL_appL elB rfl (.tmp 133) (.tmp 134) rfl wb.heap.size rfl (own_keep HP.out bup) rfl (HS.out.below (HF.out.trans (Below.mono bup HF.out.size))) O3 HO3.out.symm (by omega) (Nat.le_trans HF.out.size (bsz bup)) ?_); intro adw cw ww ho__ hb__; replace HF := cEb HF bup hb__; clear HP; have HP := Lib.hid ho__; clear ho__ hb__; simp only [PT])
    | (go_at_call 52; (with_reducible show Calls _ _ #[Value.slice adw _ _, _, _] _ _); go_must (refine (four_int wb.heap.size adw O3.length cw O3 _ N (by first | rfl | omega) v.big _ (by omega) (by first | omega | exact Nat.zero_le _) rfl (own_keep HP.out bup) (Nat.le_trans HF.out.size (bsz bup))).mono ?_); intro e wz hr; rw [← HO4.out] at hr; obtain ⟨⟨adz, cz, rfl, ho__⟩, hb__⟩ := hr; replace HF := cEb HF bup hb__; clear HP; have HP := Lib.hid ho__; clear ho__ hb__))
  go_ret
  exact ⟨adz, cz, by rw [HFIN.out]; rfl, by rw [HFIN.out]; exact own_base HP.out (Nat.le_trans HB.out.size HE.out.size), HB.out.trans ((HE.out.trans (HF.out.mono HE.out.size)).mono HB.out.size)⟩
end Go.Proofs.Ytmfplinbbcoahaa
/-
  Chapter 26: a block laid by the document, kind by kind, walked (by genrefb.py).
-/
namespace Go.Proofs.Ytmfplinbbcoahaa
open Go.RowKit Go.Sort
set_option linter.unusedVariables false
set_option linter.unusedSimpArgs false

set_option maxRecDepth 100000 in
set_option maxHeartbeats 8000000 in
theorem refBytes2 (v : BlkV) (big : Bool) (w : World) (hv : Blk w v) (hk : v.kind = 2) (hf : SmB v) (hm : mayP v.val = true) (hw : wfB v.val) :
    Calls Try.prog 25 #[.agg v.cells.toArray, .bool big] w (RetB 5 (bytesB big v.val) w) := by
  obtain ⟨z1, z2, z3⟩ := hf.sizes
  obtain ⟨_, hfit, hlink, hifc, hwo, hwn, hlast⟩ := (mayP_iff v.val).1 hm
  obtain ⟨hw1, hw2, hw3, hw4'⟩ := hw
  change 0 ≤ v.link ∧ v.link ≤ 65535 at hlink
  change 0 ≤ v.iface ∧ v.iface ≤ 4294967295 at hifc
  have hoo : ∀ o ∈ vals v.os, okO o := wrongO_zero.1 hwo
  have hon : ∀ o ∈ vals v.ns, okO o := wrongO_zero.1 hwn
  change v.type < 4294967296 at hw1
  change v.snap < 4294967296 at hw2
  change v.time < 18446744073709551616 at hw3
  change v.len < 4294967296 at hw4'
  have HB := Lib.hid (Below.refl w.heap.size w)
  have HV := Lib.hid hv
  have hdn := hv.1.len
  have HDN := Lib.hid hdn
  have hdl : v.dl.length ≤ 1100000 := by omega
  have HGG : Hid (ordB big v.val = big) := Lib.hid (by show (if v.kind = 1 then v.big else big) = _; rw [if_neg (by omega)])
  have HTY : Hid (typeB v.val = 1) := Lib.hid (by show (if v.kind = 7 then v.type else typeP v.kind) = _; rw [if_neg (by omega), hk]; rfl)
  have ew : IntKind.u64.wrap (v.type : Int) = (v.type : Int) := by rw [IntKind.wrap_u64]; omega
  have HKK := Lib.hid hk
  clear hv hf hm hfit hwo hwn hlast hdn
  obtain ⟨lk, hlk⟩ : ∃ n, n = v.link.toNat := ⟨_, rfl⟩
  have hlk2 : IntKind.u64.wrap v.link = (lk : Int) := by rw [IntKind.wrap_u64]; omega
  have hlk3 : lk ≤ 65535 := by omega
  have HLK := Lib.hid hlk
  clear hlk
  have es : IntKind.u64.wrap (v.snap : Int) = (v.snap : Int) := by rw [IntKind.wrap_u64]; omega
  obtain ⟨P1, hP1⟩ : ∃ L : List UInt8, L = putL lk 2 big := ⟨_, rfl⟩
  have lP1 : P1.length ≤ 2 := by rw [hP1]; rw [putL2_length]; omega
  have HP1 := Lib.hid hP1
  clear hP1
  obtain ⟨L1, hL1⟩ : ∃ L : List UInt8, L = [] ++ P1 := ⟨_, rfl⟩
  have lL1 : L1.length ≤ 2 := by rw [hL1]; simpa using lP1
  have HL1 := Lib.hid hL1
  clear hL1
  obtain ⟨L2, hL2⟩ : ∃ L : List UInt8, L = L1 ++ [0, 0] := ⟨_, rfl⟩
  have lL2 : L2.length ≤ 4 := by rw [hL2]; rw [List.length_append]; simp; omega
  have HL2 := Lib.hid hL2
  clear hL2
  obtain ⟨L3, hL3⟩ : ∃ L : List UInt8, L = L2 ++ putL v.snap 4 big := ⟨_, rfl⟩
  have lL3 : L3.length ≤ 8 := by rw [hL3]; rw [List.length_append, putL4_length]; omega
  have HL3 := Lib.hid hL3
  clear hL3
  have HFB : Hid (L3 = fieldsB big v.val) := Lib.hid (by rw [HL3.out, HL2.out, HL1.out, HP1.out, HLK.out]; unfold fieldsB; simp [show v.val.kind = 2 from HKK.out]; rfl)
  obtain ⟨PO, hPO⟩ : ∃ L : List UInt8, L = putAll big (vals v.os) := ⟨_, rfl⟩
  have lPO : PO.length ≤ 70424 := by rw [hPO]; rw [putAll_length]; split <;> omega
  have HPO := Lib.hid hPO
  clear hPO
  obtain ⟨BD, hBD⟩ : ∃ L : List UInt8, L = L3 ++ PO := ⟨_, rfl⟩
  have HFL : Hid (BD = bodyB big v.val) := Lib.hid (by rw [hBD]; unfold bodyB; rw [HFB.out, HPO.out]; rfl)
  have lBD : BD.length ≤ 1300000 := by rw [hBD, List.length_append]; first | omega | (simp; omega)
  have HBD := Lib.hid hBD
  clear hBD
  obtain ⟨N, hN⟩ : ∃ N, N = BD.length + 12 := ⟨_, rfl⟩
  have hNi : (BD.length : Int) + 12 = (N : Int) := by omega
  have hNw : IntKind.i64.wrap ((BD.length : Int) + 12) = (N : Int) := by rw [IntKind.wrap_i64]; omega
  have hNu : IntKind.u64.wrap (N : Int) = (N : Int) := by rw [IntKind.wrap_u64]; omega
  have hNv : IntKind.i64.wrap (N : Int) = (N : Int) := by rw [IntKind.wrap_i64]; omega
  have hNb : N ≤ 1400000 := by omega
  have HSZ : Hid (sizeB v.val = N) := Lib.hid (by rw [hN, HFL.out]; unfold sizeB; rw [bodyB_length big]; omega)
  clear hN
  obtain ⟨O1, hO1⟩ : ∃ L : List UInt8, L = [] ++ putL 1 4 big := ⟨_, rfl⟩
  have lO1 : O1.length ≤ 4 := by rw [hO1]; rw [List.length_append, putL4_length]; simp
  have HO1 := Lib.hid hO1
  clear hO1
  obtain ⟨O2, hO2⟩ : ∃ L : List UInt8, L = O1 ++ putL N 4 big := ⟨_, rfl⟩
  have lO2 : O2.length ≤ 8 := by rw [hO2]; rw [List.length_append, putL4_length]; omega
  have HO2 := Lib.hid hO2
  clear hO2
  obtain ⟨O3, hO3⟩ : ∃ L : List UInt8, L = O2 ++ BD := ⟨_, rfl⟩
  have lO3 : O3.length ≤ 1300010 := by rw [hO3]; rw [List.length_append]; omega
  have HO3 := Lib.hid hO3
  clear hO3
  obtain ⟨O4, hO4⟩ : ∃ L : List UInt8, L = O3 ++ putL N 4 big := ⟨_, rfl⟩
  have lO4 : O4.length ≤ 1300020 := by rw [hO4]; rw [List.length_append, putL4_length]; omega
  have HO4 := Lib.hid hO4
  clear hO4
  have HFIN : Hid (bytesB big v.val = O4) := Lib.hid (by
    unfold bytesB
    rw [HGG.out, HTY.out, HSZ.out, ← HFL.out, HO4.out, HO3.out, HO2.out, HO1.out]
    simp only [List.append_assoc, List.nil_append])
  go_enter Try.func25, Try.ntmps25
  go_wp2_with (first
    | ((with_reducible refine sl 2 ?_); go_must (refine wpL_boxG rfl 27 (.tmp 0) rfl v.cells.toArray rfl ?_); intro w1 g2 he__ le_g2 lt_g2 hg__ hb__; have HG2 := Lib.hid hg__; have hE__ := cU HB bup hb__; replace HB := ck HB hE__; clear hE__; clear hg__ hb__ he__; have HE := Lib.hid (Below.refl w1.heap.size w1); have HO := Lib.hid (World.ownsRow_nil w1 w1.heap.size 5 1); rw [← show BV [] = [] from rfl] at HO; simp only [PT])
    | ((with_reducible refine sl 10 ?_); go_must (refine wpL_loadF rfl 22 (.tmp 9) rfl g2 2 rfl (.int .u32 (v.type : Int)) (by exact ((HE.out.block _ (lt_of_block HG2.out)).trans HG2.out)) rfl Try.underlying22 rfl ?_); simp only [PT])
    | ((with_reducible refine sl 13 ?_); go_must (refine wpL_loadF rfl 3 (.tmp 12) rfl g2 0 rfl (.int .i64 v.kind) (by exact ((HE.out.block _ (lt_of_block HG2.out)).trans HG2.out)) rfl Try.underlying3 rfl ?_); simp only [PT])
    | ((with_reducible refine sl 32 ?_); go_must (refine wpL_loadF rfl 3 (.tmp 31) rfl g2 3 rfl (.int .i64 v.link) (by exact ((HE.out.block _ (lt_of_block HG2.out)).trans HG2.out)) rfl Try.underlying3 rfl ?_); simp only [PT])
    | ((with_reducible refine sl 42 ?_); go_must (refine wpL_loadF rfl 22 (.tmp 41) rfl g2 4 rfl (.int .u32 (v.snap : Int)) (by exact ((HE.out.block _ (lt_of_block HG2.out)).trans HG2.out)) rfl Try.underlying22 rfl ?_); simp only [PT])
    | (go_at_call 53; (with_reducible show Calls _ _ #[_, Value.int .i64 2, _] _ _); go_must (refine (refPut_any lk 2 big _ (by omega)).mono ?_); intro e w3 hr; rw [← HP1.out] at hr; unfold RetB at hr; obtain ⟨adq, cq, rfl, ho__, hb__⟩ := hr; have BP1 := Lib.hid (Bs.of_own ho__); replace HO := cOa HO bup hb__; replace HE := cE0 HE bup hb__; clear hb__ ho__)
    | ((with_reducible refine sl 36 ?_); go_must (refine wpL_appL elB rfl (.tmp 30) (.tmp 35) rfl w1.heap.size rfl (own_keep HO.out bup) rfl (BP1.out.below bup) L1 HL1.out.symm (by omega) (Nat.le_trans HE.out.size (bsz bup)) ?_); intro ad1 c1 w4 ho__ hb__; replace HE := cEb HE bup hb__; clear HO; have HO := Lib.hid ho__; clear ho__ hb__; simp only [PT])
    | ((with_reducible refine sl 38 ?_); go_must (refine wpL_lit rfl 2 _ rfl [0, 0] rfl (by decide) (by decide) (by rfl) ?_); intro w5 adl le__ ho__ hb__; have BL1 := Lib.hid (Bs.of_own ho__); replace HO := cOa HO bup hb__; replace HE := cE0 HE bup hb__; clear hb__ ho__ le__; simp only [PT])
    | ((with_reducible refine sl 39 ?_); go_must (refine wpL_appL elB rfl (.tmp 37) (.tmp 38) rfl w1.heap.size rfl (own_keep HO.out bup) rfl (BL1.out.below bup) L2 HL2.out.symm (by omega) (Nat.le_trans HE.out.size (bsz bup)) ?_); intro ad2 c2 w6 ho__ hb__; replace HE := cEb HE bup hb__; clear HO; have HO := Lib.hid ho__; clear ho__ hb__; simp only [PT])
    | (go_at_call 52; (with_reducible show Calls _ _ #[Value.slice ad2 _ _, _, _] _ _); go_must (refine (four_int w1.heap.size ad2 L2.length c2 L2 _ v.snap (by first | rfl | omega) big _ (by omega) (by first | omega | exact Nat.zero_le _) rfl (own_keep HO.out bup) (Nat.le_trans HE.out.size (bsz bup))).mono ?_); intro e w7 hr; rw [← HL3.out] at hr; obtain ⟨⟨ad3, c3, rfl, ho__⟩, hb__⟩ := hr; replace HE := cEb HE bup hb__; clear HO; have HO := Lib.hid ho__; clear ho__ hb__)
    | ((with_reducible refine sl 119 ?_); go_must (refine wpL_loadF rfl 25 (.tmp 118) rfl g2 10 rfl (.slice v.oad v.on v.oc) (by exact ((HE.out.block _ (lt_of_block HG2.out)).trans HG2.out)) rfl Try.underlying25 rfl ?_); simp only [PT])
    | (go_at_call 56; (with_reducible show Calls _ _ #[Value.slice v.oad _ _, _] _ _); go_must (refine (refOptPut_any v.oad v.on v.oc v.os big _ (HV.out.2.2.below ((HB.out.trans (HE.out.mono HB.out.size)).trans (Below.mono bup (Nat.le_trans HB.out.size HE.out.size)))) (by omega) hoo).mono ?_); intro e wp hr; rw [← HPO.out] at hr; unfold RetB at hr; obtain ⟨adp, cp, rfl, ho__, hb__⟩ := hr; have BPO := Lib.hid (Bs.of_own ho__); replace HO := cOa HO bup hb__; replace HE := cE0 HE bup hb__; clear hb__ ho__)
    | ((with_reducible refine sl 122 ?_); go_must (refine wpL_appL elB rfl (.tmp 117) (.tmp 121) rfl w1.heap.size rfl (own_keep HO.out bup) rfl (BPO.out.below bup) BD HBD.out.symm (by omega) (Nat.le_trans HE.out.size (bsz bup)) ?_); intro adb cb wb ho__ hb__; replace HE := cEb HE bup hb__; clear HO; have HO := Lib.hid ho__; clear ho__ hb__; have HS := Lib.hid (Bs.of_own HO.out); have HF := Lib.hid (Below.refl wb.heap.size wb); have HP := Lib.hid (World.ownsRow_nil wb wb.heap.size 5 1); rw [← show BV [] = [] from rfl] at HP; simp only [PT])
    | (go_at_call 52; (with_reducible show Calls _ _ #[Value.slice none _ _, _, _] _ _); go_must (refine (four_int wb.heap.size none ([] : List UInt8).length 0 ([] : List UInt8) _ 1 (by first | rfl | omega) big _ (by omega) (by first | omega | exact Nat.zero_le _) rfl (own_keep HP.out bup) (Nat.le_trans HF.out.size (bsz bup))).mono ?_); intro e wx hr; rw [← HO1.out] at hr; obtain ⟨⟨adx, cx, rfl, ho__⟩, hb__⟩ := hr; replace HF := cEb HF bup hb__; clear HP; have HP := Lib.hid ho__; clear ho__ hb__)
    | (go_at_call 52; (with_reducible show Calls _ _ #[Value.slice adx _ _, _, _] _ _); go_must (refine (four_int wb.heap.size adx O1.length cx O1 _ N (by first | rfl | omega) big _ (by omega) (by first | omega | exact Nat.zero_le _) rfl (own_keep HP.out bup) (Nat.le_trans HF.out.size (bsz bup))).mono ?_); intro e wy hr; rw [← HO2.out] at hr; obtain ⟨⟨ady, cy, rfl, ho__⟩, hb__⟩ := hr; replace HF := cEb HF bup hb__; clear HP; have HP := Lib.hid ho__; clear ho__ hb__)
    | ((with_reducible refine sl 135 ?_); go_must (refine wpL_appL elB rfl (.tmp 133) (.tmp 134) rfl wb.heap.size rfl (own_keep HP.out bup) rfl (HS.out.below (HF.out.trans (Below.mono bup HF.out.size))) O3 HO3.out.symm (by omega) (Nat.le_trans HF.out.size (bsz bup)) ?_); intro adw cw ww ho__ hb__; replace HF := cEb HF bup hb__; clear HP; have HP := Lib.hid ho__; clear ho__ hb__; simp only [PT])
    | (go_at_call 52; (with_reducible show Calls _ _ #[Value.slice adw _ _, _, _] _ _); go_must (refine (four_int wb.heap.size adw O3.length cw O3 _ N (by first | rfl | omega) big _ (by omega) (by first | omega | exact Nat.zero_le _) rfl (own_keep HP.out bup) (Nat.le_trans HF.out.size (bsz bup))).mono ?_); intro e wz hr; rw [← HO4.out] at hr; obtain ⟨⟨adz, cz, rfl, ho__⟩, hb__⟩ := hr; replace HF := cEb HF bup hb__; clear HP; have HP := Lib.hid ho__; clear ho__ hb__))
  go_ret
  exact ⟨adz, cz, by rw [HFIN.out]; rfl, by rw [HFIN.out]; exact own_base HP.out (Nat.le_trans HB.out.size HE.out.size), HB.out.trans ((HE.out.trans (HF.out.mono HE.out.size)).mono HB.out.size)⟩
end Go.Proofs.Ytmfplinbbcoahaa
/-
  Chapter 26: a block laid by the document, kind by kind, walked (by genrefb.py).
-/
namespace Go.Proofs.Ytmfplinbbcoahaa
open Go.RowKit Go.Sort
set_option linter.unusedVariables false
set_option linter.unusedSimpArgs false

set_option maxRecDepth 100000 in
set_option maxHeartbeats 8000000 in
theorem refBytes3 (v : BlkV) (big : Bool) (w : World) (hv : Blk w v) (hk : v.kind = 3) (hf : SmB v) (hm : mayP v.val = true) (hw : wfB v.val) :
    Calls Try.prog 25 #[.agg v.cells.toArray, .bool big] w (RetB 5 (bytesB big v.val) w) := by
  obtain ⟨z1, z2, z3⟩ := hf.sizes
  obtain ⟨_, hfit, hlink, hifc, hwo, hwn, hlast⟩ := (mayP_iff v.val).1 hm
  obtain ⟨hw1, hw2, hw3, hw4'⟩ := hw
  change 0 ≤ v.link ∧ v.link ≤ 65535 at hlink
  change 0 ≤ v.iface ∧ v.iface ≤ 4294967295 at hifc
  have hoo : ∀ o ∈ vals v.os, okO o := wrongO_zero.1 hwo
  have hon : ∀ o ∈ vals v.ns, okO o := wrongO_zero.1 hwn
  change v.type < 4294967296 at hw1
  change v.snap < 4294967296 at hw2
  change v.time < 18446744073709551616 at hw3
  change v.len < 4294967296 at hw4'
  have HB := Lib.hid (Below.refl w.heap.size w)
  have HV := Lib.hid hv
  have hdn := hv.1.len
  have HDN := Lib.hid hdn
  have hdl : v.dl.length ≤ 1100000 := by omega
  have HGG : Hid (ordB big v.val = big) := Lib.hid (by show (if v.kind = 1 then v.big else big) = _; rw [if_neg (by omega)])
  have HTY : Hid (typeB v.val = 6) := Lib.hid (by show (if v.kind = 7 then v.type else typeP v.kind) = _; rw [if_neg (by omega), hk]; rfl)
  have ew : IntKind.u64.wrap (v.type : Int) = (v.type : Int) := by rw [IntKind.wrap_u64]; omega
  have HKK := Lib.hid hk
  clear hv hf hm hfit hwo hwn hlast hdn
  obtain ⟨fi, hfi⟩ : ∃ n, n = v.iface.toNat := ⟨_, rfl⟩
  have hfi2 : IntKind.u64.wrap v.iface = (fi : Int) := by rw [IntKind.wrap_u64]; omega
  have hfi3 : fi ≤ 4294967295 := by omega
  have HFI := Lib.hid hfi
  clear hfi
  have edl : IntKind.u64.wrap (v.dn : Int) = (v.dn : Int) := by rw [IntKind.wrap_u64]; omega
  have ele : IntKind.u64.wrap (v.len : Int) = (v.len : Int) := by rw [IntKind.wrap_u64]; omega
  obtain ⟨L1, hL1⟩ : ∃ L : List UInt8, L = [] ++ putL fi 4 big := ⟨_, rfl⟩
  have lL1 : L1.length ≤ 4 := by rw [hL1]; simp [putL4_length]
  have HL1 := Lib.hid hL1
  clear hL1
  obtain ⟨L2, hL2⟩ : ∃ L : List UInt8, L = L1 ++ timeB big v.time := ⟨_, rfl⟩
  have lL2 : L2.length ≤ 12 := by rw [hL2]; rw [List.length_append]; unfold timeB; simp only [List.length_append, putL4_length]; omega
  have HL2 := Lib.hid hL2
  clear hL2
  obtain ⟨L3, hL3⟩ : ∃ L : List UInt8, L = L2 ++ putL v.dn 4 big := ⟨_, rfl⟩
  have lL3 : L3.length ≤ 16 := by rw [hL3]; rw [List.length_append, putL4_length]; omega
  have HL3 := Lib.hid hL3
  clear hL3
  obtain ⟨L4, hL4⟩ : ∃ L : List UInt8, L = L3 ++ putL v.len 4 big := ⟨_, rfl⟩
  have lL4 : L4.length ≤ 20 := by rw [hL4]; rw [List.length_append, putL4_length]; omega
  have HL4 := Lib.hid hL4
  clear hL4
  obtain ⟨PD, hPD⟩ : ∃ L : List UInt8, L = padL v.dl := ⟨_, rfl⟩
  have lPD : PD.length ≤ 1100003 := by rw [hPD]; rw [padL_length]; unfold padN; omega
  have HPD := Lib.hid hPD
  clear hPD
  obtain ⟨L5, hL5⟩ : ∃ L : List UInt8, L = L4 ++ PD := ⟨_, rfl⟩
  have lL5 : L5.length ≤ 1100030 := by rw [hL5]; rw [List.length_append]; omega
  have HL5 := Lib.hid hL5
  clear hL5
  have HFB : Hid (L5 = fieldsB big v.val) := Lib.hid (by rw [HL5.out, HL4.out, HL3.out, HL2.out, HL1.out, HFI.out, HPD.out, HDN.out]; unfold fieldsB; simp [show v.val.kind = 3 from HKK.out]; rfl)
  obtain ⟨PO, hPO⟩ : ∃ L : List UInt8, L = putAll big (vals v.os) := ⟨_, rfl⟩
  have lPO : PO.length ≤ 70424 := by rw [hPO]; rw [putAll_length]; split <;> omega
  have HPO := Lib.hid hPO
  clear hPO
  obtain ⟨BD, hBD⟩ : ∃ L : List UInt8, L = L5 ++ PO := ⟨_, rfl⟩
  have HFL : Hid (BD = bodyB big v.val) := Lib.hid (by rw [hBD]; unfold bodyB; rw [HFB.out, HPO.out]; rfl)
  have lBD : BD.length ≤ 1300000 := by rw [hBD, List.length_append]; first | omega | (simp; omega)
  have HBD := Lib.hid hBD
  clear hBD
  obtain ⟨N, hN⟩ : ∃ N, N = BD.length + 12 := ⟨_, rfl⟩
  have hNi : (BD.length : Int) + 12 = (N : Int) := by omega
  have hNw : IntKind.i64.wrap ((BD.length : Int) + 12) = (N : Int) := by rw [IntKind.wrap_i64]; omega
  have hNu : IntKind.u64.wrap (N : Int) = (N : Int) := by rw [IntKind.wrap_u64]; omega
  have hNv : IntKind.i64.wrap (N : Int) = (N : Int) := by rw [IntKind.wrap_i64]; omega
  have hNb : N ≤ 1400000 := by omega
  have HSZ : Hid (sizeB v.val = N) := Lib.hid (by rw [hN, HFL.out]; unfold sizeB; rw [bodyB_length big]; omega)
  clear hN
  obtain ⟨O1, hO1⟩ : ∃ L : List UInt8, L = [] ++ putL 6 4 big := ⟨_, rfl⟩
  have lO1 : O1.length ≤ 4 := by rw [hO1]; rw [List.length_append, putL4_length]; simp
  have HO1 := Lib.hid hO1
  clear hO1
  obtain ⟨O2, hO2⟩ : ∃ L : List UInt8, L = O1 ++ putL N 4 big := ⟨_, rfl⟩
  have lO2 : O2.length ≤ 8 := by rw [hO2]; rw [List.length_append, putL4_length]; omega
  have HO2 := Lib.hid hO2
  clear hO2
  obtain ⟨O3, hO3⟩ : ∃ L : List UInt8, L = O2 ++ BD := ⟨_, rfl⟩
  have lO3 : O3.length ≤ 1300010 := by rw [hO3]; rw [List.length_append]; omega
  have HO3 := Lib.hid hO3
  clear hO3
  obtain ⟨O4, hO4⟩ : ∃ L : List UInt8, L = O3 ++ putL N 4 big := ⟨_, rfl⟩
  have lO4 : O4.length ≤ 1300020 := by rw [hO4]; rw [List.length_append, putL4_length]; omega
  have HO4 := Lib.hid hO4
  clear hO4
  have HFIN : Hid (bytesB big v.val = O4) := Lib.hid (by
    unfold bytesB
    rw [HGG.out, HTY.out, HSZ.out, ← HFL.out, HO4.out, HO3.out, HO2.out, HO1.out]
    simp only [List.append_assoc, List.nil_append])
  go_enter Try.func25, Try.ntmps25
  go_wp2_with (first
    | ((with_reducible refine sl 2 ?_); go_must (refine wpL_boxG rfl 27 (.tmp 0) rfl v.cells.toArray rfl ?_); intro w1 g2 he__ le_g2 lt_g2 hg__ hb__; have HG2 := Lib.hid hg__; have hE__ := cU HB bup hb__; replace HB := ck HB hE__; clear hE__; clear hg__ hb__ he__; have HE := Lib.hid (Below.refl w1.heap.size w1); have HO := Lib.hid (World.ownsRow_nil w1 w1.heap.size 5 1); rw [← show BV [] = [] from rfl] at HO; simp only [PT])
    | ((with_reducible refine sl 10 ?_); go_must (refine wpL_loadF rfl 22 (.tmp 9) rfl g2 2 rfl (.int .u32 (v.type : Int)) (by exact ((HE.out.block _ (lt_of_block HG2.out)).trans HG2.out)) rfl Try.underlying22 rfl ?_); simp only [PT])
    | ((with_reducible refine sl 13 ?_); go_must (refine wpL_loadF rfl 3 (.tmp 12) rfl g2 0 rfl (.int .i64 v.kind) (by exact ((HE.out.block _ (lt_of_block HG2.out)).trans HG2.out)) rfl Try.underlying3 rfl ?_); simp only [PT]))
  refine wp_region_held_drew (S := fun u => u.heap[g2]? = some (.cells v.cells.toArray 27 (0, 0))) (by kernel_rfl) ?_ (fun hHeld => ?_)
  focus (exact ((HE.out.block _ (lt_of_block HG2.out)).trans HG2.out))
  refine tk 0 (oi := ⟨some 48, _, _, _, _, _⟩) (v := ?_) rfl (by kernel_rfl) (.inl ⟨by rfl, ?_⟩) hHeld ?_; rotate_left; focus (intro w hSw; (try dsimp only at hSw); go_simp; try with_reducible rfl)
  simp only [PT]
  refine tk 1 (oi := ⟨some 49, _, _, _, _, _⟩) (v := ?_) rfl (by kernel_rfl) (.inl ⟨by rfl, ?_⟩) hHeld ?_; rotate_left; focus (intro w hSw; (try dsimp only at hSw); go_simp; try with_reducible rfl)
  simp only [PT]
  refine' tk 2 (oi := ⟨some 50, _, _, _, _, _⟩) (v := _) rfl (by kernel_rfl) (yields_loadF rfl 3 (.tmp 49) rfl g2 5 rfl (.int .i64 v.iface) (fun u hu => hu) rfl Try.underlying3 rfl) hHeld ?_
  simp only [PT]
  refine' tk 3 (oi := ⟨some 51, _, _, _, _, _⟩) (v := (.int .u64 (fi : Int))) rfl (by kernel_rfl) (.inl ⟨by rfl, ?_⟩) hHeld ?_; focus (intro w hSw; (try dsimp only at hSw); go_simp; first | done | rfl | (simp [*]; done) | (simp [*]; omega))
  simp only [PT]
  refine tk 4 (oi := ⟨some 52, _, _, _, _, _⟩) (v := ?_) rfl (by kernel_rfl) (.inl ⟨by rfl, ?_⟩) hHeld ?_; rotate_left; focus (intro w hSw; (try dsimp only at hSw); go_simp; try with_reducible rfl)
  simp only [PT]
  refine tk 6 (oi := ⟨some 54, _, _, _, _, _⟩) (v := ?_) rfl (by kernel_rfl) (.inl ⟨by rfl, ?_⟩) hHeld ?_; rotate_left; focus (intro w hSw; (try dsimp only at hSw); go_simp; try with_reducible rfl)
  simp only [PT]
  refine' tk 7 (oi := ⟨some 55, _, _, _, _, _⟩) (v := _) rfl (by kernel_rfl) (yields_loadF rfl 23 (.tmp 54) rfl g2 6 rfl (.int .u64 (v.time : Int)) (fun u hu => hu) rfl Try.underlying23 rfl) hHeld ?_
  simp only [PT]
  refine tk 8 (oi := ⟨some 56, _, _, _, _, _⟩) (v := ?_) rfl (by kernel_rfl) (.inl ⟨by rfl, ?_⟩) hHeld ?_; rotate_left; focus (intro w hSw; (try dsimp only at hSw); go_simp; try with_reducible rfl)
  simp only [PT]
  refine wpAnyH_ready (rs := [5]) (by kernel_rfl) (by simp) ?_
  refine (AllReadyH.cons (o := ⟨some 53, _, _, _, _, _⟩) rfl (fun K hK => ?_) AllReadyH.nil)
  focus (go_simp; go_must (refine (four_int w1.heap.size none ([] : List UInt8).length 0 ([] : List UInt8) _ fi (by first | rfl | omega) big _ (by omega) (by first | omega | exact Nat.zero_le _) rfl (own_keep HO.out bup) (Nat.le_trans HE.out.size (bsz bup))).mono ?_); intro e w2 hr; rw [← HL1.out] at hr; obtain ⟨⟨ad1, c1, rfl, ho__⟩, hb__⟩ := hr; replace HE := cEb HE bup hb__; clear HO; have HO := Lib.hid ho__; clear ho__ hb__; go_wp2_with fail)
  refine hK.out _ _ ?_ (fun hHeld => ?_)
  focus (exact ((HE.out.block _ (lt_of_block HG2.out)).trans HG2.out))
  clear hK K
  try simp only [PT]
  refine wpAnyH_ready (rs := [9]) (by kernel_rfl) (by simp) ?_
  refine (AllReadyH.cons (o := ⟨some 57, _, _, _, _, _⟩) rfl (fun K hK => ?_) AllReadyH.nil)
  focus (go_simp; go_must (refine (refTime_any w1.heap.size ad1 c1 L1 v.time big _ (by omega) (by omega) (own_keep HO.out bup) (Nat.le_trans HE.out.size (bsz bup))).mono ?_); intro e w3 hr; rw [← HL2.out] at hr; obtain ⟨⟨ad2, c2, rfl, ho__⟩, hb__⟩ := hr; replace HE := cEb HE bup hb__; clear HO; have HO := Lib.hid ho__; clear ho__ hb__; go_wp2_with fail)
  refine hK.out _ _ ?_ (fun hHeld => ?_)
  focus (exact ((HE.out.block _ (lt_of_block HG2.out)).trans HG2.out))
  clear hK K
  try simp only [PT]
  refine tk 10 (oi := ⟨some 6, _, _, _, _, _⟩) (v := ?_) rfl (by kernel_rfl) (.inl ⟨by rfl, ?_⟩) hHeld ?_; rotate_left; focus (intro w hSw; (try dsimp only at hSw); go_simp; try with_reducible rfl)
  simp only [PT]
  refine wpAnyH_done (by kernel_rfl) ?_ _
  go_wp2_with fail
  refine wp_region_held_drew (S := fun u => u.heap[g2]? = some (.cells v.cells.toArray 27 (0, 0))) (by kernel_rfl) ?_ (fun hHeld => ?_)
  focus (exact ((HE.out.block _ (lt_of_block HG2.out)).trans HG2.out))
  refine tk 0 (oi := ⟨some 58, _, _, _, _, _⟩) (v := ?_) rfl (by kernel_rfl) (.inl ⟨by rfl, ?_⟩) hHeld ?_; rotate_left; focus (intro w hSw; (try dsimp only at hSw); go_simp; try with_reducible rfl)
  simp only [PT]
  refine tk 1 (oi := ⟨some 59, _, _, _, _, _⟩) (v := ?_) rfl (by kernel_rfl) (.inl ⟨by rfl, ?_⟩) hHeld ?_; rotate_left; focus (intro w hSw; (try dsimp only at hSw); go_simp; try with_reducible rfl)
  simp only [PT]
  refine' tk 2 (oi := ⟨some 60, _, _, _, _, _⟩) (v := _) rfl (by kernel_rfl) (yields_loadF rfl 24 (.tmp 59) rfl g2 8 rfl (.slice v.dad v.dn v.dc) (fun u hu => hu) rfl Try.underlying24 rfl) hHeld ?_
  simp only [PT]
  refine' tk 3 (oi := ⟨some 61, _, _, _, _, _⟩) (v := (.int .i64 (v.dn : Int))) rfl (by kernel_rfl) (.inl ⟨by rfl, ?_⟩) hHeld ?_; focus (intro w hSw; (try dsimp only at hSw); go_simp; first | done | rfl | (simp [*]; done) | (simp [*]; omega))
  simp only [PT]
  refine' tk 4 (oi := ⟨some 62, _, _, _, _, _⟩) (v := (.int .u64 (v.dn : Int))) rfl (by kernel_rfl) (.inl ⟨by rfl, ?_⟩) hHeld ?_; focus (intro w hSw; (try dsimp only at hSw); go_simp; first | done | rfl | (simp [*]; done) | (simp [*]; omega))
  simp only [PT]
  refine tk 5 (oi := ⟨some 63, _, _, _, _, _⟩) (v := ?_) rfl (by kernel_rfl) (.inl ⟨by rfl, ?_⟩) hHeld ?_; rotate_left; focus (intro w hSw; (try dsimp only at hSw); go_simp; try with_reducible rfl)
  simp only [PT]
  refine tk 7 (oi := ⟨some 65, _, _, _, _, _⟩) (v := ?_) rfl (by kernel_rfl) (.inl ⟨by rfl, ?_⟩) hHeld ?_; rotate_left; focus (intro w hSw; (try dsimp only at hSw); go_simp; try with_reducible rfl)
  simp only [PT]
  refine' tk 8 (oi := ⟨some 66, _, _, _, _, _⟩) (v := _) rfl (by kernel_rfl) (yields_loadF rfl 22 (.tmp 65) rfl g2 7 rfl (.int .u32 (v.len : Int)) (fun u hu => hu) rfl Try.underlying22 rfl) hHeld ?_
  simp only [PT]
  refine' tk 9 (oi := ⟨some 67, _, _, _, _, _⟩) (v := (.int .u64 (v.len : Int))) rfl (by kernel_rfl) (.inl ⟨by rfl, ?_⟩) hHeld ?_; focus (intro w hSw; (try dsimp only at hSw); go_simp; first | done | rfl | (simp [*]; done) | (simp [*]; omega))
  simp only [PT]
  refine tk 10 (oi := ⟨some 68, _, _, _, _, _⟩) (v := ?_) rfl (by kernel_rfl) (.inl ⟨by rfl, ?_⟩) hHeld ?_; rotate_left; focus (intro w hSw; (try dsimp only at hSw); go_simp; try with_reducible rfl)
  simp only [PT]
  refine wpAnyH_ready (rs := [6]) (by kernel_rfl) (by simp) ?_
  refine (AllReadyH.cons (o := ⟨some 64, _, _, _, _, _⟩) rfl (fun K hK => ?_) AllReadyH.nil)
  focus (go_simp; go_must (refine (four_int w1.heap.size ad2 L2.length c2 L2 _ v.dn (by first | rfl | omega) big _ (by omega) (by first | omega | exact Nat.zero_le _) rfl (own_keep HO.out bup) (Nat.le_trans HE.out.size (bsz bup))).mono ?_); intro e w4 hr; rw [← HL3.out] at hr; obtain ⟨⟨ad3, c3, rfl, ho__⟩, hb__⟩ := hr; replace HE := cEb HE bup hb__; clear HO; have HO := Lib.hid ho__; clear ho__ hb__; go_wp2_with fail)
  refine hK.out _ _ ?_ (fun hHeld => ?_)
  focus (exact ((HE.out.block _ (lt_of_block HG2.out)).trans HG2.out))
  clear hK K
  try simp only [PT]
  refine wpAnyH_ready (rs := [11]) (by kernel_rfl) (by simp) ?_
  refine (AllReadyH.cons (o := ⟨some 69, _, _, _, _, _⟩) rfl (fun K hK => ?_) AllReadyH.nil)
  focus (go_simp; go_must (refine (four_int w1.heap.size ad3 L3.length c3 L3 _ v.len (by first | rfl | omega) big _ (by omega) (by first | omega | exact Nat.zero_le _) rfl (own_keep HO.out bup) (Nat.le_trans HE.out.size (bsz bup))).mono ?_); intro e w5 hr; rw [← HL4.out] at hr; obtain ⟨⟨ad4, c4, rfl, ho__⟩, hb__⟩ := hr; replace HE := cEb HE bup hb__; clear HO; have HO := Lib.hid ho__; clear ho__ hb__; go_wp2_with fail)
  refine hK.out _ _ ?_ (fun hHeld => ?_)
  focus (exact ((HE.out.block _ (lt_of_block HG2.out)).trans HG2.out))
  clear hK K
  try simp only [PT]
  refine tk 12 (oi := ⟨some 6, _, _, _, _, _⟩) (v := ?_) rfl (by kernel_rfl) (.inl ⟨by rfl, ?_⟩) hHeld ?_; rotate_left; focus (intro w hSw; (try dsimp only at hSw); go_simp; try with_reducible rfl)
  simp only [PT]
  refine wpAnyH_done (by kernel_rfl) ?_ _
  go_wp2_with (first
    | ((with_reducible refine sl 72 ?_); go_must (refine wpL_loadF rfl 24 (.tmp 71) rfl g2 8 rfl (.slice v.dad v.dn v.dc) (by exact ((HE.out.block _ (lt_of_block HG2.out)).trans HG2.out)) rfl Try.underlying24 rfl ?_); simp only [PT])
    | (go_at_call 55; go_must (refine (refPadded_any v.dad v.dn v.dc v.dl _ (HV.out.1.below ((HB.out.trans (HE.out.mono HB.out.size)).trans (Below.mono bup (Nat.le_trans HB.out.size HE.out.size)))) (by omega)).mono ?_); intro e w6 hr; rw [← HPD.out] at hr; unfold RetB at hr; obtain ⟨adq, cq, rfl, ho__, hb__⟩ := hr; have BPD := Lib.hid (Bs.of_own ho__); replace HO := cOa HO bup hb__; replace HE := cE0 HE bup hb__; clear hb__ ho__)
    | ((with_reducible refine sl 74 ?_); go_must (refine wpL_appL elB rfl (.tmp 70) (.tmp 73) rfl w1.heap.size rfl (own_keep HO.out bup) rfl (BPD.out.below bup) L5 HL5.out.symm (by omega) (Nat.le_trans HE.out.size (bsz bup)) ?_); intro ad5 c5 w7 ho__ hb__; replace HE := cEb HE bup hb__; clear HO; have HO := Lib.hid ho__; clear ho__ hb__; simp only [PT])
    | ((with_reducible refine sl 119 ?_); go_must (refine wpL_loadF rfl 25 (.tmp 118) rfl g2 10 rfl (.slice v.oad v.on v.oc) (by exact ((HE.out.block _ (lt_of_block HG2.out)).trans HG2.out)) rfl Try.underlying25 rfl ?_); simp only [PT])
    | (go_at_call 56; (with_reducible show Calls _ _ #[Value.slice v.oad _ _, _] _ _); go_must (refine (refOptPut_any v.oad v.on v.oc v.os big _ (HV.out.2.2.below ((HB.out.trans (HE.out.mono HB.out.size)).trans (Below.mono bup (Nat.le_trans HB.out.size HE.out.size)))) (by omega) hoo).mono ?_); intro e wp hr; rw [← HPO.out] at hr; unfold RetB at hr; obtain ⟨adp, cp, rfl, ho__, hb__⟩ := hr; have BPO := Lib.hid (Bs.of_own ho__); replace HO := cOa HO bup hb__; replace HE := cE0 HE bup hb__; clear hb__ ho__)
    | ((with_reducible refine sl 122 ?_); go_must (refine wpL_appL elB rfl (.tmp 117) (.tmp 121) rfl w1.heap.size rfl (own_keep HO.out bup) rfl (BPO.out.below bup) BD HBD.out.symm (by omega) (Nat.le_trans HE.out.size (bsz bup)) ?_); intro adb cb wb ho__ hb__; replace HE := cEb HE bup hb__; clear HO; have HO := Lib.hid ho__; clear ho__ hb__; have HS := Lib.hid (Bs.of_own HO.out); have HF := Lib.hid (Below.refl wb.heap.size wb); have HP := Lib.hid (World.ownsRow_nil wb wb.heap.size 5 1); rw [← show BV [] = [] from rfl] at HP; simp only [PT])
    | (go_at_call 52; (with_reducible show Calls _ _ #[Value.slice none _ _, _, _] _ _); go_must (refine (four_int wb.heap.size none ([] : List UInt8).length 0 ([] : List UInt8) _ 6 (by first | rfl | omega) big _ (by omega) (by first | omega | exact Nat.zero_le _) rfl (own_keep HP.out bup) (Nat.le_trans HF.out.size (bsz bup))).mono ?_); intro e wx hr; rw [← HO1.out] at hr; obtain ⟨⟨adx, cx, rfl, ho__⟩, hb__⟩ := hr; replace HF := cEb HF bup hb__; clear HP; have HP := Lib.hid ho__; clear ho__ hb__)
    | (go_at_call 52; (with_reducible show Calls _ _ #[Value.slice adx _ _, _, _] _ _); go_must (refine (four_int wb.heap.size adx O1.length cx O1 _ N (by first | rfl | omega) big _ (by omega) (by first | omega | exact Nat.zero_le _) rfl (own_keep HP.out bup) (Nat.le_trans HF.out.size (bsz bup))).mono ?_); intro e wy hr; rw [← HO2.out] at hr; obtain ⟨⟨ady, cy, rfl, ho__⟩, hb__⟩ := hr; replace HF := cEb HF bup hb__; clear HP; have HP := Lib.hid ho__; clear ho__ hb__)
    | ((with_reducible refine sl 135 ?_); go_must (refine wpL_appL elB rfl (.tmp 133) (.tmp 134) rfl wb.heap.size rfl (own_keep HP.out bup) rfl (HS.out.below (HF.out.trans (Below.mono bup HF.out.size))) O3 HO3.out.symm (by omega) (Nat.le_trans HF.out.size (bsz bup)) ?_); intro adw cw ww ho__ hb__; replace HF := cEb HF bup hb__; clear HP; have HP := Lib.hid ho__; clear ho__ hb__; simp only [PT])
    | (go_at_call 52; (with_reducible show Calls _ _ #[Value.slice adw _ _, _, _] _ _); go_must (refine (four_int wb.heap.size adw O3.length cw O3 _ N (by first | rfl | omega) big _ (by omega) (by first | omega | exact Nat.zero_le _) rfl (own_keep HP.out bup) (Nat.le_trans HF.out.size (bsz bup))).mono ?_); intro e wz hr; rw [← HO4.out] at hr; obtain ⟨⟨adz, cz, rfl, ho__⟩, hb__⟩ := hr; replace HF := cEb HF bup hb__; clear HP; have HP := Lib.hid ho__; clear ho__ hb__))
  go_ret
  exact ⟨adz, cz, by rw [HFIN.out]; rfl, by rw [HFIN.out]; exact own_base HP.out (Nat.le_trans HB.out.size HE.out.size), HB.out.trans ((HE.out.trans (HF.out.mono HE.out.size)).mono HB.out.size)⟩
end Go.Proofs.Ytmfplinbbcoahaa
