/-
  Joined by program (merge.py): RB4, RB5, RB6, RB7, Fits.
-/
import Derived.Test.YtmfplinbbcoahaaM4
import Derived.Test.YtmfplinbbcoahaaM8
import Derived.Test.YtmfplinbbcoahaaM9
import Derived.Test.YtmfplinbbcoahaaM17
import Derived.Test.YtmfplinbbcoahaaM20
/-
  Chapter 26: a block laid by the document, kind by kind, walked (by genrefb.py).
-/
namespace Go.Proofs.Ytmfplinbbcoahaa
open Go.RowKit Go.Sort
set_option linter.unusedVariables false
set_option linter.unusedSimpArgs false

theorem four_nil (N : Nat) (big : Bool) (w : World) (hN : N ≤ 18446744073709551615) : Calls Try.prog 52 #[.slice none 0 0, .int .u64 N, .bool big] w (RetB 5 (putL N 4 big) w) :=
  (four_any w.heap.size none 0 [] N big w hN (Nat.zero_le _) (World.ownsRow_nil w w.heap.size 5 1) (Nat.le_refl _)).mono fun e w' h => by
    obtain ⟨⟨ad, c, he, ho⟩, hb⟩ := h
    exact ⟨ad, c, he, ho, hb⟩
set_option maxRecDepth 100000 in
set_option maxHeartbeats 8000000 in
theorem refBytes4 (v : BlkV) (big : Bool) (w : World) (hv : Blk w v) (hk : v.kind = 4) (hf : SmB v) (hm : mayP v.val = true) (hw : wfB v.val) :
    Calls Try.prog 25 #[.agg v.cells.toArray, .bool big] w (RetB 5 (bytesB big v.val) w) := by
  obtain ⟨z1, z2, z3⟩ := hf.sizes
  obtain ⟨_, hfit, hlink, hifc, hwo, hwn, hlast⟩ := (mayP_iff v.val).1 hm
  obtain ⟨hw1, hw2, hw3, hw4'⟩ := hw
  change 0 ≤ v.link ∧ v.link ≤ 65535 at hlink
  change 0 ≤ v.iface ∧ v.iface ≤ 4294967295 at hifc
  have hoo : ∀ o ∈ vals v.os, okO o := wrongO_zero.1 hwo
  have hon : ∀ o ∈ vals v.ns, okO o := wrongO_zero.1 hwn
  change v.type < 4294967296 at hw1
  change v.snap < 4294967296 at hw2
  change v.time < 18446744073709551616 at hw3
  change v.len < 4294967296 at hw4'
  have HB := Lib.hid (Below.refl w.heap.size w)
  have HV := Lib.hid hv
  have hdn := hv.1.len
  have HDN := Lib.hid hdn
  have hdl : v.dl.length ≤ 1100000 := by omega
  have HGG : Hid (ordB big v.val = big) := Lib.hid (by show (if v.kind = 1 then v.big else big) = _; rw [if_neg (by omega)])
  have HTY : Hid (typeB v.val = 3) := Lib.hid (by show (if v.kind = 7 then v.type else typeP v.kind) = _; rw [if_neg (by omega), hk]; rfl)
  have ew : IntKind.u64.wrap (v.type : Int) = (v.type : Int) := by rw [IntKind.wrap_u64]; omega
  have HKK := Lib.hid hk
  clear hv hf hm hfit hwo hwn hlast hdn
  have ele : IntKind.u64.wrap (v.len : Int) = (v.len : Int) := by rw [IntKind.wrap_u64]; omega
  obtain ⟨L1, hL1⟩ : ∃ L : List UInt8, L = putL v.len 4 big := ⟨_, rfl⟩
  have lL1 : L1.length ≤ 4 := by rw [hL1]; rw [putL4_length]; omega
  have HL1 := Lib.hid hL1
  clear hL1
  obtain ⟨PD, hPD⟩ : ∃ L : List UInt8, L = padL v.dl := ⟨_, rfl⟩
  have lPD : PD.length ≤ 1100003 := by rw [hPD]; rw [padL_length]; unfold padN; omega
  have HPD := Lib.hid hPD
  clear hPD
  obtain ⟨L2, hL2⟩ : ∃ L : List UInt8, L = L1 ++ PD := ⟨_, rfl⟩
  have lL2 : L2.length ≤ 1100010 := by rw [hL2]; rw [List.length_append]; omega
  have HL2 := Lib.hid hL2
  clear hL2
  have HFB : Hid (L2 = fieldsB big v.val) := Lib.hid (by rw [HL2.out, HL1.out, HPD.out]; unfold fieldsB; simp [show v.val.kind = 4 from HKK.out]; rfl)
  obtain ⟨PO, hPO⟩ : ∃ L : List UInt8, L = putAll big (vals v.os) := ⟨_, rfl⟩
  have lPO : PO.length ≤ 70424 := by rw [hPO]; rw [putAll_length]; split <;> omega
  have HPO := Lib.hid hPO
  clear hPO
  obtain ⟨BD, hBD⟩ : ∃ L : List UInt8, L = L2 ++ PO := ⟨_, rfl⟩
  have HFL : Hid (BD = bodyB big v.val) := Lib.hid (by rw [hBD]; unfold bodyB; rw [HFB.out, HPO.out]; rfl)
  have lBD : BD.length ≤ 1300000 := by rw [hBD, List.length_append]; first | omega | (simp; omega)
  have HBD := Lib.hid hBD
  clear hBD
  obtain ⟨N, hN⟩ : ∃ N, N = BD.length + 12 := ⟨_, rfl⟩
  have hNi : (BD.length : Int) + 12 = (N : Int) := by omega
  have hNw : IntKind.i64.wrap ((BD.length : Int) + 12) = (N : Int) := by rw [IntKind.wrap_i64]; omega
  have hNu : IntKind.u64.wrap (N : Int) = (N : Int) := by rw [IntKind.wrap_u64]; omega
  have hNv : IntKind.i64.wrap (N : Int) = (N : Int) := by rw [IntKind.wrap_i64]; omega
  have hNb : N ≤ 1400000 := by omega
  have HSZ : Hid (sizeB v.val = N) := Lib.hid (by rw [hN, HFL.out]; unfold sizeB; rw [bodyB_length big]; omega)
  clear hN
  obtain ⟨O1, hO1⟩ : ∃ L : List UInt8, L = [] ++ putL 3 4 big := ⟨_, rfl⟩
  have lO1 : O1.length ≤ 4 := by rw [hO1]; rw [List.length_append, putL4_length]; simp
  have HO1 := Lib.hid hO1
  clear hO1
  obtain ⟨O2, hO2⟩ : ∃ L : List UInt8, L = O1 ++ putL N 4 big := ⟨_, rfl⟩
  have lO2 : O2.length ≤ 8 := by rw [hO2]; rw [List.length_append, putL4_length]; omega
  have HO2 := Lib.hid hO2
  clear hO2
  obtain ⟨O3, hO3⟩ : ∃ L : List UInt8, L = O2 ++ BD := ⟨_, rfl⟩
  have lO3 : O3.length ≤ 1300010 := by rw [hO3]; rw [List.length_append]; omega
  have HO3 := Lib.hid hO3
  clear hO3
  obtain ⟨O4, hO4⟩ : ∃ L : List UInt8, L = O3 ++ putL N 4 big := ⟨_, rfl⟩
  have lO4 : O4.length ≤ 1300020 := by rw [hO4]; rw [List.length_append, putL4_length]; omega
  have HO4 := Lib.hid hO4
  clear hO4
  have HFIN : Hid (bytesB big v.val = O4) := Lib.hid (by
    unfold bytesB
    rw [HGG.out, HTY.out, HSZ.out, ← HFL.out, HO4.out, HO3.out, HO2.out, HO1.out]
    simp only [List.append_assoc, List.nil_append])
  go_enter Try.func25, Try.ntmps25
  go_wp2_with (first
    | ((with_reducible refine sl 2 ?_); go_must (refine wpL_boxG rfl 27 (.tmp 0) rfl v.cells.toArray rfl ?_); intro w1 g2 he__ le_g2 lt_g2 hg__ hb__; have HG2 := Lib.hid hg__; have hE__ := cU HB bup hb__; replace HB := ck HB hE__; clear hE__; clear hg__ hb__ he__; have HE := Lib.hid (Below.refl w1.heap.size w1); have HO := Lib.hid (World.ownsRow_nil w1 w1.heap.size 5 1); rw [← show BV [] = [] from rfl] at HO; simp only [PT])
    | ((with_reducible refine sl 10 ?_); go_must (refine wpL_loadF rfl 22 (.tmp 9) rfl g2 2 rfl (.int .u32 (v.type : Int)) (by exact ((HE.out.block _ (lt_of_block HG2.out)).trans HG2.out)) rfl Try.underlying22 rfl ?_); simp only [PT])
    | ((with_reducible refine sl 13 ?_); go_must (refine wpL_loadF rfl 3 (.tmp 12) rfl g2 0 rfl (.int .i64 v.kind) (by exact ((HE.out.block _ (lt_of_block HG2.out)).trans HG2.out)) rfl Try.underlying3 rfl ?_); simp only [PT]))
  refine wp_region_held_drew (S := fun u => u.heap[g2]? = some (.cells v.cells.toArray 27 (0, 0))) (by kernel_rfl) ?_ (fun hHeld => ?_)
  focus (exact ((HE.out.block _ (lt_of_block HG2.out)).trans HG2.out))
  refine tk 0 (oi := ⟨some 77, _, _, _, _, _⟩) (v := ?_) rfl (by kernel_rfl) (.inl ⟨by rfl, ?_⟩) hHeld ?_; rotate_left; focus (intro w hSw; (try dsimp only at hSw); go_simp; try with_reducible rfl)
  simp only [PT]
  refine tk 1 (oi := ⟨some 78, _, _, _, _, _⟩) (v := ?_) rfl (by kernel_rfl) (.inl ⟨by rfl, ?_⟩) hHeld ?_; rotate_left; focus (intro w hSw; (try dsimp only at hSw); go_simp; try with_reducible rfl)
  simp only [PT]
  refine' tk 2 (oi := ⟨some 79, _, _, _, _, _⟩) (v := _) rfl (by kernel_rfl) (yields_loadF rfl 22 (.tmp 78) rfl g2 7 rfl (.int .u32 (v.len : Int)) (fun u hu => hu) rfl Try.underlying22 rfl) hHeld ?_
  simp only [PT]
  refine' tk 3 (oi := ⟨some 80, _, _, _, _, _⟩) (v := (.int .u64 (v.len : Int))) rfl (by kernel_rfl) (.inl ⟨by rfl, ?_⟩) hHeld ?_; focus (intro w hSw; (try dsimp only at hSw); go_simp; first | done | rfl | (simp [*]; done) | (simp [*]; omega))
  simp only [PT]
  refine tk 4 (oi := ⟨some 81, _, _, _, _, _⟩) (v := ?_) rfl (by kernel_rfl) (.inl ⟨by rfl, ?_⟩) hHeld ?_; rotate_left; focus (intro w hSw; (try dsimp only at hSw); go_simp; try with_reducible rfl)
  simp only [PT]
  refine tk 6 (oi := ⟨some 83, _, _, _, _, _⟩) (v := ?_) rfl (by kernel_rfl) (.inl ⟨by rfl, ?_⟩) hHeld ?_; rotate_left; focus (intro w hSw; (try dsimp only at hSw); go_simp; try with_reducible rfl)
  simp only [PT]
  refine' tk 7 (oi := ⟨some 84, _, _, _, _, _⟩) (v := _) rfl (by kernel_rfl) (yields_loadF rfl 24 (.tmp 83) rfl g2 8 rfl (.slice v.dad v.dn v.dc) (fun u hu => hu) rfl Try.underlying24 rfl) hHeld ?_
  simp only [PT]
  refine wpAnyH_ready (rs := [5]) (by kernel_rfl) (by simp) ?_
  refine (AllReadyH.cons (o := ⟨some 82, _, _, _, _, _⟩) rfl (fun K hK => ?_) AllReadyH.nil)
  focus (go_simp; go_must (refine (four_nil v.len big _ (by omega)).mono ?_); intro e w2 hr; rw [← HL1.out] at hr; unfold RetB at hr; obtain ⟨ad1, c1, rfl, ho__, hb__⟩ := hr; (try replace BPD := cB1 BPD (Below.trans bup hb__)); clear HO; have HO := Lib.hid (own_base (base' := w1.heap.size) ho__ (Nat.le_trans HE.out.size (bsz bup))); replace HE := cE0 HE bup hb__; clear ho__ hb__; go_wp2_with fail)
  refine hK.out _ _ ?_ (fun hHeld => ?_)
  focus (exact ((HE.out.block _ (lt_of_block HG2.out)).trans HG2.out))
  clear hK K
  try simp only [PT]
  refine wpAnyH_ready (rs := [8]) (by kernel_rfl) (by simp) ?_
  refine (AllReadyH.cons (o := ⟨some 85, _, _, _, _, _⟩) rfl (fun K hK => ?_) AllReadyH.nil)
  focus (go_simp; go_must (refine (refPadded_any v.dad v.dn v.dc v.dl _ (HV.out.1.below ((HB.out.trans (HE.out.mono HB.out.size)).trans (Below.mono bup (Nat.le_trans HB.out.size HE.out.size)))) (by omega)).mono ?_); intro e w6 hr; rw [← HPD.out] at hr; unfold RetB at hr; obtain ⟨adq, cq, rfl, ho__, hb__⟩ := hr; have BPD := Lib.hid (Bs.of_own ho__); replace HO := cOa HO bup hb__; replace HE := cE0 HE bup hb__; clear hb__ ho__; go_wp2_with fail)
  refine hK.out _ _ ?_ (fun hHeld => ?_)
  focus (exact ((HE.out.block _ (lt_of_block HG2.out)).trans HG2.out))
  clear hK K
  try simp only [PT]
  refine wpAnyH_ready (rs := [9]) (by kernel_rfl) (by simp) ?_
  refine (AllReadyH.cons (o := ⟨some 86, _, _, _, _, _⟩) rfl (fun K hK => ?_) AllReadyH.nil)
  (go_must (refine step_appL elB rfl (.tmp 82) (.tmp 85) rfl w1.heap.size rfl (own_keep HO.out bup) rfl (BPD.out.below bup) L2 HL2.out.symm (by omega) (Nat.le_trans HE.out.size (bsz bup)) ?_); intro ad2 c2 w7 ho__ hb__; replace HE := cEb HE bup hb__; clear HO; have HO := Lib.hid ho__; clear ho__ hb__)
  refine hK.out _ _ ?_ (fun hHeld => ?_)
  focus (exact ((HE.out.block _ (lt_of_block HG2.out)).trans HG2.out))
  clear hK K
  try simp only [PT]
  refine tk 10 (oi := ⟨some 6, _, _, _, _, _⟩) (v := ?_) rfl (by kernel_rfl) (.inl ⟨by rfl, ?_⟩) hHeld ?_; rotate_left; focus (intro w hSw; (try dsimp only at hSw); go_simp; try with_reducible rfl)
  simp only [PT]
  refine wpAnyH_done (by kernel_rfl) ?_ _
  all_goals
    go_wp2_with (first
      | ((with_reducible refine sl 119 ?_); go_must (refine wpL_loadF rfl 25 (.tmp 118) rfl g2 10 rfl (.slice v.oad v.on v.oc) (by exact ((HE.out.block _ (lt_of_block HG2.out)).trans HG2.out)) rfl Try.underlying25 rfl ?_); simp only [PT])
      | (go_at_call 56; (with_reducible show Calls _ _ #[Value.slice v.oad _ _, _] _ _); go_must (refine (refOptPut_any v.oad v.on v.oc v.os big _ (HV.out.2.2.below ((HB.out.trans (HE.out.mono HB.out.size)).trans (Below.mono bup (Nat.le_trans HB.out.size HE.out.size)))) (by omega) hoo).mono ?_); intro e wp hr; rw [← HPO.out] at hr; unfold RetB at hr; obtain ⟨adp, cp, rfl, ho__, hb__⟩ := hr; have BPO := Lib.hid (Bs.of_own ho__); replace HO := cOa HO bup hb__; replace HE := cE0 HE bup hb__; clear hb__ ho__)
      | ((with_reducible refine sl 122 ?_); go_must (refine wpL_appL elB rfl (.tmp 117) (.tmp 121) rfl w1.heap.size rfl (own_keep HO.out bup) rfl (BPO.out.below bup) BD HBD.out.symm (by omega) (Nat.le_trans HE.out.size (bsz bup)) ?_); intro adb cb wb ho__ hb__; replace HE := cEb HE bup hb__; clear HO; have HO := Lib.hid ho__; clear ho__ hb__; have HS := Lib.hid (Bs.of_own HO.out); have HF := Lib.hid (Below.refl wb.heap.size wb); have HP := Lib.hid (World.ownsRow_nil wb wb.heap.size 5 1); rw [← show BV [] = [] from rfl] at HP; simp only [PT])
      | (go_at_call 52; (with_reducible show Calls _ _ #[Value.slice none _ _, _, _] _ _); go_must (refine (four_int wb.heap.size none ([] : List UInt8).length 0 ([] : List UInt8) _ 3 (by first | rfl | omega) big _ (by omega) (by first | omega | exact Nat.zero_le _) rfl (own_keep HP.out bup) (Nat.le_trans HF.out.size (bsz bup))).mono ?_); intro e wx hr; rw [← HO1.out] at hr; obtain ⟨⟨adx, cx, rfl, ho__⟩, hb__⟩ := hr; replace HF := cEb HF bup hb__; clear HP; have HP := Lib.hid ho__; clear ho__ hb__)
      | (go_at_call 52; (with_reducible show Calls _ _ #[Value.slice adx _ _, _, _] _ _); go_must (refine (four_int wb.heap.size adx O1.length cx O1 _ N (by first | rfl | omega) big _ (by omega) (by first | omega | exact Nat.zero_le _) rfl (own_keep HP.out bup) (Nat.le_trans HF.out.size (bsz bup))).mono ?_); intro e wy hr; rw [← HO2.out] at hr; obtain ⟨⟨ady, cy, rfl, ho__⟩, hb__⟩ := hr; replace HF := cEb HF bup hb__; clear HP; have HP := Lib.hid ho__; clear ho__ hb__)
      | ((with_reducible refine sl 135 ?_); go_must (refine wpL_appL elB rfl (.tmp 133) (.tmp 134) rfl wb.heap.size rfl (own_keep HP.out bup) rfl (HS.out.below (HF.out.trans (Below.mono bup HF.out.size))) O3 HO3.out.symm (by omega) (Nat.le_trans HF.out.size (bsz bup)) ?_); intro adw cw ww ho__ hb__; replace HF := cEb HF bup hb__; clear HP; have HP := Lib.hid ho__; clear ho__ hb__; simp only [PT])
      | (go_at_call 52; (with_reducible show Calls _ _ #[Value.slice adw _ _, _, _] _ _); go_must (refine (four_int wb.heap.size adw O3.length cw O3 _ N (by first | rfl | omega) big _ (by omega) (by first | omega | exact Nat.zero_le _) rfl (own_keep HP.out bup) (Nat.le_trans HF.out.size (bsz bup))).mono ?_); intro e wz hr; rw [← HO4.out] at hr; obtain ⟨⟨adz, cz, rfl, ho__⟩, hb__⟩ := hr; replace HF := cEb HF bup hb__; clear HP; have HP := Lib.hid ho__; clear ho__ hb__))
    go_ret
    exact ⟨adz, cz, by rw [HFIN.out]; rfl, by rw [HFIN.out]; exact own_base HP.out (Nat.le_trans HB.out.size HE.out.size), HB.out.trans ((HE.out.trans (HF.out.mono HE.out.size)).mono HB.out.size)⟩
end Go.Proofs.Ytmfplinbbcoahaa
/-
  Chapter 26: a block laid by the document, kind by kind, walked (by genrefb.py).
-/
namespace Go.Proofs.Ytmfplinbbcoahaa
open Go.RowKit Go.Sort
set_option linter.unusedVariables false
set_option linter.unusedSimpArgs false

set_option maxRecDepth 100000 in
set_option maxHeartbeats 8000000 in
theorem refBytes5a (v : BlkV) (big : Bool) (w : World) (hv : Blk w v) (hk : v.kind = 5) (hne : vals v.ns = []) (hf : SmB v) (hm : mayP v.val = true) (hw : wfB v.val) :
    Calls Try.prog 25 #[.agg v.cells.toArray, .bool big] w (RetB 5 (bytesB big v.val) w) := by
  obtain ⟨z1, z2, z3⟩ := hf.sizes
  obtain ⟨_, hfit, hlink, hifc, hwo, hwn, hlast⟩ := (mayP_iff v.val).1 hm
  obtain ⟨hw1, hw2, hw3, hw4'⟩ := hw
  change 0 ≤ v.link ∧ v.link ≤ 65535 at hlink
  change 0 ≤ v.iface ∧ v.iface ≤ 4294967295 at hifc
  have hoo : ∀ o ∈ vals v.os, okO o := wrongO_zero.1 hwo
  have hon : ∀ o ∈ vals v.ns, okO o := wrongO_zero.1 hwn
  change v.type < 4294967296 at hw1
  change v.snap < 4294967296 at hw2
  change v.time < 18446744073709551616 at hw3
  change v.len < 4294967296 at hw4'
  have HB := Lib.hid (Below.refl w.heap.size w)
  have HV := Lib.hid hv
  have hdn := hv.1.len
  have HDN := Lib.hid hdn
  have hdl : v.dl.length ≤ 1100000 := by omega
  have HGG : Hid (ordB big v.val = big) := Lib.hid (by show (if v.kind = 1 then v.big else big) = _; rw [if_neg (by omega)])
  have HTY : Hid (typeB v.val = 4) := Lib.hid (by show (if v.kind = 7 then v.type else typeP v.kind) = _; rw [if_neg (by omega), hk]; rfl)
  have ew : IntKind.u64.wrap (v.type : Int) = (v.type : Int) := by rw [IntKind.wrap_u64]; omega
  have HKK := Lib.hid hk
  clear hv hf hm hfit hwo hwn hlast hdn
  obtain ⟨PN, hPN⟩ : ∃ L : List UInt8, L = putAll big (vals v.ns) := ⟨_, rfl⟩
  have lPN : PN.length ≤ 70424 := by rw [hPN]; rw [putAll_length]; split <;> omega
  have HPN := Lib.hid hPN
  clear hPN
  obtain ⟨L1, hL1⟩ : ∃ L : List UInt8, L = [] ++ PN := ⟨_, rfl⟩
  have lL1 : L1.length ≤ 70424 := by rw [hL1]; simpa using lPN
  have HL1 := Lib.hid hL1
  clear hL1
  have hl0 : (L1.length : Int) = 0 := by
    have : L1.length = 0 := by rw [HL1.out, HPN.out, hne]; rfl
    omega
  have HFB : Hid ([0, 0, 0, 0] = fieldsB big v.val) := Lib.hid (by
    unfold fieldsB namesB; simp [show v.val.kind = 5 from HKK.out]
    exact fun h => absurd (show v.val.names = [] from hne) h)
  clear hne
  obtain ⟨PO, hPO⟩ : ∃ L : List UInt8, L = putAll big (vals v.os) := ⟨_, rfl⟩
  have lPO : PO.length ≤ 70424 := by rw [hPO]; rw [putAll_length]; split <;> omega
  have HPO := Lib.hid hPO
  clear hPO
  obtain ⟨BD, hBD⟩ : ∃ L : List UInt8, L = [0, 0, 0, 0] ++ PO := ⟨_, rfl⟩
  have HFL : Hid (BD = bodyB big v.val) := Lib.hid (by rw [hBD]; unfold bodyB; rw [HFB.out, HPO.out]; rfl)
  have lBD : BD.length ≤ 1300000 := by rw [hBD, List.length_append]; first | omega | (simp; omega)
  have HBD := Lib.hid hBD
  clear hBD
  obtain ⟨N, hN⟩ : ∃ N, N = BD.length + 12 := ⟨_, rfl⟩
  have hNi : (BD.length : Int) + 12 = (N : Int) := by omega
  have hNw : IntKind.i64.wrap ((BD.length : Int) + 12) = (N : Int) := by rw [IntKind.wrap_i64]; omega
  have hNu : IntKind.u64.wrap (N : Int) = (N : Int) := by rw [IntKind.wrap_u64]; omega
  have hNv : IntKind.i64.wrap (N : Int) = (N : Int) := by rw [IntKind.wrap_i64]; omega
  have hNb : N ≤ 1400000 := by omega
  have HSZ : Hid (sizeB v.val = N) := Lib.hid (by rw [hN, HFL.out]; unfold sizeB; rw [bodyB_length big]; omega)
  clear hN
  obtain ⟨O1, hO1⟩ : ∃ L : List UInt8, L = [] ++ putL 4 4 big := ⟨_, rfl⟩
  have lO1 : O1.length ≤ 4 := by rw [hO1]; rw [List.length_append, putL4_length]; simp
  have HO1 := Lib.hid hO1
  clear hO1
  obtain ⟨O2, hO2⟩ : ∃ L : List UInt8, L = O1 ++ putL N 4 big := ⟨_, rfl⟩
  have lO2 : O2.length ≤ 8 := by rw [hO2]; rw [List.length_append, putL4_length]; omega
  have HO2 := Lib.hid hO2
  clear hO2
  obtain ⟨O3, hO3⟩ : ∃ L : List UInt8, L = O2 ++ BD := ⟨_, rfl⟩
  have lO3 : O3.length ≤ 1300010 := by rw [hO3]; rw [List.length_append]; omega
  have HO3 := Lib.hid hO3
  clear hO3
  obtain ⟨O4, hO4⟩ : ∃ L : List UInt8, L = O3 ++ putL N 4 big := ⟨_, rfl⟩
  have lO4 : O4.length ≤ 1300020 := by rw [hO4]; rw [List.length_append, putL4_length]; omega
  have HO4 := Lib.hid hO4
  clear hO4
  have HFIN : Hid (bytesB big v.val = O4) := Lib.hid (by
    unfold bytesB
    rw [HGG.out, HTY.out, HSZ.out, ← HFL.out, HO4.out, HO3.out, HO2.out, HO1.out]
    simp only [List.append_assoc, List.nil_append])
  go_enter Try.func25, Try.ntmps25
  go_wp2_with (first
    | ((with_reducible refine sl 2 ?_); go_must (refine wpL_boxG rfl 27 (.tmp 0) rfl v.cells.toArray rfl ?_); intro w1 g2 he__ le_g2 lt_g2 hg__ hb__; have HG2 := Lib.hid hg__; have hE__ := cU HB bup hb__; replace HB := ck HB hE__; clear hE__; clear hg__ hb__ he__; have HE := Lib.hid (Below.refl w1.heap.size w1); have HO := Lib.hid (World.ownsRow_nil w1 w1.heap.size 5 1); rw [← show BV [] = [] from rfl] at HO; simp only [PT])
    | ((with_reducible refine sl 10 ?_); go_must (refine wpL_loadF rfl 22 (.tmp 9) rfl g2 2 rfl (.int .u32 (v.type : Int)) (by exact ((HE.out.block _ (lt_of_block HG2.out)).trans HG2.out)) rfl Try.underlying22 rfl ?_); simp only [PT])
    | ((with_reducible refine sl 13 ?_); go_must (refine wpL_loadF rfl 3 (.tmp 12) rfl g2 0 rfl (.int .i64 v.kind) (by exact ((HE.out.block _ (lt_of_block HG2.out)).trans HG2.out)) rfl Try.underlying3 rfl ?_); simp only [PT])
    | ((with_reducible refine sl 91 ?_); go_must (refine wpL_loadF rfl 25 (.tmp 90) rfl g2 9 rfl (.slice v.nad v.nn v.nc) (by exact ((HE.out.block _ (lt_of_block HG2.out)).trans HG2.out)) rfl Try.underlying25 rfl ?_); simp only [PT])
    | (go_at_call 56; (with_reducible show Calls _ _ #[Value.slice v.nad _ _, _] _ _); go_must (refine (refOptPut_any v.nad v.nn v.nc v.ns big _ (HV.out.2.1.below ((HB.out.trans (HE.out.mono HB.out.size)).trans (Below.mono bup (Nat.le_trans HB.out.size HE.out.size)))) (by omega) hon).mono ?_); intro e w3 hr; rw [← HPN.out] at hr; unfold RetB at hr; obtain ⟨adq, cq, rfl, ho__, hb__⟩ := hr; have BPN := Lib.hid (Bs.of_own ho__); replace HO := cOa HO bup hb__; replace HE := cE0 HE bup hb__; clear hb__ ho__)
    | ((with_reducible refine sl 94 ?_); go_must (refine wpL_appL elB rfl (.tmp 89) (.tmp 93) rfl w1.heap.size rfl (own_keep HO.out bup) rfl (BPN.out.below bup) L1 HL1.out.symm (by omega) (Nat.le_trans HE.out.size (bsz bup)) ?_); intro ad1 c1 w4 ho__ hb__; replace HE := cEb HE bup hb__; clear HO; have HO := Lib.hid ho__; clear ho__ hb__; simp only [PT])
    | ((with_reducible refine sl 98 ?_); go_must (refine wpL_lit rfl 4 _ rfl [0, 0, 0, 0] rfl (by decide) (by decide) (by rfl) ?_); intro w5 adl le__ ho__ hb__; clear HO; have HO := Lib.hid (own_base (base' := w1.heap.size) ho__ (Nat.le_trans HE.out.size (bsz bup))); replace HE := cE0 HE bup hb__; clear hb__ ho__ le__; simp only [PT])
    | ((with_reducible refine sl 119 ?_); go_must (refine wpL_loadF rfl 25 (.tmp 118) rfl g2 10 rfl (.slice v.oad v.on v.oc) (by exact ((HE.out.block _ (lt_of_block HG2.out)).trans HG2.out)) rfl Try.underlying25 rfl ?_); simp only [PT])
    | (go_at_call 56; (with_reducible show Calls _ _ #[Value.slice v.oad _ _, _] _ _); go_must (refine (refOptPut_any v.oad v.on v.oc v.os big _ (HV.out.2.2.below ((HB.out.trans (HE.out.mono HB.out.size)).trans (Below.mono bup (Nat.le_trans HB.out.size HE.out.size)))) (by omega) hoo).mono ?_); intro e wp hr; rw [← HPO.out] at hr; unfold RetB at hr; obtain ⟨adp, cp, rfl, ho__, hb__⟩ := hr; have BPO := Lib.hid (Bs.of_own ho__); replace HO := cOa HO bup hb__; replace HE := cE0 HE bup hb__; clear hb__ ho__)
    | ((with_reducible refine sl 122 ?_); go_must (refine wpL_appL elB rfl (.tmp 117) (.tmp 121) rfl w1.heap.size rfl (own_keep HO.out bup) rfl (BPO.out.below bup) BD HBD.out.symm (by omega) (Nat.le_trans HE.out.size (bsz bup)) ?_); intro adb cb wb ho__ hb__; replace HE := cEb HE bup hb__; clear HO; have HO := Lib.hid ho__; clear ho__ hb__; have HS := Lib.hid (Bs.of_own HO.out); have HF := Lib.hid (Below.refl wb.heap.size wb); have HP := Lib.hid (World.ownsRow_nil wb wb.heap.size 5 1); rw [← show BV [] = [] from rfl] at HP; simp only [PT])
    | (go_at_call 52; (with_reducible show Calls _ _ #[Value.slice none _ _, _, _] _ _); go_must (refine (four_int wb.heap.size none ([] : List UInt8).length 0 ([] : List UInt8) _ 4 (by first | rfl | omega) big _ (by omega) (by first | omega | exact Nat.zero_le _) rfl (own_keep HP.out bup) (Nat.le_trans HF.out.size (bsz bup))).mono ?_); intro e wx hr; rw [← HO1.out] at hr; obtain ⟨⟨adx, cx, rfl, ho__⟩, hb__⟩ := hr; replace HF := cEb HF bup hb__; clear HP; have HP := Lib.hid ho__; clear ho__ hb__)
    | (go_at_call 52; (with_reducible show Calls _ _ #[Value.slice adx _ _, _, _] _ _); go_must (refine (four_int wb.heap.size adx O1.length cx O1 _ N (by first | rfl | omega) big _ (by omega) (by first | omega | exact Nat.zero_le _) rfl (own_keep HP.out bup) (Nat.le_trans HF.out.size (bsz bup))).mono ?_); intro e wy hr; rw [← HO2.out] at hr; obtain ⟨⟨ady, cy, rfl, ho__⟩, hb__⟩ := hr; replace HF := cEb HF bup hb__; clear HP; have HP := Lib.hid ho__; clear ho__ hb__)
    | ((with_reducible refine sl 135 ?_); go_must (refine wpL_appL elB rfl (.tmp 133) (.tmp 134) rfl wb.heap.size rfl (own_keep HP.out bup) rfl (HS.out.below (HF.out.trans (Below.mono bup HF.out.size))) O3 HO3.out.symm (by omega) (Nat.le_trans HF.out.size (bsz bup)) ?_); intro adw cw ww ho__ hb__; replace HF := cEb HF bup hb__; clear HP; have HP := Lib.hid ho__; clear ho__ hb__; simp only [PT])
    | (go_at_call 52; (with_reducible show Calls _ _ #[Value.slice adw _ _, _, _] _ _); go_must (refine (four_int wb.heap.size adw O3.length cw O3 _ N (by first | rfl | omega) big _ (by omega) (by first | omega | exact Nat.zero_le _) rfl (own_keep HP.out bup) (Nat.le_trans HF.out.size (bsz bup))).mono ?_); intro e wz hr; rw [← HO4.out] at hr; obtain ⟨⟨adz, cz, rfl, ho__⟩, hb__⟩ := hr; replace HF := cEb HF bup hb__; clear HP; have HP := Lib.hid ho__; clear ho__ hb__))
  go_ret
  exact ⟨adz, cz, by rw [HFIN.out]; rfl, by rw [HFIN.out]; exact own_base HP.out (Nat.le_trans HB.out.size HE.out.size), HB.out.trans ((HE.out.trans (HF.out.mono HE.out.size)).mono HB.out.size)⟩

set_option maxRecDepth 100000 in
set_option maxHeartbeats 8000000 in
theorem refBytes5b (v : BlkV) (big : Bool) (w : World) (hv : Blk w v) (hk : v.kind = 5) (hne : ¬ vals v.ns = []) (hf : SmB v) (hm : mayP v.val = true) (hw : wfB v.val) :
    Calls Try.prog 25 #[.agg v.cells.toArray, .bool big] w (RetB 5 (bytesB big v.val) w) := by
  obtain ⟨z1, z2, z3⟩ := hf.sizes
  obtain ⟨_, hfit, hlink, hifc, hwo, hwn, hlast⟩ := (mayP_iff v.val).1 hm
  obtain ⟨hw1, hw2, hw3, hw4'⟩ := hw
  change 0 ≤ v.link ∧ v.link ≤ 65535 at hlink
  change 0 ≤ v.iface ∧ v.iface ≤ 4294967295 at hifc
  have hoo : ∀ o ∈ vals v.os, okO o := wrongO_zero.1 hwo
  have hon : ∀ o ∈ vals v.ns, okO o := wrongO_zero.1 hwn
  change v.type < 4294967296 at hw1
  change v.snap < 4294967296 at hw2
  change v.time < 18446744073709551616 at hw3
  change v.len < 4294967296 at hw4'
  have HB := Lib.hid (Below.refl w.heap.size w)
  have HV := Lib.hid hv
  have hdn := hv.1.len
  have HDN := Lib.hid hdn
  have hdl : v.dl.length ≤ 1100000 := by omega
  have HGG : Hid (ordB big v.val = big) := Lib.hid (by show (if v.kind = 1 then v.big else big) = _; rw [if_neg (by omega)])
  have HTY : Hid (typeB v.val = 4) := Lib.hid (by show (if v.kind = 7 then v.type else typeP v.kind) = _; rw [if_neg (by omega), hk]; rfl)
  have ew : IntKind.u64.wrap (v.type : Int) = (v.type : Int) := by rw [IntKind.wrap_u64]; omega
  have HKK := Lib.hid hk
  clear hv hf hm hfit hwo hwn hlast hdn
  obtain ⟨PN, hPN⟩ : ∃ L : List UInt8, L = putAll big (vals v.ns) := ⟨_, rfl⟩
  have lPN : PN.length ≤ 70424 := by rw [hPN]; rw [putAll_length]; split <;> omega
  have HPN := Lib.hid hPN
  clear hPN
  obtain ⟨L1, hL1⟩ : ∃ L : List UInt8, L = [] ++ PN := ⟨_, rfl⟩
  have lL1 : L1.length ≤ 70424 := by rw [hL1]; simpa using lPN
  have HL1 := Lib.hid hL1
  clear hL1
  have hl0 : ¬ (L1.length : Int) = 0 := by
    have : L1.length = sizeO (vals v.ns) + 4 := by rw [HL1.out, HPN.out, List.nil_append, putAll_length]; rw [if_neg (by simpa using hne)]
    omega
  have HFB : Hid (L1 = fieldsB big v.val) := Lib.hid (by
    rw [HL1.out, HPN.out]; unfold fieldsB namesB; simp [show v.val.kind = 5 from HKK.out]
    rw [if_neg (show ¬ v.val.names = [] from hne)]
    rfl)
  clear hne
  obtain ⟨PO, hPO⟩ : ∃ L : List UInt8, L = putAll big (vals v.os) := ⟨_, rfl⟩
  have lPO : PO.length ≤ 70424 := by rw [hPO]; rw [putAll_length]; split <;> omega
  have HPO := Lib.hid hPO
  clear hPO
  obtain ⟨BD, hBD⟩ : ∃ L : List UInt8, L = L1 ++ PO := ⟨_, rfl⟩
  have HFL : Hid (BD = bodyB big v.val) := Lib.hid (by rw [hBD]; unfold bodyB; rw [HFB.out, HPO.out]; rfl)
  have lBD : BD.length ≤ 1300000 := by rw [hBD, List.length_append]; first | omega | (simp; omega)
  have HBD := Lib.hid hBD
  clear hBD
  obtain ⟨N, hN⟩ : ∃ N, N = BD.length + 12 := ⟨_, rfl⟩
  have hNi : (BD.length : Int) + 12 = (N : Int) := by omega
  have hNw : IntKind.i64.wrap ((BD.length : Int) + 12) = (N : Int) := by rw [IntKind.wrap_i64]; omega
  have hNu : IntKind.u64.wrap (N : Int) = (N : Int) := by rw [IntKind.wrap_u64]; omega
  have hNv : IntKind.i64.wrap (N : Int) = (N : Int) := by rw [IntKind.wrap_i64]; omega
  have hNb : N ≤ 1400000 := by omega
  have HSZ : Hid (sizeB v.val = N) := Lib.hid (by rw [hN, HFL.out]; unfold sizeB; rw [bodyB_length big]; omega)
  clear hN
  obtain ⟨O1, hO1⟩ : ∃ L : List UInt8, L = [] ++ putL 4 4 big := ⟨_, rfl⟩
  have lO1 : O1.length ≤ 4 := by rw [hO1]; rw [List.length_append, putL4_length]; simp
  have HO1 := Lib.hid hO1
  clear hO1
  obtain ⟨O2, hO2⟩ : ∃ L : List UInt8, L = O1 ++ putL N 4 big := ⟨_, rfl⟩
  have lO2 : O2.length ≤ 8 := by rw [hO2]; rw [List.length_append, putL4_length]; omega
  have HO2 := Lib.hid hO2
  clear hO2
  obtain ⟨O3, hO3⟩ : ∃ L : List UInt8, L = O2 ++ BD := ⟨_, rfl⟩
  have lO3 : O3.length ≤ 1300010 := by rw [hO3]; rw [List.length_append]; omega
  have HO3 := Lib.hid hO3
  clear hO3
  obtain ⟨O4, hO4⟩ : ∃ L : List UInt8, L = O3 ++ putL N 4 big := ⟨_, rfl⟩
  have lO4 : O4.length ≤ 1300020 := by rw [hO4]; rw [List.length_append, putL4_length]; omega
  have HO4 := Lib.hid hO4
  clear hO4
  have HFIN : Hid (bytesB big v.val = O4) := Lib.hid (by
    unfold bytesB
    rw [HGG.out, HTY.out, HSZ.out, ← HFL.out, HO4.out, HO3.out, HO2.out, HO1.out]
    simp only [List.append_assoc, List.nil_append])
  go_enter Try.func25, Try.ntmps25
  go_wp2_with (first
    | ((with_reducible refine sl 2 ?_); go_must (refine wpL_boxG rfl 27 (.tmp 0) rfl v.cells.toArray rfl ?_); intro w1 g2 he__ le_g2 lt_g2 hg__ hb__; have HG2 := Lib.hid hg__; have hE__ := cU HB bup hb__; replace HB := ck HB hE__; clear hE__; clear hg__ hb__ he__; have HE := Lib.hid (Below.refl w1.heap.size w1); have HO := Lib.hid (World.ownsRow_nil w1 w1.heap.size 5 1); rw [← show BV [] = [] from rfl] at HO; simp only [PT])
    | ((with_reducible refine sl 10 ?_); go_must (refine wpL_loadF rfl 22 (.tmp 9) rfl g2 2 rfl (.int .u32 (v.type : Int)) (by exact ((HE.out.block _ (lt_of_block HG2.out)).trans HG2.out)) rfl Try.underlying22 rfl ?_); simp only [PT])
    | ((with_reducible refine sl 13 ?_); go_must (refine wpL_loadF rfl 3 (.tmp 12) rfl g2 0 rfl (.int .i64 v.kind) (by exact ((HE.out.block _ (lt_of_block HG2.out)).trans HG2.out)) rfl Try.underlying3 rfl ?_); simp only [PT])
    | ((with_reducible refine sl 91 ?_); go_must (refine wpL_loadF rfl 25 (.tmp 90) rfl g2 9 rfl (.slice v.nad v.nn v.nc) (by exact ((HE.out.block _ (lt_of_block HG2.out)).trans HG2.out)) rfl Try.underlying25 rfl ?_); simp only [PT])
    | (go_at_call 56; (with_reducible show Calls _ _ #[Value.slice v.nad _ _, _] _ _); go_must (refine (refOptPut_any v.nad v.nn v.nc v.ns big _ (HV.out.2.1.below ((HB.out.trans (HE.out.mono HB.out.size)).trans (Below.mono bup (Nat.le_trans HB.out.size HE.out.size)))) (by omega) hon).mono ?_); intro e w3 hr; rw [← HPN.out] at hr; unfold RetB at hr; obtain ⟨adq, cq, rfl, ho__, hb__⟩ := hr; have BPN := Lib.hid (Bs.of_own ho__); replace HO := cOa HO bup hb__; replace HE := cE0 HE bup hb__; clear hb__ ho__)
    | ((with_reducible refine sl 94 ?_); go_must (refine wpL_appL elB rfl (.tmp 89) (.tmp 93) rfl w1.heap.size rfl (own_keep HO.out bup) rfl (BPN.out.below bup) L1 HL1.out.symm (by omega) (Nat.le_trans HE.out.size (bsz bup)) ?_); intro ad1 c1 w4 ho__ hb__; replace HE := cEb HE bup hb__; clear HO; have HO := Lib.hid ho__; clear ho__ hb__; simp only [PT])
    | ((with_reducible refine sl 119 ?_); go_must (refine wpL_loadF rfl 25 (.tmp 118) rfl g2 10 rfl (.slice v.oad v.on v.oc) (by exact ((HE.out.block _ (lt_of_block HG2.out)).trans HG2.out)) rfl Try.underlying25 rfl ?_); simp only [PT])
    | (go_at_call 56; (with_reducible show Calls _ _ #[Value.slice v.oad _ _, _] _ _); go_must (refine (refOptPut_any v.oad v.on v.oc v.os big _ (HV.out.2.2.below ((HB.out.trans (HE.out.mono HB.out.size)).trans (Below.mono bup (Nat.le_trans HB.out.size HE.out.size)))) (by omega) hoo).mono ?_); intro e wp hr; rw [← HPO.out] at hr; unfold RetB at hr; obtain ⟨adp, cp, rfl, ho__, hb__⟩ := hr; have BPO := Lib.hid (Bs.of_own ho__); replace HO := cOa HO bup hb__; replace HE := cE0 HE bup hb__; clear hb__ ho__)
    | ((with_reducible refine sl 122 ?_); go_must (refine wpL_appL elB rfl (.tmp 117) (.tmp 121) rfl w1.heap.size rfl (own_keep HO.out bup) rfl (BPO.out.below bup) BD HBD.out.symm (by omega) (Nat.le_trans HE.out.size (bsz bup)) ?_); intro adb cb wb ho__ hb__; replace HE := cEb HE bup hb__; clear HO; have HO := Lib.hid ho__; clear ho__ hb__; have HS := Lib.hid (Bs.of_own HO.out); have HF := Lib.hid (Below.refl wb.heap.size wb); have HP := Lib.hid (World.ownsRow_nil wb wb.heap.size 5 1); rw [← show BV [] = [] from rfl] at HP; simp only [PT])
    | (go_at_call 52; (with_reducible show Calls _ _ #[Value.slice none _ _, _, _] _ _); go_must (refine (four_int wb.heap.size none ([] : List UInt8).length 0 ([] : List UInt8) _ 4 (by first | rfl | omega) big _ (by omega) (by first | omega | exact Nat.zero_le _) rfl (own_keep HP.out bup) (Nat.le_trans HF.out.size (bsz bup))).mono ?_); intro e wx hr; rw [← HO1.out] at hr; obtain ⟨⟨adx, cx, rfl, ho__⟩, hb__⟩ := hr; replace HF := cEb HF bup hb__; clear HP; have HP := Lib.hid ho__; clear ho__ hb__)
    | (go_at_call 52; (with_reducible show Calls _ _ #[Value.slice adx _ _, _, _] _ _); go_must (refine (four_int wb.heap.size adx O1.length cx O1 _ N (by first | rfl | omega) big _ (by omega) (by first | omega | exact Nat.zero_le _) rfl (own_keep HP.out bup) (Nat.le_trans HF.out.size (bsz bup))).mono ?_); intro e wy hr; rw [← HO2.out] at hr; obtain ⟨⟨ady, cy, rfl, ho__⟩, hb__⟩ := hr; replace HF := cEb HF bup hb__; clear HP; have HP := Lib.hid ho__; clear ho__ hb__)
    | ((with_reducible refine sl 135 ?_); go_must (refine wpL_appL elB rfl (.tmp 133) (.tmp 134) rfl wb.heap.size rfl (own_keep HP.out bup) rfl (HS.out.below (HF.out.trans (Below.mono bup HF.out.size))) O3 HO3.out.symm (by omega) (Nat.le_trans HF.out.size (bsz bup)) ?_); intro adw cw ww ho__ hb__; replace HF := cEb HF bup hb__; clear HP; have HP := Lib.hid ho__; clear ho__ hb__; simp only [PT])
    | (go_at_call 52; (with_reducible show Calls _ _ #[Value.slice adw _ _, _, _] _ _); go_must (refine (four_int wb.heap.size adw O3.length cw O3 _ N (by first | rfl | omega) big _ (by omega) (by first | omega | exact Nat.zero_le _) rfl (own_keep HP.out bup) (Nat.le_trans HF.out.size (bsz bup))).mono ?_); intro e wz hr; rw [← HO4.out] at hr; obtain ⟨⟨adz, cz, rfl, ho__⟩, hb__⟩ := hr; replace HF := cEb HF bup hb__; clear HP; have HP := Lib.hid ho__; clear ho__ hb__))
  go_ret
  exact ⟨adz, cz, by rw [HFIN.out]; rfl, by rw [HFIN.out]; exact own_base HP.out (Nat.le_trans HB.out.size HE.out.size), HB.out.trans ((HE.out.trans (HF.out.mono HE.out.size)).mono HB.out.size)⟩
end Go.Proofs.Ytmfplinbbcoahaa
/-
  Chapter 26: a block laid by the document, kind by kind, walked (by genrefb.py).
-/
namespace Go.Proofs.Ytmfplinbbcoahaa
open Go.RowKit Go.Sort
set_option linter.unusedVariables false
set_option linter.unusedSimpArgs false

set_option maxRecDepth 100000 in
set_option maxHeartbeats 8000000 in
theorem refBytes6 (v : BlkV) (big : Bool) (w : World) (hv : Blk w v) (hk : v.kind = 6) (hf : SmB v) (hm : mayP v.val = true) (hw : wfB v.val) :
    Calls Try.prog 25 #[.agg v.cells.toArray, .bool big] w (RetB 5 (bytesB big v.val) w) := by
  obtain ⟨z1, z2, z3⟩ := hf.sizes
  obtain ⟨_, hfit, hlink, hifc, hwo, hwn, hlast⟩ := (mayP_iff v.val).1 hm
  obtain ⟨hw1, hw2, hw3, hw4'⟩ := hw
  change 0 ≤ v.link ∧ v.link ≤ 65535 at hlink
  change 0 ≤ v.iface ∧ v.iface ≤ 4294967295 at hifc
  have hoo : ∀ o ∈ vals v.os, okO o := wrongO_zero.1 hwo
  have hon : ∀ o ∈ vals v.ns, okO o := wrongO_zero.1 hwn
  change v.type < 4294967296 at hw1
  change v.snap < 4294967296 at hw2
  change v.time < 18446744073709551616 at hw3
  change v.len < 4294967296 at hw4'
  have HB := Lib.hid (Below.refl w.heap.size w)
  have HV := Lib.hid hv
  have hdn := hv.1.len
  have HDN := Lib.hid hdn
  have hdl : v.dl.length ≤ 1100000 := by omega
  have HGG : Hid (ordB big v.val = big) := Lib.hid (by show (if v.kind = 1 then v.big else big) = _; rw [if_neg (by omega)])
  have HTY : Hid (typeB v.val = 5) := Lib.hid (by show (if v.kind = 7 then v.type else typeP v.kind) = _; rw [if_neg (by omega), hk]; rfl)
  have ew : IntKind.u64.wrap (v.type : Int) = (v.type : Int) := by rw [IntKind.wrap_u64]; omega
  have HKK := Lib.hid hk
  clear hv hf hm hfit hwo hwn hlast hdn
  obtain ⟨fi, hfi⟩ : ∃ n, n = v.iface.toNat := ⟨_, rfl⟩
  have hfi2 : IntKind.u64.wrap v.iface = (fi : Int) := by rw [IntKind.wrap_u64]; omega
  have hfi3 : fi ≤ 4294967295 := by omega
  have HFI := Lib.hid hfi
  clear hfi
  obtain ⟨L1, hL1⟩ : ∃ L : List UInt8, L = [] ++ putL fi 4 big := ⟨_, rfl⟩
  have lL1 : L1.length ≤ 4 := by rw [hL1]; simp [putL4_length]
  have HL1 := Lib.hid hL1
  clear hL1
  obtain ⟨L2, hL2⟩ : ∃ L : List UInt8, L = L1 ++ timeB big v.time := ⟨_, rfl⟩
  have lL2 : L2.length ≤ 12 := by rw [hL2]; rw [List.length_append]; unfold timeB; simp only [List.length_append, putL4_length]; omega
  have HL2 := Lib.hid hL2
  clear hL2
  have HFB : Hid (L2 = fieldsB big v.val) := Lib.hid (by rw [HL2.out, HL1.out, HFI.out]; unfold fieldsB; simp [show v.val.kind = 6 from HKK.out]; rfl)
  obtain ⟨PO, hPO⟩ : ∃ L : List UInt8, L = putAll big (vals v.os) := ⟨_, rfl⟩
  have lPO : PO.length ≤ 70424 := by rw [hPO]; rw [putAll_length]; split <;> omega
  have HPO := Lib.hid hPO
  clear hPO
  obtain ⟨BD, hBD⟩ : ∃ L : List UInt8, L = L2 ++ PO := ⟨_, rfl⟩
  have HFL : Hid (BD = bodyB big v.val) := Lib.hid (by rw [hBD]; unfold bodyB; rw [HFB.out, HPO.out]; rfl)
  have lBD : BD.length ≤ 1300000 := by rw [hBD, List.length_append]; first | omega | (simp; omega)
  have HBD := Lib.hid hBD
  clear hBD
  obtain ⟨N, hN⟩ : ∃ N, N = BD.length + 12 := ⟨_, rfl⟩
  have hNi : (BD.length : Int) + 12 = (N : Int) := by omega
  have hNw : IntKind.i64.wrap ((BD.length : Int) + 12) = (N : Int) := by rw [IntKind.wrap_i64]; omega
  have hNu : IntKind.u64.wrap (N : Int) = (N : Int) := by rw [IntKind.wrap_u64]; omega
  have hNv : IntKind.i64.wrap (N : Int) = (N : Int) := by rw [IntKind.wrap_i64]; omega
  have hNb : N ≤ 1400000 := by omega
  have HSZ : Hid (sizeB v.val = N) := Lib.hid (by rw [hN, HFL.out]; unfold sizeB; rw [bodyB_length big]; omega)
  clear hN
  obtain ⟨O1, hO1⟩ : ∃ L : List UInt8, L = [] ++ putL 5 4 big := ⟨_, rfl⟩
  have lO1 : O1.length ≤ 4 := by rw [hO1]; rw [List.length_append, putL4_length]; simp
  have HO1 := Lib.hid hO1
  clear hO1
  obtain ⟨O2, hO2⟩ : ∃ L : List UInt8, L = O1 ++ putL N 4 big := ⟨_, rfl⟩
  have lO2 : O2.length ≤ 8 := by rw [hO2]; rw [List.length_append, putL4_length]; omega
  have HO2 := Lib.hid hO2
  clear hO2
  obtain ⟨O3, hO3⟩ : ∃ L : List UInt8, L = O2 ++ BD := ⟨_, rfl⟩
  have lO3 : O3.length ≤ 1300010 := by rw [hO3]; rw [List.length_append]; omega
  have HO3 := Lib.hid hO3
  clear hO3
  obtain ⟨O4, hO4⟩ : ∃ L : List UInt8, L = O3 ++ putL N 4 big := ⟨_, rfl⟩
  have lO4 : O4.length ≤ 1300020 := by rw [hO4]; rw [List.length_append, putL4_length]; omega
  have HO4 := Lib.hid hO4
  clear hO4
  have HFIN : Hid (bytesB big v.val = O4) := Lib.hid (by
    unfold bytesB
    rw [HGG.out, HTY.out, HSZ.out, ← HFL.out, HO4.out, HO3.out, HO2.out, HO1.out]
    simp only [List.append_assoc, List.nil_append])
  go_enter Try.func25, Try.ntmps25
  go_wp2_with (first
    | ((with_reducible refine sl 2 ?_); go_must (refine wpL_boxG rfl 27 (.tmp 0) rfl v.cells.toArray rfl ?_); intro w1 g2 he__ le_g2 lt_g2 hg__ hb__; have HG2 := Lib.hid hg__; have hE__ := cU HB bup hb__; replace HB := ck HB hE__; clear hE__; clear hg__ hb__ he__; have HE := Lib.hid (Below.refl w1.heap.size w1); have HO := Lib.hid (World.ownsRow_nil w1 w1.heap.size 5 1); rw [← show BV [] = [] from rfl] at HO; simp only [PT])
    | ((with_reducible refine sl 10 ?_); go_must (refine wpL_loadF rfl 22 (.tmp 9) rfl g2 2 rfl (.int .u32 (v.type : Int)) (by exact ((HE.out.block _ (lt_of_block HG2.out)).trans HG2.out)) rfl Try.underlying22 rfl ?_); simp only [PT])
    | ((with_reducible refine sl 13 ?_); go_must (refine wpL_loadF rfl 3 (.tmp 12) rfl g2 0 rfl (.int .i64 v.kind) (by exact ((HE.out.block _ (lt_of_block HG2.out)).trans HG2.out)) rfl Try.underlying3 rfl ?_); simp only [PT]))
  refine wp_region_held_drew (S := fun u => u.heap[g2]? = some (.cells v.cells.toArray 27 (0, 0))) (by kernel_rfl) ?_ (fun hHeld => ?_)
  focus (exact ((HE.out.block _ (lt_of_block HG2.out)).trans HG2.out))
  refine tk 0 (oi := ⟨some 101, _, _, _, _, _⟩) (v := ?_) rfl (by kernel_rfl) (.inl ⟨by rfl, ?_⟩) hHeld ?_; rotate_left; focus (intro w hSw; (try dsimp only at hSw); go_simp; try with_reducible rfl)
  simp only [PT]
  refine tk 1 (oi := ⟨some 102, _, _, _, _, _⟩) (v := ?_) rfl (by kernel_rfl) (.inl ⟨by rfl, ?_⟩) hHeld ?_; rotate_left; focus (intro w hSw; (try dsimp only at hSw); go_simp; try with_reducible rfl)
  simp only [PT]
  refine' tk 2 (oi := ⟨some 103, _, _, _, _, _⟩) (v := _) rfl (by kernel_rfl) (yields_loadF rfl 3 (.tmp 102) rfl g2 5 rfl (.int .i64 v.iface) (fun u hu => hu) rfl Try.underlying3 rfl) hHeld ?_
  simp only [PT]
  refine' tk 3 (oi := ⟨some 104, _, _, _, _, _⟩) (v := (.int .u64 (fi : Int))) rfl (by kernel_rfl) (.inl ⟨by rfl, ?_⟩) hHeld ?_; focus (intro w hSw; (try dsimp only at hSw); go_simp; first | done | rfl | (simp [*]; done) | (simp [*]; omega))
  simp only [PT]
  refine tk 4 (oi := ⟨some 105, _, _, _, _, _⟩) (v := ?_) rfl (by kernel_rfl) (.inl ⟨by rfl, ?_⟩) hHeld ?_; rotate_left; focus (intro w hSw; (try dsimp only at hSw); go_simp; try with_reducible rfl)
  simp only [PT]
  refine tk 6 (oi := ⟨some 107, _, _, _, _, _⟩) (v := ?_) rfl (by kernel_rfl) (.inl ⟨by rfl, ?_⟩) hHeld ?_; rotate_left; focus (intro w hSw; (try dsimp only at hSw); go_simp; try with_reducible rfl)
  simp only [PT]
  refine' tk 7 (oi := ⟨some 108, _, _, _, _, _⟩) (v := _) rfl (by kernel_rfl) (yields_loadF rfl 23 (.tmp 107) rfl g2 6 rfl (.int .u64 (v.time : Int)) (fun u hu => hu) rfl Try.underlying23 rfl) hHeld ?_
  simp only [PT]
  refine tk 8 (oi := ⟨some 109, _, _, _, _, _⟩) (v := ?_) rfl (by kernel_rfl) (.inl ⟨by rfl, ?_⟩) hHeld ?_; rotate_left; focus (intro w hSw; (try dsimp only at hSw); go_simp; try with_reducible rfl)
  simp only [PT]
  refine wpAnyH_ready (rs := [5]) (by kernel_rfl) (by simp) ?_
  refine (AllReadyH.cons (o := ⟨some 106, _, _, _, _, _⟩) rfl (fun K hK => ?_) AllReadyH.nil)
  focus (go_simp; go_must (refine (four_int w1.heap.size none ([] : List UInt8).length 0 ([] : List UInt8) _ fi (by first | rfl | omega) big _ (by omega) (by first | omega | exact Nat.zero_le _) rfl (own_keep HO.out bup) (Nat.le_trans HE.out.size (bsz bup))).mono ?_); intro e w2 hr; rw [← HL1.out] at hr; obtain ⟨⟨ad1, c1, rfl, ho__⟩, hb__⟩ := hr; replace HE := cEb HE bup hb__; clear HO; have HO := Lib.hid ho__; clear ho__ hb__; go_wp2_with fail)
  refine hK.out _ _ ?_ (fun hHeld => ?_)
  focus (exact ((HE.out.block _ (lt_of_block HG2.out)).trans HG2.out))
  clear hK K
  try simp only [PT]
  refine wpAnyH_ready (rs := [9]) (by kernel_rfl) (by simp) ?_
  refine (AllReadyH.cons (o := ⟨some 110, _, _, _, _, _⟩) rfl (fun K hK => ?_) AllReadyH.nil)
  focus (go_simp; go_must (refine (refTime_any w1.heap.size ad1 c1 L1 v.time big _ (by omega) (by omega) (own_keep HO.out bup) (Nat.le_trans HE.out.size (bsz bup))).mono ?_); intro e w3 hr; rw [← HL2.out] at hr; obtain ⟨⟨ad2, c2, rfl, ho__⟩, hb__⟩ := hr; replace HE := cEb HE bup hb__; clear HO; have HO := Lib.hid ho__; clear ho__ hb__; go_wp2_with fail)
  refine hK.out _ _ ?_ (fun hHeld => ?_)
  focus (exact ((HE.out.block _ (lt_of_block HG2.out)).trans HG2.out))
  clear hK K
  try simp only [PT]
  refine tk 10 (oi := ⟨some 6, _, _, _, _, _⟩) (v := ?_) rfl (by kernel_rfl) (.inl ⟨by rfl, ?_⟩) hHeld ?_; rotate_left; focus (intro w hSw; (try dsimp only at hSw); go_simp; try with_reducible rfl)
  simp only [PT]
  refine wpAnyH_done (by kernel_rfl) ?_ _
  all_goals
    go_wp2_with (first
      | ((with_reducible refine sl 119 ?_); go_must (refine wpL_loadF rfl 25 (.tmp 118) rfl g2 10 rfl (.slice v.oad v.on v.oc) (by exact ((HE.out.block _ (lt_of_block HG2.out)).trans HG2.out)) rfl Try.underlying25 rfl ?_); simp only [PT])
      | (go_at_call 56; (with_reducible show Calls _ _ #[Value.slice v.oad _ _, _] _ _); go_must (refine (refOptPut_any v.oad v.on v.oc v.os big _ (HV.out.2.2.below ((HB.out.trans (HE.out.mono HB.out.size)).trans (Below.mono bup (Nat.le_trans HB.out.size HE.out.size)))) (by omega) hoo).mono ?_); intro e wp hr; rw [← HPO.out] at hr; unfold RetB at hr; obtain ⟨adp, cp, rfl, ho__, hb__⟩ := hr; have BPO := Lib.hid (Bs.of_own ho__); replace HO := cOa HO bup hb__; replace HE := cE0 HE bup hb__; clear hb__ ho__)
      | ((with_reducible refine sl 122 ?_); go_must (refine wpL_appL elB rfl (.tmp 117) (.tmp 121) rfl w1.heap.size rfl (own_keep HO.out bup) rfl (BPO.out.below bup) BD HBD.out.symm (by omega) (Nat.le_trans HE.out.size (bsz bup)) ?_); intro adb cb wb ho__ hb__; replace HE := cEb HE bup hb__; clear HO; have HO := Lib.hid ho__; clear ho__ hb__; have HS := Lib.hid (Bs.of_own HO.out); have HF := Lib.hid (Below.refl wb.heap.size wb); have HP := Lib.hid (World.ownsRow_nil wb wb.heap.size 5 1); rw [← show BV [] = [] from rfl] at HP; simp only [PT])
      | (go_at_call 52; (with_reducible show Calls _ _ #[Value.slice none _ _, _, _] _ _); go_must (refine (four_int wb.heap.size none ([] : List UInt8).length 0 ([] : List UInt8) _ 5 (by first | rfl | omega) big _ (by omega) (by first | omega | exact Nat.zero_le _) rfl (own_keep HP.out bup) (Nat.le_trans HF.out.size (bsz bup))).mono ?_); intro e wx hr; rw [← HO1.out] at hr; obtain ⟨⟨adx, cx, rfl, ho__⟩, hb__⟩ := hr; replace HF := cEb HF bup hb__; clear HP; have HP := Lib.hid ho__; clear ho__ hb__)
      | (go_at_call 52; (with_reducible show Calls _ _ #[Value.slice adx _ _, _, _] _ _); go_must (refine (four_int wb.heap.size adx O1.length cx O1 _ N (by first | rfl | omega) big _ (by omega) (by first | omega | exact Nat.zero_le _) rfl (own_keep HP.out bup) (Nat.le_trans HF.out.size (bsz bup))).mono ?_); intro e wy hr; rw [← HO2.out] at hr; obtain ⟨⟨ady, cy, rfl, ho__⟩, hb__⟩ := hr; replace HF := cEb HF bup hb__; clear HP; have HP := Lib.hid ho__; clear ho__ hb__)
      | ((with_reducible refine sl 135 ?_); go_must (refine wpL_appL elB rfl (.tmp 133) (.tmp 134) rfl wb.heap.size rfl (own_keep HP.out bup) rfl (HS.out.below (HF.out.trans (Below.mono bup HF.out.size))) O3 HO3.out.symm (by omega) (Nat.le_trans HF.out.size (bsz bup)) ?_); intro adw cw ww ho__ hb__; replace HF := cEb HF bup hb__; clear HP; have HP := Lib.hid ho__; clear ho__ hb__; simp only [PT])
      | (go_at_call 52; (with_reducible show Calls _ _ #[Value.slice adw _ _, _, _] _ _); go_must (refine (four_int wb.heap.size adw O3.length cw O3 _ N (by first | rfl | omega) big _ (by omega) (by first | omega | exact Nat.zero_le _) rfl (own_keep HP.out bup) (Nat.le_trans HF.out.size (bsz bup))).mono ?_); intro e wz hr; rw [← HO4.out] at hr; obtain ⟨⟨adz, cz, rfl, ho__⟩, hb__⟩ := hr; replace HF := cEb HF bup hb__; clear HP; have HP := Lib.hid ho__; clear ho__ hb__))
    go_ret
    exact ⟨adz, cz, by rw [HFIN.out]; rfl, by rw [HFIN.out]; exact own_base HP.out (Nat.le_trans HB.out.size HE.out.size), HB.out.trans ((HE.out.trans (HF.out.mono HE.out.size)).mono HB.out.size)⟩
end Go.Proofs.Ytmfplinbbcoahaa
/-
  Chapter 26: a block laid by the document, kind by kind, walked (by genrefb.py).
-/
namespace Go.Proofs.Ytmfplinbbcoahaa
open Go.RowKit Go.Sort
set_option linter.unusedVariables false
set_option linter.unusedSimpArgs false

set_option maxRecDepth 100000 in
set_option maxHeartbeats 8000000 in
theorem refBytes7 (v : BlkV) (big : Bool) (w : World) (hv : Blk w v) (hk : v.kind = 7) (hf : SmB v) (hm : mayP v.val = true) (hw : wfB v.val) :
    Calls Try.prog 25 #[.agg v.cells.toArray, .bool big] w (RetB 5 (bytesB big v.val) w) := by
  obtain ⟨z1, z2, z3⟩ := hf.sizes
  obtain ⟨_, hfit, hlink, hifc, hwo, hwn, hlast⟩ := (mayP_iff v.val).1 hm
  obtain ⟨hw1, hw2, hw3, hw4'⟩ := hw
  change 0 ≤ v.link ∧ v.link ≤ 65535 at hlink
  change 0 ≤ v.iface ∧ v.iface ≤ 4294967295 at hifc
  have hoo : ∀ o ∈ vals v.os, okO o := wrongO_zero.1 hwo
  have hon : ∀ o ∈ vals v.ns, okO o := wrongO_zero.1 hwn
  change v.type < 4294967296 at hw1
  change v.snap < 4294967296 at hw2
  change v.time < 18446744073709551616 at hw3
  change v.len < 4294967296 at hw4'
  have HB := Lib.hid (Below.refl w.heap.size w)
  have HV := Lib.hid hv
  have hdn := hv.1.len
  have HDN := Lib.hid hdn
  have hdl : v.dl.length ≤ 1100000 := by omega
  have HGG : Hid (ordB big v.val = big) := Lib.hid (by show (if v.kind = 1 then v.big else big) = _; rw [if_neg (by omega)])
  have HTY : Hid (typeB v.val = v.type) := Lib.hid (by show (if v.kind = 7 then v.type else typeP v.kind) = _; rw [if_pos hk])
  have ew : IntKind.u64.wrap (v.type : Int) = (v.type : Int) := by rw [IntKind.wrap_u64]; omega
  have HKK := Lib.hid hk
  clear hv hf hm hfit hwo hwn hlast hdn
  obtain ⟨L1, hL1⟩ : ∃ L : List UInt8, L = [] ++ v.dl := ⟨_, rfl⟩
  have lL1 : L1.length ≤ 1100000 := by rw [hL1]; simpa using hdl
  have HL1 := Lib.hid hL1
  clear hL1
  have HFB : Hid (L1 = fieldsB big v.val) := Lib.hid (by rw [HL1.out]; unfold fieldsB; simp [show v.val.kind = 7 from HKK.out]; rfl)
  obtain ⟨PO, hPO⟩ : ∃ L : List UInt8, L = putAll big (vals v.os) := ⟨_, rfl⟩
  have lPO : PO.length ≤ 70424 := by rw [hPO]; rw [putAll_length]; split <;> omega
  have HPO := Lib.hid hPO
  clear hPO
  obtain ⟨BD, hBD⟩ : ∃ L : List UInt8, L = L1 ++ PO := ⟨_, rfl⟩
  have HFL : Hid (BD = bodyB big v.val) := Lib.hid (by rw [hBD]; unfold bodyB; rw [HFB.out, HPO.out]; rfl)
  have lBD : BD.length ≤ 1300000 := by rw [hBD, List.length_append]; first | omega | (simp; omega)
  have HBD := Lib.hid hBD
  clear hBD
  obtain ⟨N, hN⟩ : ∃ N, N = BD.length + 12 := ⟨_, rfl⟩
  have hNi : (BD.length : Int) + 12 = (N : Int) := by omega
  have hNw : IntKind.i64.wrap ((BD.length : Int) + 12) = (N : Int) := by rw [IntKind.wrap_i64]; omega
  have hNu : IntKind.u64.wrap (N : Int) = (N : Int) := by rw [IntKind.wrap_u64]; omega
  have hNv : IntKind.i64.wrap (N : Int) = (N : Int) := by rw [IntKind.wrap_i64]; omega
  have hNb : N ≤ 1400000 := by omega
  have HSZ : Hid (sizeB v.val = N) := Lib.hid (by rw [hN, HFL.out]; unfold sizeB; rw [bodyB_length big]; omega)
  clear hN
  obtain ⟨O1, hO1⟩ : ∃ L : List UInt8, L = [] ++ putL v.type 4 big := ⟨_, rfl⟩
  have lO1 : O1.length ≤ 4 := by rw [hO1]; rw [List.length_append, putL4_length]; simp
  have HO1 := Lib.hid hO1
  clear hO1
  obtain ⟨O2, hO2⟩ : ∃ L : List UInt8, L = O1 ++ putL N 4 big := ⟨_, rfl⟩
  have lO2 : O2.length ≤ 8 := by rw [hO2]; rw [List.length_append, putL4_length]; omega
  have HO2 := Lib.hid hO2
  clear hO2
  obtain ⟨O3, hO3⟩ : ∃ L : List UInt8, L = O2 ++ BD := ⟨_, rfl⟩
  have lO3 : O3.length ≤ 1300010 := by rw [hO3]; rw [List.length_append]; omega
  have HO3 := Lib.hid hO3
  clear hO3
  obtain ⟨O4, hO4⟩ : ∃ L : List UInt8, L = O3 ++ putL N 4 big := ⟨_, rfl⟩
  have lO4 : O4.length ≤ 1300020 := by rw [hO4]; rw [List.length_append, putL4_length]; omega
  have HO4 := Lib.hid hO4
  clear hO4
  have HFIN : Hid (bytesB big v.val = O4) := Lib.hid (by
    unfold bytesB
    rw [HGG.out, HTY.out, HSZ.out, ← HFL.out, HO4.out, HO3.out, HO2.out, HO1.out]
    simp only [List.append_assoc, List.nil_append])
  go_enter Try.func25, Try.ntmps25
  go_wp2_with (first
    | ((with_reducible refine sl 2 ?_); go_must (refine wpL_boxG rfl 27 (.tmp 0) rfl v.cells.toArray rfl ?_); intro w1 g2 he__ le_g2 lt_g2 hg__ hb__; have HG2 := Lib.hid hg__; have hE__ := cU HB bup hb__; replace HB := ck HB hE__; clear hE__; clear hg__ hb__ he__; have HE := Lib.hid (Below.refl w1.heap.size w1); have HO := Lib.hid (World.ownsRow_nil w1 w1.heap.size 5 1); rw [← show BV [] = [] from rfl] at HO; simp only [PT])
    | ((with_reducible refine sl 10 ?_); go_must (refine wpL_loadF rfl 22 (.tmp 9) rfl g2 2 rfl (.int .u32 (v.type : Int)) (by exact ((HE.out.block _ (lt_of_block HG2.out)).trans HG2.out)) rfl Try.underlying22 rfl ?_); simp only [PT])
    | ((with_reducible refine sl 13 ?_); go_must (refine wpL_loadF rfl 3 (.tmp 12) rfl g2 0 rfl (.int .i64 v.kind) (by exact ((HE.out.block _ (lt_of_block HG2.out)).trans HG2.out)) rfl Try.underlying3 rfl ?_); simp only [PT])
    | ((with_reducible refine sl 115 ?_); go_must (refine wpL_loadF rfl 24 (.tmp 114) rfl g2 8 rfl (.slice v.dad v.dn v.dc) (by exact ((HE.out.block _ (lt_of_block HG2.out)).trans HG2.out)) rfl Try.underlying24 rfl ?_); simp only [PT])
    | ((with_reducible refine sl 116 ?_); go_must (refine wpL_appL elB rfl (.tmp 113) (.tmp 115) rfl w1.heap.size rfl (own_keep HO.out bup) rfl (HV.out.1.below ((HB.out.trans (HE.out.mono HB.out.size)).trans (Below.mono bup (Nat.le_trans HB.out.size HE.out.size)))) L1 HL1.out.symm (by omega) (Nat.le_trans HE.out.size (bsz bup)) ?_); intro ad1 c1 w2 ho__ hb__; replace HE := cEb HE bup hb__; clear HO; have HO := Lib.hid ho__; clear ho__ hb__; simp only [PT])
    | ((with_reducible refine sl 119 ?_); go_must (refine wpL_loadF rfl 25 (.tmp 118) rfl g2 10 rfl (.slice v.oad v.on v.oc) (by exact ((HE.out.block _ (lt_of_block HG2.out)).trans HG2.out)) rfl Try.underlying25 rfl ?_); simp only [PT])
    | (go_at_call 56; (with_reducible show Calls _ _ #[Value.slice v.oad _ _, _] _ _); go_must (refine (refOptPut_any v.oad v.on v.oc v.os big _ (HV.out.2.2.below ((HB.out.trans (HE.out.mono HB.out.size)).trans (Below.mono bup (Nat.le_trans HB.out.size HE.out.size)))) (by omega) hoo).mono ?_); intro e wp hr; rw [← HPO.out] at hr; unfold RetB at hr; obtain ⟨adp, cp, rfl, ho__, hb__⟩ := hr; have BPO := Lib.hid (Bs.of_own ho__); replace HO := cOa HO bup hb__; replace HE := cE0 HE bup hb__; clear hb__ ho__)
    | ((with_reducible refine sl 122 ?_); go_must (refine wpL_appL elB rfl (.tmp 117) (.tmp 121) rfl w1.heap.size rfl (own_keep HO.out bup) rfl (BPO.out.below bup) BD HBD.out.symm (by omega) (Nat.le_trans HE.out.size (bsz bup)) ?_); intro adb cb wb ho__ hb__; replace HE := cEb HE bup hb__; clear HO; have HO := Lib.hid ho__; clear ho__ hb__; have HS := Lib.hid (Bs.of_own HO.out); have HF := Lib.hid (Below.refl wb.heap.size wb); have HP := Lib.hid (World.ownsRow_nil wb wb.heap.size 5 1); rw [← show BV [] = [] from rfl] at HP; simp only [PT])
    | (go_at_call 52; (with_reducible show Calls _ _ #[Value.slice none _ _, _, _] _ _); go_must (refine (four_int wb.heap.size none ([] : List UInt8).length 0 ([] : List UInt8) _ v.type (by first | rfl | omega) big _ (by omega) (by first | omega | exact Nat.zero_le _) rfl (own_keep HP.out bup) (Nat.le_trans HF.out.size (bsz bup))).mono ?_); intro e wx hr; rw [← HO1.out] at hr; obtain ⟨⟨adx, cx, rfl, ho__⟩, hb__⟩ := hr; replace HF := cEb HF bup hb__; clear HP; have HP := Lib.hid ho__; clear ho__ hb__)
    | (go_at_call 52; (with_reducible show Calls _ _ #[Value.slice adx _ _, _, _] _ _); go_must (refine (four_int wb.heap.size adx O1.length cx O1 _ N (by first | rfl | omega) big _ (by omega) (by first | omega | exact Nat.zero_le _) rfl (own_keep HP.out bup) (Nat.le_trans HF.out.size (bsz bup))).mono ?_); intro e wy hr; rw [← HO2.out] at hr; obtain ⟨⟨ady, cy, rfl, ho__⟩, hb__⟩ := hr; replace HF := cEb HF bup hb__; clear HP; have HP := Lib.hid ho__; clear ho__ hb__)
    | ((with_reducible refine sl 135 ?_); go_must (refine wpL_appL elB rfl (.tmp 133) (.tmp 134) rfl wb.heap.size rfl (own_keep HP.out bup) rfl (HS.out.below (HF.out.trans (Below.mono bup HF.out.size))) O3 HO3.out.symm (by omega) (Nat.le_trans HF.out.size (bsz bup)) ?_); intro adw cw ww ho__ hb__; replace HF := cEb HF bup hb__; clear HP; have HP := Lib.hid ho__; clear ho__ hb__; simp only [PT])
    | (go_at_call 52; (with_reducible show Calls _ _ #[Value.slice adw _ _, _, _] _ _); go_must (refine (four_int wb.heap.size adw O3.length cw O3 _ N (by first | rfl | omega) big _ (by omega) (by first | omega | exact Nat.zero_le _) rfl (own_keep HP.out bup) (Nat.le_trans HF.out.size (bsz bup))).mono ?_); intro e wz hr; rw [← HO4.out] at hr; obtain ⟨⟨adz, cz, rfl, ho__⟩, hb__⟩ := hr; replace HF := cEb HF bup hb__; clear HP; have HP := Lib.hid ho__; clear ho__ hb__))
  go_ret
  exact ⟨adz, cz, by rw [HFIN.out]; rfl, by rw [HFIN.out]; exact own_base HP.out (Nat.le_trans HB.out.size HE.out.size), HB.out.trans ((HE.out.trans (HF.out.mono HE.out.size)).mono HB.out.size)⟩
end Go.Proofs.Ytmfplinbbcoahaa
/-
  Chapter 26: the fields that a kind names, walked (the document's answer).
-/
namespace Go.Proofs.Ytmfplinbbcoahaa
open Go.RowKit Go.Sort
set_option linter.unusedVariables false
set_option linter.unusedSimpArgs false

/-- fits, with the lengths as the memory has them -/
def fitsV (v : BlkV) : Bool :=
  (!v.big || v.kind == 1) && (v.type == 0 || v.kind == 7) && (v.link == 0 || v.kind == 2) && (v.snap == 0 || v.kind == 2) &&
  ((v.iface == 0 && v.time == 0) || v.kind == 3 || v.kind == 6) && (v.len == 0 || v.kind == 3 || v.kind == 4) && (v.dn == 0 || v.kind == 3 || v.kind == 4 || v.kind == 7) &&
  (v.nn == 0 || v.kind == 5) && (v.on == 0 || (v.kind != 4 && v.kind != 7))
theorem fitsV_val {w : World} {v : BlkV} (h : Blk w v) : fitsV v = fitsP v.val := by
  obtain ⟨h1, h2, h3⟩ := h.lens
  unfold fitsV fitsP BlkV.val
  simp only [vals_length, ← h1, ← h2, ← h3]

set_option maxHeartbeats 40000000 in
set_option maxRecDepth 100000 in
theorem fits_any (v : BlkV) (w : World) (hs : Blk w v) (h1 : 1 ≤ v.kind) (h7 : v.kind ≤ 7) :
    Calls Try.prog 49 #[.agg v.cells.toArray] w fun e w' => e = .returned (.bool (fitsP v.val)) ∧ Below w.heap.size w w' := by
  rw [← fitsV_val hs]
  obtain ⟨w1, hw1⟩ : ∃ w1, w1 = w.alloc (.cells v.cells.toArray 27) := ⟨_, rfl⟩
  have HB := Lib.hid (show Below w.heap.size w w1 by rw [hw1]; exact bup)
  have HX := Lib.hid (show w1.heap[w.heap.size]? = some (.cells v.cells.toArray 27 (0, 0)) by rw [hw1]; exact heap_alloc_last w _)
  have HW := Lib.hid hw1
  obtain ⟨c0, c1, c2, c3, c4, c5, c6, c7, c8, c9, c10⟩ := blk_cells HX.out
  obtain ⟨F, hF⟩ : ∃ F, F = fitsV v := ⟨_, rfl⟩
  rw [← hF]
  unfold fitsV at hF
  generalize BlkV.cells v = cs at *
  generalize v.kind = kind at *
  generalize v.big = big at *
  generalize v.type = type at *
  generalize v.link = link at *
  generalize v.snap = snap at *
  generalize v.iface = iface at *
  generalize v.time = time at *
  generalize v.len = len at *
  generalize v.dn = dn at *
  generalize v.nn = nn at *
  generalize v.on = on at *
  have HF := Lib.hid hF
  clear hw1 hs hF
  rcases kind_cases h1 h7 with rfl | rfl | rfl | rfl | rfl | rfl | rfl
  all_goals
    clear h1 h7
    go_enter Try.func49, Try.ntmps49
    go_wp2_with (first
      | ((with_reducible refine sl 5 ?_); rw [← HW.out]))
    all_goals
      go_ret
      refine ⟨?_, HB.out⟩
      have hf := HF.out
      first
        | (rw [hf]; simp [*]; done)
        | (rw [hf]; simp [*]; omega)
end Go.Proofs.Ytmfplinbbcoahaa
