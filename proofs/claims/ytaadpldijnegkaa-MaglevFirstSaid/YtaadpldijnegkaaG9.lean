/-
  Joined by program (merge.py): MgF.
-/
import Derived.Test.YtaadpldijnegkaaG7
/-
  Chapter 17: MaglevShares: walked (written by gen/mglaw.py and gen/mgF.py).
-/
namespace Go.Proofs.Ytaadpldijnegkaa
open Go.RowKit Go.Sort
set_option linter.unusedVariables false
set_option linter.unusedSimpArgs false
set_option maxRecDepth 100000
set_option maxHeartbeats 16000000
/-- what each name has -/
theorem shares_plain {kb : List UInt8} {n : Nat} {zs : List ShV} {sl : List Int} {G : Nat} (h : SlK kb n zs sl G) {r : Nat} (hr : ∃ j, ∃ hj : j < zs.length, zs[j].q = (G : Int) ∧ cntOf sl j = r) : ∀ i (hi : i < zs.length), (r - 1) * zs[i].q.toNat / G ≤ cntOf sl i ∧ cntOf sl i ≤ (r + 1) * zs[i].q.toNat / G := by
  intro i hi
  obtain ⟨N, hc⟩ := h.cnt
  obtain ⟨j, hj, hq, hrr⟩ := hr
  have hcj := hc j hj
  rw [hq, Int.toNat_natCast, Nat.mul_div_cancel _ h.pos, hrr] at hcj
  have v1 := visN_two (n := N) hj
  have v2 := visN_two (n := N) hi
  rw [hc i hi]
  exact ⟨Nat.div_le_div_right (Nat.mul_le_mul_right _ (by omega)), Nat.div_le_div_right (Nat.mul_le_mul_right _ (by omega))⟩
theorem shares_r {kb : List UInt8} {n : Nat} {zs : List ShV} {sl : List Int} {G : Nat} (h : SlK kb n zs sl G) {r : Nat} (h1 : r = n ∨ ∃ j, ∃ hj : j < zs.length, zs[j].q = (G : Int) ∧ cntOf sl j = r) (h2 : ∀ j (hj : j < zs.length), zs[j].q = (G : Int) → r ≤ cntOf sl j) : ∃ j, ∃ hj : j < zs.length, zs[j].q = (G : Int) ∧ cntOf sl j = r := by
  rcases h1 with h1 | h1
  · obtain ⟨j, hj, hq⟩ := h.hit
    refine ⟨j, hj, hq, ?_⟩
    have a := h2 j hj hq
    have b := cnt_le sl j
    rw [h.len] at b
    omega
  · exact h1
/-- the sum of the first counts -/
def sumC (sl : List Int) (k : Nat) : Nat := ((List.range k).map (cntOf sl)).sum
theorem sumC_succ (sl : List Int) (k : Nat) : sumC sl (k + 1) = sumC sl k + cntOf sl k := by
  unfold sumC
  rw [List.range_succ, List.map_append, List.sum_append]
  simp
theorem sumC_le (sl : List Int) : ∀ k, sumC sl k ≤ k * sl.length
  | 0 => by simp [sumC]
  | k + 1 => by
    rw [sumC_succ, Nat.add_mul, Nat.one_mul]
    have := sumC_le sl k
    have := cnt_le sl k
    omega
theorem shares17_bad (kb : List UInt8) (hkb : kb.length = 16) (n : Nat) (ad : Option Addr) (m c : Nat) (xs : List ShV) (hm : ¬ mayR xs) (w : World) (hx : Shs w ad m c xs) :
    Calls Try.prog 5 #[.agg (BV kb).toArray, .int .u8 (n : Int), .slice ad m c] w fun e w' => e = .returned (.bool true) ∧ Below w.heap.size w w' := by
  have HB := Lib.hid (Below.refl w.heap.size w)
  have HXS := Lib.hid hx
  have HML := Lib.hid hx.len
  have hxc := hx.le
  have HTI : Hid (∀ x y : Value, (Try.prog.info? 30).map (fun i => (i.zero, i.size)) = some (some (.agg #[.slice none 0 0, .slice none 0 0]), (#[x, y] : Array Value).size)) := Lib.hid (fun _ _ => tb_info)
  have HKS : Hid ((Try.prog.info? 22).map (·.size) = some (BV kb).length) := Lib.hid (by rw [BV_length, hkb]; exact key_size)
  have HMD : Hid (decide (mayR xs) = false) := Lib.hid (decide_eq_false hm)
  clear hx hm
  go_enter Try.func5, Try.ntmps5
  go_wp2_with (first
    | ((with_reducible refine sl 3 ?_); go_must (refine wpL_boxG rfl 22 (.tmp 0) rfl (BV kb).toArray rfl ?_); intro w1 g3 he__ le_g3 lt_g3 hg__ hb__; have HG3 := Lib.hid hg__; have hE__ := cU HB bup hb__; replace HB := ck HB hE__; replace HXS := ck HXS hE__; clear hE__; clear hg__ hb__ he__; simp only [PT])
    | (go_at_call 10; go_must (refine (awake_any _).mono ?_); rintro e w2 ⟨rfl, hb__⟩; have hE__ := cU HB bup hb__; replace HB := ck HB hE__; replace HXS := ck HXS hE__; replace HG3 := ck HG3 hE__; clear hE__; clear hb__)
    | (go_at_call 11; go_must (refine (few17_any ad m c xs _ HXS.out).mono ?_); rintro e w2 ⟨⟨b, rfl, hfw⟩, hb__⟩; have HFW := Lib.hid hfw; have hE__ := cU HB bup hb__; replace HB := ck HB hE__; replace HXS := ck HXS hE__; replace HG3 := ck HG3 hE__; clear hE__; clear hb__ hfw; cases b)
    | (go_at_call 14; go_must (refine (refMay_any ad m c xs _ (HXS.out.below bup)).mono ?_); rw [HMD.out]; rintro e w4 ⟨rfl, hb__⟩; have hE__ := cU HB bup hb__; replace HB := ck HB hE__; replace HXS := ck HXS hE__; replace HG3 := ck HG3 hE__; clear hE__; clear hb__))
  all_goals
    go_ret
    exact ⟨rfl, HB.out⟩
theorem shares17_good (kb : List UInt8) (hkb : kb.length = 16) (n : Nat) (hn : n ≤ 255) (ad : Option Addr) (m c : Nat) (xs : List ShV) (hm : mayR xs) (w : World) (hx : Shs w ad m c xs) :
    Calls Try.prog 5 #[.agg (BV kb).toArray, .int .u8 (n : Int), .slice ad m c] w fun e w' => e = .returned (.bool true) ∧ Below w.heap.size w w' := by
  have HB := Lib.hid (Below.refl w.heap.size w)
  have HXS := Lib.hid hx
  have HML := Lib.hid hx.len
  have hxc := hx.le
  have HTI : Hid (∀ x y : Value, (Try.prog.info? 30).map (fun i => (i.zero, i.size)) = some (some (.agg #[.slice none 0 0, .slice none 0 0]), (#[x, y] : Array Value).size)) := Lib.hid (fun _ _ => tb_info)
  have HKS : Hid ((Try.prog.info? 22).map (·.size) = some (BV kb).length) := Lib.hid (by rw [BV_length, hkb]; exact key_size)
  have HM := Lib.hid hm
  have HMD : Hid (decide (mayR xs) = true) := Lib.hid (decide_eq_true hm)
  have hmm : m ≤ 1024 := by have := ((mayR_iff xs).1 hm).1; have := hx.len; omega
  obtain ⟨P, hP⟩ : ∃ P, P = nextP (n : Int) := ⟨_, rfl⟩
  have hps := nextP_spec (n : Int) (by omega)
  have hlw := low_le (n : Int)
  have h2P : 2 ≤ P := by omega
  have h3P : P ≤ 65537 := by omega
  have hpr : pr P = true := by rw [hP]; exact hps.1
  have HPN : Hid (nextP (n : Int) = P) := Lib.hid hP.symm
  have HPP := Lib.hid hpr
  obtain ⟨zs, hzs⟩ : ∃ zs, risL xs = zs := ⟨_, rfl⟩
  have HRS := Lib.hid hzs
  have hzq : ∀ x ∈ zs, 0 < x.q ∧ x.q ≤ 1024000 := by rw [← hzs]; exact mayR_q hm
  have hzl : zs.length ≤ 1024 := by rw [← hzs]; exact Nat.le_trans (risL_le xs) ((mayR_iff xs).1 hm).1
  have hrg := slZ_rg (kb := kb) (n := P) (zs := zs) h2P h3P hpr hzq
  obtain ⟨L, hL⟩ : ∃ L, slZ kb P zs = L := ⟨_, rfl⟩
  obtain ⟨N, hN⟩ : ∃ N, namesOf zs = N := ⟨_, rfl⟩
  obtain ⟨ll, hll⟩ : ∃ ll, L.length = ll := ⟨_, rfl⟩
  obtain ⟨nl, hnl⟩ : ∃ nl, N.length = nl := ⟨_, rfl⟩
  rw [hL, hll] at hrg
  have hl3 : ll ≤ 65537 := by omega
  have hzn : zs.length = nl := by rw [← hnl, ← hN, namesOf_length]
  have hn3 : nl ≤ 1024 := by omega
  have HZN := Lib.hid hzn
  have HZQ := Lib.hid hzq
  have HR : Hid (∀ z ∈ L, 0 ≤ z ∧ z < (nl : Int)) := Lib.hid (fun z hz => by have := hrg.1 z hz; omega)
  have HR0 : Hid (∀ z ∈ L, 0 ≤ z) := Lib.hid (fun z hz => (hrg.1 z hz).1)
  have HL := Lib.hid hL
  have HN := Lib.hid hN
  have HLL := Lib.hid hll
  have HNL := Lib.hid hnl
  have HKN : Hid (zs ≠ [] → ∃ G, SlK kb P zs L G) := Lib.hid (fun hz => by rw [← hL]; exact slZ_know h2P h3P hpr hzq hz)
  have HNIL : Hid (zs = [] → L = []) := Lib.hid (fun hz => by rw [← hL, hz]; exact slZ_nil kb P)
  clear hx hm hP hps hlw hpr hzs hzq hrg hL hN hll hnl hzn
  go_enter Try.func5, Try.ntmps5
  go_upto_region 8 with (first
    | ((with_reducible refine sl 3 ?_); go_must (refine wpL_boxG rfl 22 (.tmp 0) rfl (BV kb).toArray rfl ?_); intro w1 g3 he__ le_g3 lt_g3 hg__ hb__; have HG3 := Lib.hid hg__; have hE__ := cU HB bup hb__; replace HB := ck HB hE__; replace HXS := ck HXS hE__; clear hE__; clear hg__ hb__ he__; simp only [PT])
    | (go_at_call 10; go_must (refine (awake_any _).mono ?_); rintro e w2 ⟨rfl, hb__⟩; have hE__ := cU HB bup hb__; replace HB := ck HB hE__; replace HXS := ck HXS hE__; replace HG3 := ck HG3 hE__; clear hE__; clear hb__)
    | (go_at_call 11; go_must (refine (few17_any ad m c xs _ HXS.out).mono ?_); rintro e w2 ⟨⟨b, rfl, hfw⟩, hb__⟩; have HFW := Lib.hid hfw; have hE__ := cU HB bup hb__; replace HB := ck HB hE__; replace HXS := ck HXS hE__; replace HG3 := ck HG3 hE__; clear hE__; clear hb__ hfw; cases b)
    | (go_at_call 14; go_must (refine (refMay_any ad m c xs _ (HXS.out.below bup)).mono ?_); rw [HMD.out]; rintro e w4 ⟨rfl, hb__⟩; have hE__ := cU HB bup hb__; replace HB := ck HB hE__; replace HXS := ck HXS hE__; replace HG3 := ck HG3 hE__; clear hE__; clear hb__)
    | (go_at_call 19; go_must (refine (refNext_any (n : Int) (by omega) (by omega) _).mono ?_); rw [HPN.out]; rintro e w' ⟨rfl, rfl⟩)
    | ((with_reducible refine sl 35 ?_); go_must (refine wpL_load rfl 22 (.tmp 3) rfl g3 0 rfl (BV kb) _ (range_block (hatB HG3 bup)) Try.underlying22 rfl HKS.out ?_); simp only [PT])
    | (go_at_call 12; go_must (refine (build_at kb hkb P h2P h3P HPP.out ad m c xs HM.out (fun x hx => by have := (HFW.out (by simp)).2 x hx; omega) zs HRS.out N HN.out nl HNL.out L HL.out ll HLL.out _ HXS.out).mono ?_); rintro e wB1 ⟨a1, c1, d1, f1, rfl, ho1, ho2, hb__⟩; have HN1 := Lib.hid (own_base ho1 HB.out.size); have HS1 := Lib.hid (own_base ho2 HB.out.size); have hE__ := cU HB bup hb__; replace HB := ck HB hE__; replace HXS := ck HXS hE__; replace HG3 := ck HG3 hE__; clear hE__; clear ho1 ho2 hb__)
    | ((with_reducible refine sl 8 ?_); go_must (refine wpL_newG rfl rfl 30 rfl (.tmp 8) (.tmp 39) rfl #[.slice a1 nl c1, .slice d1 ll f1] #[.slice none 0 0, .slice none 0 0] (HTI.out _ _) rfl (tb_all rfl rfl) (fun _ => rfl) (fun _ => rfl) ?_); intro wt8 g8 le_8 hg__ hb__; have HG8 := Lib.hid hg__; have hE__ := cU HB bup hb__; replace HB := ck HB hE__; replace HXS := ck HXS hE__; replace HN1 := ck HN1 hE__; replace HS1 := ck HS1 hE__; clear hE__; clear hg__ hb__; simp only [PT])
    | (go_at_call 20; go_must (refine (refRising_any ad m c xs hmm _ (HXS.out.below bup)).mono ?_); rintro e wR ⟨adz, cz, rfl, ho__, hb__⟩; rw [HRS.out, HZN.out] at ho__ ⊢; have hE__ := cU HB bup hb__; replace HB := ck HB hE__; replace HG8 := ck HG8 hE__; replace HN1 := ck HN1 hE__; replace HS1 := ck HS1 hE__; clear hE__; have HZ := Lib.hid (Shs.of_own ho__); clear ho__ hb__)
    | ((with_reducible refine sl 46 ?_); go_must (refine wpL_load rfl 30 (.tmp 8) rfl g8 0 rfl [.slice a1 nl c1, .slice d1 ll f1] _ (range_block (hatB HG8 bup)) Try.underlying30 rfl tb_size ?_); simp only [PT])
    | (go_at_call 21; go_must (refine (right_any a1 nl c1 d1 ll f1 L HR.out hl3 (by omega) _ (Sl.of_own (own_keep HS1.out bup))).mono ?_); rintro e w6 ⟨rfl, hb__⟩; have hE__ := cU HB bup hb__; replace HB := ck HB hE__; replace HG8 := ck HG8 hE__; replace HN1 := ck HN1 hE__; replace HS1 := ck HS1 hE__; replace HZ := ck HZ hE__; clear hE__; clear hb__)
    | ((with_reducible refine sl 52 ?_); go_must (refine wpL_loadF rfl 27 (.tmp 51) rfl g8 0 rfl (.slice a1 nl c1) (hatB HG8 bup) rfl Try.underlying27 rfl ?_); simp only [PT]))
  · go_ret
    exact ⟨rfl, HB.out⟩
  by_cases hz : nl = 0
  · have hzz : zs = [] := List.eq_nil_of_length_eq_zero (by rw [HZN.out, hz])
    have hl0 : ll = 0 := by rw [← HLL.out, HNIL.out hzz]; rfl
    have hzb : ((nl : Int) == 0) = true := by rw [hz]; rfl
    have hlb : ((ll : Int) == 0) = true := by rw [hl0]; rfl
    clear hz hl0 hzz
    go_wp2_with (first
      | ((with_reducible refine sl 62 ?_); go_must (refine wpL_loadF rfl 28 (.tmp 61) rfl g8 1 rfl (.slice d1 ll f1) (hatB HG8 bup) rfl Try.underlying28 rfl ?_); simp only [PT]))
    go_ret
    exact ⟨rfl, HB.out⟩
  have hzb : ((nl : Int) == 0) = false := by rw [beq_eq_false_iff_ne]; omega
  obtain ⟨G, hk⟩ := HKN.out (fun e => hz (by rw [← HZN.out, e]; rfl))
  have HGZ := Lib.hid hk.gz
  have hG0 := hk.pos
  have HK := Lib.hid hk
  have hlP : ll = P := by rw [← HLL.out]; exact hk.len
  have hG1 : G ≤ 1024000 := by obtain ⟨j, hj, hq⟩ := hk.hit; have := (hk.ql j hj).2.2; omega
  subst hlP
  clear hk hz
  go_upto_region 14 with (first
    | ((with_reducible refine sl 65 ?_); go_must (refine wpL_load rfl 30 (.tmp 8) rfl g8 0 rfl [.slice a1 nl c1, .slice d1 ll f1] _ (range_block (hatB HG8 bup)) Try.underlying30 rfl tb_size ?_); simp only [PT])
    | (go_at_call 22; go_must (refine (count_any a1 nl c1 d1 ll f1 L (by omega) hl3 HR.out _ (Sl.of_own (own_keep HS1.out bup))).mono ?_); rintro e wC ⟨⟨gC, rfl, ho__⟩, hb__⟩; have HC := Lib.hid ho__; have hE__ := cU HB bup hb__; replace HB := ck HB hE__; replace HG8 := ck HG8 hE__; replace HN1 := ck HN1 hE__; replace HZ := ck HZ hE__; replace HS1 := ck HS1 hE__; clear hE__; clear ho__ hb__)
    | ((with_reducible refine sl 68 ?_); go_must (refine wpL_loadF rfl 28 (.tmp 67) rfl g8 1 rfl (.slice d1 ll f1) (hatB HG8 bup) rfl Try.underlying28 rfl ?_); simp only [PT])
    | (go_at_call 23; go_must (refine (greatest_any adz nl cz zs (by omega) _ (HZ.out.below bup)).mono ?_); rw [HGZ.out]; rintro e wG ⟨rfl, hb__⟩; have hE__ := cU HB bup hb__; replace HB := ck HB hE__; replace HG8 := ck HG8 hE__; replace HN1 := ck HN1 hE__; replace HZ := ck HZ hE__; replace HC := ck HC hE__; clear hE__; clear hb__))
  obtain ⟨wb, hwb⟩ : ∃ wb, wb = wG := ⟨_, rfl⟩
  subst hwb
  obtain ⟨b1, rfl⟩ := own_some HN1.out (by rw [beq_eq_false_iff_ne] at hzb; omega)
  obtain ⟨bz, oz, rfl, hbz, hatz⟩ := HZ.out.at (by rw [HZN.out]; rw [beq_eq_false_iff_ne] at hzb; omega)
  have hb1 := (World.ownsRow.lt HN1.out b1 rfl).2
  have hbC := (World.ownsRow.lt HC.out gC rfl).2
  have hczl := HZ.out.le
  have hcnl := Sl.le (Sl.of_own HN1.out)
  have HCT : Hid (∀ wz, Below wb.heap.size wb wz → wz.cell? ⟨g8, 0, none⟩ = some (.slice (some ⟨b1, 0, none⟩) nl c1)) := Lib.hid (fun wz hz => cellV (hatB HG8 hz) rfl)
  have HCC : Hid (∀ k, k < nl → ∀ wz, Below wb.heap.size wb wz → wz.cell? ⟨gC, k, none⟩ = some (.int .i64 ((cntOf L k : Nat) : Int))) := Lib.hid (fun k hk wz hz => by
    have h := (own_keep HC.out hz).cellAt k (by omega)
    rw [iV_at, cntI_at _ _ _ hk] at h
    exact h)
  have HCZ : Hid (∀ k (hk : k < zs.length) wz, Below wb.heap.size wb wz → wz.cell? ⟨bz, oz + k * 2, none⟩ = some (.string zs[k].name) ∧ wz.cell? ⟨bz, oz + k * 2 + 1, none⟩ = some (.int .i64 zs[k].q) ∧ wz.cell? ⟨b1, k, none⟩ = some (.string zs[k].name)) := Lib.hid (fun k hk wz hz => by
    have h := range_below (hatz k hk) hbz hz
    refine ⟨sh_name h, sh_q h, ?_⟩
    have h2 := (own_keep HN1.out hz).cellAt k (by rw [HZN.out] at hk; omega)
    rw [h2, ← HN.out]
    simp [stV, namesOf, hk])
  clear hatz
  have HF := Lib.hid (Below.refl wb.heap.size wb)
  go_wp2_with fail
  go_loopw [13, 14, 15] (fun rr ss i wr => ∃ (k r s : Nat), k ≤ nl ∧ rr = .int .i64 (r : Int) ∧ ss = .int .i64 (s : Int) ∧ i = .int .i64 (k : Int) ∧ r ≤ ll ∧ s ≤ k * ll ∧ Hid (r = ll ∨ ∃ j, ∃ hj : j < zs.length, zs[j].q = (G : Int) ∧ cntOf L j = r) ∧ Hid (∀ j (hj : j < zs.length), j < k → zs[j].q = (G : Int) → r ≤ cntOf L j) ∧ Hid (s = sumC L k) ∧ Hid (Below wb.heap.size wb wr)) (fun _ _ i _ => nl - (intOf i).toNat)
  case atStart => exact ⟨0, ll, 0, by omega, rfl, rfl, rfl, Nat.le_refl _, by omega, Lib.hid (.inl rfl), Lib.hid (fun j hj h => by omega), Lib.hid rfl, HF⟩
  case round =>
    clear HF
    obtain ⟨k, r, s, hk, rfl, rfl, rfl, hr, hs, HR1, HR2, HSS, HF⟩ := hrel
    have hs2 : s ≤ 100000000 := by have := Nat.mul_le_mul hk (Nat.le_refl ll); have := Nat.mul_le_mul (show nl ≤ 1024 from hn3) hl3; omega
    by_cases hkl : k < nl
    · have hki : (k : Int) < (nl : Int) := by omega
      have hkz : k < zs.length := by rw [HZN.out]; exact hkl
      obtain ⟨ck, hck⟩ : ∃ ck, ck = cntOf L k := ⟨_, rfl⟩
      have hcl : ck ≤ ll := by rw [hck, ← HLL.out]; exact cnt_le L k
      obtain ⟨nm, hnm⟩ : ∃ nm, nm = zs[k].name := ⟨_, rfl⟩
      obtain ⟨q, hq⟩ : ∃ q, q = zs[k].q := ⟨_, rfl⟩
      have q0 := HCT.out wr HF.out
      have q1 := HCC.out k hkl wr HF.out
      obtain ⟨q2, q3, q4⟩ := HCZ.out k hkz wr HF.out
      rw [← hck] at q1
      rw [← hnm] at q2 q4
      rw [← hq] at q3
      have HCK := Lib.hid hck
      have HQ := Lib.hid hq
      have HSN : Hid (sumC L (k + 1) = s + ck) := Lib.hid (by rw [sumC_succ, ← HSS.out, hck])
      have hsn : s + ck ≤ (k + 1) * ll := by rw [Nat.add_mul]; omega
      clear hck hnm hq
      by_cases hqG : q = (G : Int)
      · have hqb : (q == (G : Int)) = true := by rw [hqG]; exact beq_self_eq_true _
        have HQG := Lib.hid hqG
        clear hqG
        by_cases hcr : ck < r
        · have hcri : (ck : Int) < (r : Int) := by omega
          go_wp2_with fail
          go_quiet (fail)
          go_wp2_with fail
          exact ⟨⟨k + 1, ck, s + ck, by omega, rfl, by go_num, by go_num, by omega, hsn, Lib.hid (.inr ⟨k, hkz, by rw [← HQ.out, HQG.out], HCK.out.symm⟩), Lib.hid (fun j hj hjk hjq => by
            rcases Nat.lt_or_ge j k with g | g
            · have := HR2.out j hj g hjq; omega
            · obtain rfl : j = k := by omega
              rw [← HCK.out]; exact Nat.le_refl _), Lib.hid HSN.out.symm, Lib.hid (by first | exact HF.out | exact HF.out.trans (below_drewN _ _ _) | exact HF.out.drew)⟩, by simp [intOf]; omega⟩
        · have hcri : ¬ (ck : Int) < (r : Int) := by omega
          go_wp2_with fail
          go_quiet (fail)
          go_wp2_with fail
          exact ⟨⟨k + 1, r, s + ck, by omega, rfl, by go_num, by go_num, hr, hsn, HR1, Lib.hid (fun j hj hjk hjq => by
            rcases Nat.lt_or_ge j k with g | g
            · exact HR2.out j hj g hjq
            · obtain rfl : j = k := by omega
              rw [← HCK.out]; omega), Lib.hid HSN.out.symm, Lib.hid (by first | exact HF.out | exact HF.out.trans (below_drewN _ _ _) | exact HF.out.drew)⟩, by simp [intOf]; omega⟩
      · have hqb : (q == (G : Int)) = false := by rw [beq_eq_false_iff_ne]; exact hqG
        have HQG := Lib.hid hqG
        clear hqG
        go_wp2_with fail
        go_quiet (fail)
        go_wp2_with fail
        exact ⟨⟨k + 1, r, s + ck, by omega, rfl, by go_num, by go_num, hr, hsn, HR1, Lib.hid (fun j hj hjk hjq => by
            rcases Nat.lt_or_ge j k with g | g
            · exact HR2.out j hj g hjq
            · obtain rfl : j = k := by omega
              exact absurd (by rw [HQ.out]; exact hjq) HQG.out), Lib.hid HSN.out.symm, Lib.hid (by first | exact HF.out | exact HF.out.trans (below_drewN _ _ _) | exact HF.out.drew)⟩, by simp [intOf]; omega⟩
    · obtain rfl : k = nl := by omega
      have hge : ¬ (k : Int) < (k : Int) := by omega
      have HPL := Lib.hid (shares_plain HK.out (shares_r HK.out (by have h := HR1.out; exact h) (fun j hj hq => HR2.out j hj (by rw [← HZN.out]; exact hj) hq)))
      have HSUM : Hid (s = ll) := Lib.hid (by
        rw [HSS.out]
        have h := cnt_sum zs.length L HK.out.rg
        rw [HZN.out, HLL.out] at h
        exact h)
      have HF0 := HF
      go_wp2_with fail
      go_loopw [16] (fun i wr => ∃ j : Nat, j ≤ k ∧ i = .int .i64 (j : Int) ∧ Hid (Below wb.heap.size wb wr)) (fun i _ => k - (intOf i).toNat)
      case atStart => exact ⟨0, by omega, rfl, HF⟩
      case round =>
        clear HF
        obtain ⟨j, hj, rfl, HF⟩ := hrel
        by_cases hjl : j < k
        · have hji : (j : Int) < (k : Int) := by omega
          have hjz : j < zs.length := by rw [HZN.out]; exact hjl
          obtain ⟨p1, p2⟩ := HPL.out j hjz
          obtain ⟨ck, hck⟩ : ∃ ck, ck = cntOf L j := ⟨_, rfl⟩
          have hcl : ck ≤ ll := by rw [hck, ← HLL.out]; exact cnt_le L j
          have hql := HK.out.ql j hjz
          obtain ⟨q, hq⟩ : ∃ q : Nat, zs[j].q = (q : Int) := ⟨zs[j].q.toNat, by omega⟩
          have q1 := HCC.out j hjl wr HF.out
          have q3 := (HCZ.out j hjz wr HF.out).2.1
          rw [← hck] at q1 p1 p2
          rw [hq] at q3 hql
          rw [hq, Int.toNat_natCast] at p1 p2
          obtain ⟨a, ha⟩ : ∃ a, a = (r - 1) * q := ⟨_, rfl⟩
          obtain ⟨b, hb⟩ : ∃ b, b = (r + 1) * q := ⟨_, rfl⟩
          have hab : a ≤ 70000000000 := by rw [ha]; exact Nat.le_trans (Nat.mul_le_mul (show r - 1 ≤ 65537 by omega) (show q ≤ 1024000 by omega)) (by omega)
          have hbb : b ≤ 70000000000 := by rw [hb]; exact Nat.le_trans (Nat.mul_le_mul (show r + 1 ≤ 65538 by omega) (show q ≤ 1024000 by omega)) (by omega)
          rw [← ha] at p1
          rw [← hb] at p2
          obtain ⟨aq, haq⟩ : ∃ aq, aq = a / G := ⟨_, rfl⟩
          obtain ⟨bq, hbq⟩ : ∃ bq, bq = b / G := ⟨_, rfl⟩
          have e1 : (a : Int) / (G : Int) = (aq : Int) := by rw [haq, Int.natCast_ediv]
          have e2 : (b : Int) / (G : Int) = (bq : Int) := by rw [hbq, Int.natCast_ediv]
          have haqb : aq ≤ a := by rw [haq]; exact Nat.div_le_self _ _
          have hbqb : bq ≤ b := by rw [hbq]; exact Nat.div_le_self _ _
          rw [← haq] at p1
          rw [← hbq] at p2
          have m2 : ((r : Int) + 1) * (q : Int) = (b : Int) := by rw [hb, Int.natCast_mul]; rfl
          have hGn : ¬ (G : Int) = 0 := by omega
          by_cases hr0 : 0 < r
          · have m1 : ((r : Int) - 1) * (q : Int) = (a : Int) := by rw [ha, Int.natCast_mul, Int.natCast_sub (by omega)]; rfl
            have d1 : decide (ck < aq) = false := decide_eq_false (by omega)
            have d2 : decide (bq < ck) = false := decide_eq_false (by omega)
            clear hq hck ha hb haq hbq hql p1 p2
            go_wp2_with fail
            go_quiet (fail)
            go_wp2_with fail
            exact ⟨⟨j + 1, by omega, by go_num, Lib.hid (by first | exact HF.out | exact HF.out.trans (below_drewN _ _ _) | exact HF.out.drew)⟩, by simp [intOf]; omega⟩
          · have d0 : decide (0 < r) = false := decide_eq_false hr0
            have d2 : decide (bq < ck) = false := decide_eq_false (by omega)
            clear hq hck ha hb haq hbq hql p1 p2
            go_wp2_with fail
            go_quiet (fail)
            go_wp2_with fail
            exact ⟨⟨j + 1, by omega, by go_num, Lib.hid (by first | exact HF.out | exact HF.out.trans (below_drewN _ _ _) | exact HF.out.drew)⟩, by simp [intOf]; omega⟩
        · have hjge : ¬ (j : Int) < (k : Int) := by omega
          have hsb : ((s : Int) == (ll : Int)) = true := by rw [HSUM.out]; exact beq_self_eq_true _
          go_wp2_with fail
          go_ret
          exact ⟨rfl, HB.out.trans (HF.out.mono HB.out.size)⟩
theorem shares17_walk (kb : List UInt8) (hkb : kb.length = 16) (n : Nat) (hn : n ≤ 255) (ad : Option Addr) (m c : Nat) (xs : List ShV) (w : World) (hx : Shs w ad m c xs) :
    Calls Try.prog 5 #[.agg (BV kb).toArray, .int .u8 (n : Int), .slice ad m c] w fun e w' => e = .returned (.bool true) ∧ Below w.heap.size w w' := by
  by_cases hm : mayR xs
  · exact shares17_good kb hkb n hn ad m c xs hm w hx
  · exact shares17_bad kb hkb n ad m c xs hm w hx
end Go.Proofs.Ytaadpldijnegkaa
