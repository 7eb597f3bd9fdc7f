/-
  Joined by program (merge.py): MgG.
-/
import Derived.Test.YtaadpldijnegkaaG9
/-
  Chapter 17: MaglevFirst: walked (written by gen/mglaw.py and gen/mgG.py).
-/
namespace Go.Proofs.Ytaadpldijnegkaa
open Go.RowKit Go.Sort
set_option linter.unusedVariables false
set_option linter.unusedSimpArgs false
set_option maxRecDepth 100000
set_option maxHeartbeats 16000000
/-- names of the same quanta have the same, but for one -/
theorem first_plain {kb : List UInt8} {n : Nat} {zs : List ShV} {sl : List Int} {G : Nat} (h : SlK kb n zs sl G) : ∀ i j (hi : i < zs.length) (hj : j < zs.length), zs[i].q = zs[j].q → cntOf sl i ≤ cntOf sl j + 1 := by
  intro i j hi hj hq
  obtain ⟨N, hc⟩ := h.cnt
  have v1 := visN_two (n := N) hi
  have v2 := visN_two (n := N) hj
  have hql := h.ql j hj
  rw [hc i hi, hc j hj, hq]
  have h1 : visN zs.length i N * zs[j].q.toNat ≤ visN zs.length j N * zs[j].q.toNat + G := by
    have : visN zs.length i N ≤ visN zs.length j N + 1 := by omega
    have := Nat.mul_le_mul_right zs[j].q.toNat this
    rw [Nat.add_mul, Nat.one_mul] at this
    omega
  have h2 := Nat.div_le_div_right (c := G) h1
  rwa [Nat.add_div_right _ h.pos] at h2
theorem first17_bad (kb : List UInt8) (hkb : kb.length = 16) (n : Nat) (ad : Option Addr) (m c : Nat) (xs : List ShV) (hm : ¬ mayR xs) (w : World) (hx : Shs w ad m c xs) :
    Calls Try.prog 8 #[.agg (BV kb).toArray, .int .u8 (n : Int), .slice ad m c] w fun e w' => e = .returned (.bool true) ∧ Below w.heap.size w w' := by
  have HB := Lib.hid (Below.refl w.heap.size w)
  have HXS := Lib.hid hx
  have HML := Lib.hid hx.len
  have hxc := hx.le
  have HTI : Hid (∀ x y : Value, (Try.prog.info? 30).map (fun i => (i.zero, i.size)) = some (some (.agg #[.slice none 0 0, .slice none 0 0]), (#[x, y] : Array Value).size)) := Lib.hid (fun _ _ => tb_info)
  have HKS : Hid ((Try.prog.info? 22).map (·.size) = some (BV kb).length) := Lib.hid (by rw [BV_length, hkb]; exact key_size)
  have HMD : Hid (decide (mayR xs) = false) := Lib.hid (decide_eq_false hm)
  clear hx hm
  go_enter Try.func8, Try.ntmps8
  go_wp2_with (first
    | ((with_reducible refine sl 3 ?_); go_must (refine wpL_boxG rfl 22 (.tmp 0) rfl (BV kb).toArray rfl ?_); intro w1 g3 he__ le_g3 lt_g3 hg__ hb__; have HG3 := Lib.hid hg__; have hE__ := cU HB bup hb__; replace HB := ck HB hE__; replace HXS := ck HXS hE__; clear hE__; clear hg__ hb__ he__; simp only [PT])
    | (go_at_call 10; go_must (refine (awake_any _).mono ?_); rintro e w2 ⟨rfl, hb__⟩; have hE__ := cU HB bup hb__; replace HB := ck HB hE__; replace HXS := ck HXS hE__; replace HG3 := ck HG3 hE__; clear hE__; clear hb__)
    | (go_at_call 11; go_must (refine (few17_any ad m c xs _ HXS.out).mono ?_); rintro e w2 ⟨⟨b, rfl, hfw⟩, hb__⟩; have HFW := Lib.hid hfw; have hE__ := cU HB bup hb__; replace HB := ck HB hE__; replace HXS := ck HXS hE__; replace HG3 := ck HG3 hE__; clear hE__; clear hb__ hfw; cases b)
    | (go_at_call 14; go_must (refine (refMay_any ad m c xs _ (HXS.out.below bup)).mono ?_); rw [HMD.out]; rintro e w4 ⟨rfl, hb__⟩; have hE__ := cU HB bup hb__; replace HB := ck HB hE__; replace HXS := ck HXS hE__; replace HG3 := ck HG3 hE__; clear hE__; clear hb__))
  all_goals
    go_ret
    exact ⟨rfl, HB.out⟩
theorem first17_good (kb : List UInt8) (hkb : kb.length = 16) (n : Nat) (hn : n ≤ 255) (ad : Option Addr) (m c : Nat) (xs : List ShV) (hm : mayR xs) (w : World) (hx : Shs w ad m c xs) :
    Calls Try.prog 8 #[.agg (BV kb).toArray, .int .u8 (n : Int), .slice ad m c] w fun e w' => e = .returned (.bool true) ∧ Below w.heap.size w w' := by
  have HB := Lib.hid (Below.refl w.heap.size w)
  have HXS := Lib.hid hx
  have HML := Lib.hid hx.len
  have hxc := hx.le
  have HTI : Hid (∀ x y : Value, (Try.prog.info? 30).map (fun i => (i.zero, i.size)) = some (some (.agg #[.slice none 0 0, .slice none 0 0]), (#[x, y] : Array Value).size)) := Lib.hid (fun _ _ => tb_info)
  have HKS : Hid ((Try.prog.info? 22).map (·.size) = some (BV kb).length) := Lib.hid (by rw [BV_length, hkb]; exact key_size)
  have HM := Lib.hid hm
  have HMD : Hid (decide (mayR xs) = true) := Lib.hid (decide_eq_true hm)
  have hmm : m ≤ 1024 := by have := ((mayR_iff xs).1 hm).1; have := hx.len; omega
  obtain ⟨P, hP⟩ : ∃ P, P = nextP (n : Int) := ⟨_, rfl⟩
  have hps := nextP_spec (n : Int) (by omega)
  have hlw := low_le (n : Int)
  have h2P : 2 ≤ P := by omega
  have h3P : P ≤ 65537 := by omega
  have hpr : pr P = true := by rw [hP]; exact hps.1
  have HPN : Hid (nextP (n : Int) = P) := Lib.hid hP.symm
  have HPP := Lib.hid hpr
  obtain ⟨zs, hzs⟩ : ∃ zs, risL xs = zs := ⟨_, rfl⟩
  have HRS := Lib.hid hzs
  have hzq : ∀ x ∈ zs, 0 < x.q ∧ x.q ≤ 1024000 := by rw [← hzs]; exact mayR_q hm
  have hzl : zs.length ≤ 1024 := by rw [← hzs]; exact Nat.le_trans (risL_le xs) ((mayR_iff xs).1 hm).1
  have hrg := slZ_rg (kb := kb) (n := P) (zs := zs) h2P h3P hpr hzq
  obtain ⟨L, hL⟩ : ∃ L, slZ kb P zs = L := ⟨_, rfl⟩
  obtain ⟨N, hN⟩ : ∃ N, namesOf zs = N := ⟨_, rfl⟩
  obtain ⟨ll, hll⟩ : ∃ ll, L.length = ll := ⟨_, rfl⟩
  obtain ⟨nl, hnl⟩ : ∃ nl, N.length = nl := ⟨_, rfl⟩
  rw [hL, hll] at hrg
  have hl3 : ll ≤ 65537 := by omega
  have hzn : zs.length = nl := by rw [← hnl, ← hN, namesOf_length]
  have hn3 : nl ≤ 1024 := by omega
  have HZN := Lib.hid hzn
  have HZQ := Lib.hid hzq
  have HR : Hid (∀ z ∈ L, 0 ≤ z ∧ z < (nl : Int)) := Lib.hid (fun z hz => by have := hrg.1 z hz; omega)
  have HR0 : Hid (∀ z ∈ L, 0 ≤ z) := Lib.hid (fun z hz => (hrg.1 z hz).1)
  have HL := Lib.hid hL
  have HN := Lib.hid hN
  have HLL := Lib.hid hll
  have HNL := Lib.hid hnl
  have HKN : Hid (zs ≠ [] → ∃ G, SlK kb P zs L G) := Lib.hid (fun hz => by rw [← hL]; exact slZ_know h2P h3P hpr hzq hz)
  have HZM : Hid (mayR zs) := Lib.hid (by rw [← hzs]; exact mayR_ris hm)
  have HZR : Hid (risL zs = zs) := Lib.hid (by rw [← hzs]; exact ris_idem ((mayR_iff xs).1 hm).2.2)
  have HZB : Hid (∀ x ∈ zs, x ∈ xs) := Lib.hid (fun x hx => by rw [← hzs] at hx; exact (risL_mem hx).1)
  clear hx hm hP hps hlw hpr hzs hzq hrg hL hN hll hnl hzn
  go_enter Try.func8, Try.ntmps8
  go_upto_region 8 with (first
    | ((with_reducible refine sl 3 ?_); go_must (refine wpL_boxG rfl 22 (.tmp 0) rfl (BV kb).toArray rfl ?_); intro w1 g3 he__ le_g3 lt_g3 hg__ hb__; have HG3 := Lib.hid hg__; have hE__ := cU HB bup hb__; replace HB := ck HB hE__; replace HXS := ck HXS hE__; clear hE__; clear hg__ hb__ he__; simp only [PT])
    | (go_at_call 10; go_must (refine (awake_any _).mono ?_); rintro e w2 ⟨rfl, hb__⟩; have hE__ := cU HB bup hb__; replace HB := ck HB hE__; replace HXS := ck HXS hE__; replace HG3 := ck HG3 hE__; clear hE__; clear hb__)
    | (go_at_call 11; go_must (refine (few17_any ad m c xs _ HXS.out).mono ?_); rintro e w2 ⟨⟨b, rfl, hfw⟩, hb__⟩; have HFW := Lib.hid hfw; have hE__ := cU HB bup hb__; replace HB := ck HB hE__; replace HXS := ck HXS hE__; replace HG3 := ck HG3 hE__; clear hE__; clear hb__ hfw; cases b)
    | (go_at_call 14; go_must (refine (refMay_any ad m c xs _ (HXS.out.below bup)).mono ?_); rw [HMD.out]; rintro e w4 ⟨rfl, hb__⟩; have hE__ := cU HB bup hb__; replace HB := ck HB hE__; replace HXS := ck HXS hE__; replace HG3 := ck HG3 hE__; clear hE__; clear hb__)
    | (go_at_call 19; go_must (refine (refNext_any (n : Int) (by omega) (by omega) _).mono ?_); rw [HPN.out]; rintro e w' ⟨rfl, rfl⟩)
    | (go_at_call 20; go_must (refine (refRising_any ad m c xs hmm _ (HXS.out.below bup)).mono ?_); rintro e wR ⟨adz, cz, rfl, ho__, hb__⟩; rw [HRS.out, HZN.out] at ho__ ⊢; have hE__ := cU HB bup hb__; replace HB := ck HB hE__; replace HG3 := ck HG3 hE__; clear hE__; have HZ := Lib.hid (Shs.of_own ho__); clear ho__ hb__)
    | ((with_reducible refine sl 37 ?_); go_must (refine wpL_load rfl 22 (.tmp 3) rfl g3 0 rfl (BV kb) _ (range_block (hatB HG3 bup)) Try.underlying22 rfl HKS.out ?_); simp only [PT])
    | (go_at_call 12; go_must (refine (build_at kb hkb P h2P h3P HPP.out adz nl cz zs HZM.out (fun x hx => by have := (HFW.out (by simp)).2 x (HZB.out x hx); omega) zs HZR.out N HN.out nl HNL.out L HL.out ll HLL.out _ (HZ.out.below bup)).mono ?_); rintro e wB1 ⟨a1, c1, d1, f1, rfl, ho1, ho2, hb__⟩; have HN1 := Lib.hid (own_base ho1 HB.out.size); have HS1 := Lib.hid (own_base ho2 HB.out.size); have hE__ := cU HB bup hb__; replace HB := ck HB hE__; replace HG3 := ck HG3 hE__; replace HZ := ck HZ hE__; clear hE__; clear ho1 ho2 hb__)
    | ((with_reducible refine sl 9 ?_); go_must (refine wpL_newG rfl rfl 30 rfl (.tmp 9) (.tmp 41) rfl #[.slice a1 nl c1, .slice d1 ll f1] #[.slice none 0 0, .slice none 0 0] (HTI.out _ _) rfl (tb_all rfl rfl) (fun _ => rfl) (fun _ => rfl) ?_); intro wt9 g9 le_9 hg__ hb__; have HG9 := Lib.hid hg__; have hE__ := cU HB bup hb__; replace HB := ck HB hE__; replace HG3 := ck HG3 hE__; replace HZ := ck HZ hE__; replace HN1 := ck HN1 hE__; replace HS1 := ck HS1 hE__; clear hE__; clear hg__ hb__; simp only [PT])
    | ((with_reducible refine sl 46 ?_); go_must (refine wpL_load rfl 30 (.tmp 9) rfl g9 0 rfl [.slice a1 nl c1, .slice d1 ll f1] _ (range_block (hatB HG9 bup)) Try.underlying30 rfl tb_size ?_); simp only [PT])
    | (go_at_call 21; go_must (refine (right_any a1 nl c1 d1 ll f1 L HR.out hl3 (by omega) _ (Sl.of_own (own_keep HS1.out bup))).mono ?_); rintro e w6 ⟨rfl, hb__⟩; have hE__ := cU HB bup hb__; replace HB := ck HB hE__; replace HG3 := ck HG3 hE__; replace HG9 := ck HG9 hE__; replace HN1 := ck HN1 hE__; replace HS1 := ck HS1 hE__; replace HZ := ck HZ hE__; clear hE__; clear hb__)
    | ((with_reducible refine sl 52 ?_); go_must (refine wpL_loadF rfl 27 (.tmp 51) rfl g9 0 rfl (.slice a1 nl c1) (hatB HG9 bup) rfl Try.underlying27 rfl ?_); simp only [PT]))
  · go_ret
    exact ⟨rfl, HB.out⟩
  by_cases hz : nl = 0
  · have hzb : ((nl : Int) == 0) = true := by rw [hz]; rfl
    clear hz
    go_wp2_with fail
    go_ret
    exact ⟨rfl, HB.out⟩
  have hzb : ((nl : Int) == 0) = false := by rw [beq_eq_false_iff_ne]; omega
  obtain ⟨G, hk⟩ := HKN.out (fun e => hz (by rw [← HZN.out, e]; rfl))
  have HGZ := Lib.hid hk.gz
  have hG0 := hk.pos
  have HK := Lib.hid hk
  have hlP : ll = P := by rw [← HLL.out]; exact hk.len
  have hG1 : G ≤ 1024000 := by obtain ⟨j, hj, hq⟩ := hk.hit; have := (hk.ql j hj).2.2; omega
  subst hlP
  clear hk hz
  go_upto_region 14 with (first
    | ((with_reducible refine sl 61 ?_); go_must (refine wpL_load rfl 30 (.tmp 9) rfl g9 0 rfl [.slice a1 nl c1, .slice d1 ll f1] _ (range_block (hatB HG9 bup)) Try.underlying30 rfl tb_size ?_); simp only [PT])
    | (go_at_call 22; go_must (refine (count_any a1 nl c1 d1 ll f1 L (by omega) hl3 HR.out _ (Sl.of_own (own_keep HS1.out bup))).mono ?_); rintro e wC ⟨⟨gC, rfl, ho__⟩, hb__⟩; have HC := Lib.hid ho__; have hE__ := cU HB bup hb__; replace HB := ck HB hE__; replace HG3 := ck HG3 hE__; replace HG9 := ck HG9 hE__; replace HZ := ck HZ hE__; replace HS1 := ck HS1 hE__; clear hE__; clear ho__ hb__)
    | ((with_reducible refine sl 70 ?_); go_must (refine wpL_loadF rfl 28 (.tmp 69) rfl g9 1 rfl (.slice d1 ll f1) (hatB HG9 bup) rfl Try.underlying28 rfl ?_); simp only [PT])
    | (go_at_call 23; go_must (refine (greatest_any adz nl cz zs (by omega) _ (HZ.out.below bup)).mono ?_); rw [HGZ.out]; rintro e wG ⟨rfl, hb__⟩; have hE__ := cU HB bup hb__; replace HB := ck HB hE__; replace HG3 := ck HG3 hE__; replace HG9 := ck HG9 hE__; replace HZ := ck HZ hE__; replace HC := ck HC hE__; replace HS1 := ck HS1 hE__; clear hE__; clear hb__))
  obtain ⟨wb, hwb⟩ : ∃ wb, wb = wG := ⟨_, rfl⟩
  subst hwb
  obtain ⟨bS, rfl⟩ := own_some HS1.out (by omega)
  obtain ⟨bz, oz, rfl, hbz, hatz⟩ := HZ.out.at (by rw [HZN.out]; rw [beq_eq_false_iff_ne] at hzb; omega)
  have hczl := HZ.out.le
  have hcsl := Sl.le (Sl.of_own HS1.out)
  have HCC : Hid (∀ k, k < nl → ∀ wz, Below wb.heap.size wb wz → wz.cell? ⟨gC, k, none⟩ = some (.int .i64 ((cntOf L k : Nat) : Int))) := Lib.hid (fun k hk wz hz => by
    have h := (own_keep HC.out hz).cellAt k (by omega)
    rw [iV_at, cntI_at _ _ _ hk] at h
    exact h)
  have HCZ : Hid (∀ k (hk : k < zs.length) wz, Below wb.heap.size wb wz → wz.cell? ⟨bz, oz + k * 2, none⟩ = some (.string zs[k].name) ∧ wz.cell? ⟨bz, oz + k * 2 + 1, none⟩ = some (.int .i64 zs[k].q)) := Lib.hid (fun k hk wz hz => by
    have h := range_below (hatz k hk) hbz hz
    exact ⟨sh_name h, sh_q h⟩)
  have HCS : Hid (∀ k (z : Int), L[k]? = some z → ∀ wz, Below wb.heap.size wb wz → wz.cell? ⟨bS, k, none⟩ = some (.int .i64 z)) := Lib.hid (fun k z hk wz hz => by
    have hkl := (List.getElem?_eq_some_iff.1 hk).1
    have h := (own_keep HS1.out hz).cellAt k (by rw [HLL.out] at hkl; omega)
    rw [iV_at, hk] at h
    exact h)
  clear hatz
  have HF := Lib.hid (Below.refl wb.heap.size wb)
  obtain ⟨hi, hil, hiq⟩ := HK.out.hit
  have HIQ := Lib.hid hiq
  have hin : hi < nl := by rw [← HZN.out]; exact hil
  clear hiq
  go_wp2_with fail
  go_loopw [13] (fun f wr => ∃ k : Nat, k ≤ hi ∧ f = .int .i64 (k : Int) ∧ Hid (∀ i (h : i < zs.length), i < k → zs[i].q < (G : Int)) ∧ Hid (Below wb.heap.size wb wr)) (fun f _ => nl - (intOf f).toNat)
  case atStart => exact ⟨0, by omega, rfl, Lib.hid (fun i h hh => by omega), HF⟩
  case round =>
    clear HF
    obtain ⟨k, hk, rfl, HLO, HF⟩ := hrel
    have hkl : k < nl := by omega
    have hki : (k : Int) < (nl : Int) := by omega
    have hkz : k < zs.length := by rw [HZN.out]; exact hkl
    obtain ⟨q2, q3⟩ := HCZ.out k hkz wr HF.out
    have hql := HK.out.ql k hkz
    obtain ⟨q, hq⟩ : ∃ q, q = zs[k].q := ⟨_, rfl⟩
    obtain ⟨nm, hnm⟩ : ∃ nm, nm = zs[k].name := ⟨_, rfl⟩
    rw [← hq] at q3 hql
    rw [← hnm] at q2
    have HQ := Lib.hid hq
    have HNM := Lib.hid hnm
    clear hq
    by_cases hqG : q < (G : Int)
    · have hne : k ≠ hi := fun e => by subst e; have := HIQ.out; rw [← HQ.out] at this; omega
      go_wp2_with fail
      exact ⟨⟨k + 1, by omega, by go_num, Lib.hid (fun i h hh => by
        rcases Nat.lt_or_ge i k with g | g
        · exact HLO.out i h g
        · obtain rfl : i = k := by omega
          rw [← HQ.out]; exact hqG), HF⟩, by simp [intOf]; omega⟩
    · have hqe : zs[k].q = (G : Int) := by rw [← HQ.out]; omega
      have hfr := HK.out.first k hkz hqe (fun i hi2 => HLO.out i (by omega) hi2)
      have hnl : nm.size ≤ 999999 := by rw [hnm]; have := (HFW.out (by simp)).2 _ (HZB.out _ (List.getElem_mem hkz)); omega
      rw [← hnm] at hfr
      obtain ⟨oo, hoo⟩ : ∃ oo, oo = offN kb nm ll := ⟨_, rfl⟩
      rw [← hoo] at hfr
      have hool : oo < ll := by rw [hoo]; exact Nat.mod_lt _ (by omega)
      have HOO := Lib.hid hoo
      have HFR := Lib.hid hfr
      have HPQ := Lib.hid (first_plain HK.out)
      clear q2 hqe hfr hnm hoo
      go_wp2_with fail
      clear q3 hqG
      refine wp_region_held_drew (S := fun u__ => u__.heap[g3]? = some (.cells (BV kb).toArray 22 (0, 0)) ∧ u__.cell? ⟨bz, oz + k * 2, none⟩ = some (.string nm)) (by kernel_rfl) ?_ (fun hHeld => ?_)
      focus (exact ⟨hatB HG3 (HF.out.trans (Below.mono bup HF.out.size)), by rw [HNM.out]; exact (HCZ.out k hkz _ (HF.out.trans (Below.mono bup HF.out.size))).1⟩)
      refine' tk 0 (oi := ⟨some 87, _, _, _, _, _⟩) (v := _) rfl (by kernel_rfl) (yieldsIf_load_mid (by rfl) _ _ rfl _ _ rfl (BV kb) _ (fun _ h => range_block h.1) (Try.underlying22) rfl (HKS.out)) hHeld ?_
      simp only [PT]
      refine tk 1 (oi := ⟨some 88, _, _, _, _, _⟩) (v := ?_) rfl (by kernel_rfl) (.inl ⟨by rfl, ?_⟩) hHeld ?_; rotate_left; focus (intro w hSw; (try dsimp only at hSw); go_simp; try with_reducible rfl)
      simp only [PT]
      refine tk 2 (oi := ⟨some 89, _, _, _, _, _⟩) (v := ?_) rfl (by kernel_rfl) (.inl ⟨by rfl, ?_⟩) hHeld ?_; rotate_left; focus (intro w hSw; (try dsimp only at hSw); go_simp; try with_reducible rfl)
      simp only [PT]
      refine tk 3 (oi := ⟨some 90, _, _, _, _, _⟩) (v := ?_) rfl (by kernel_rfl) (.inl ⟨by rfl, ?_⟩) hHeld ?_; rotate_left; focus (intro w hSw; (try dsimp only at hSw); go_simp; try with_reducible rfl)
      simp only [PT]
      refine tk 4 (oi := ⟨some 91, _, _, _, _, _⟩) (v := ?_) rfl (by kernel_rfl) (.inl ⟨by rfl, ?_⟩) hHeld ?_; rotate_left; focus (intro w hSw; (try dsimp only at hSw); go_simp; try with_reducible rfl)
      simp only [PT]
      refine' tk 5 (oi := ⟨some 92, _, _, _, _, _⟩) (v := _) rfl (by kernel_rfl) (yields_loadC (by rfl) 9 (.tmp 91) rfl bz (oz + k * 2) rfl (.string nm) (fun _ h => h.2) Try.underlying9 rfl) hHeld ?_
      simp only [PT]
      refine tk 6 (oi := ⟨some 93, _, _, _, _, _⟩) (v := ?_) rfl (by kernel_rfl) (.inl ⟨by rfl, ?_⟩) hHeld ?_; rotate_left; focus (intro w hSw; (try dsimp only at hSw); go_simp; try with_reducible rfl)
      simp only [PT]
      refine wpAnyH_ready (rs := [7]) (by kernel_rfl) (by simp) ?_
      refine (AllReadyH.cons (o := ⟨some 94, _, _, _, _, _⟩) rfl (fun K hK => ?_) AllReadyH.nil)
      focus (go_simp; go_must (refine (refPermOf_any kb hkb nm hnl ll h2P hl3 _).mono ?_); rw [← HOO.out]; rintro e wO ⟨rfl, hb__⟩; go_must (replace HF := cE0 HF bup hb__); clear hb__; go_wp2_with fail)
      refine hK.out _ _ ?_ (fun hHeld => ?_)
      focus (exact ⟨hatB HG3 (HF.out.trans (Below.mono bup HF.out.size)), by rw [HNM.out]; exact (HCZ.out k hkz _ (HF.out.trans (Below.mono bup HF.out.size))).1⟩)
      clear hK K
      try simp only [PT]
      refine tk 8 (oi := ⟨some 86, _, _, _, _, _⟩) (v := ?_) rfl (by kernel_rfl) (.inl ⟨by rfl, ?_⟩) hHeld ?_; rotate_left; focus (intro w hSw; (try dsimp only at hSw); go_simp; try with_reducible rfl)
      simp only [PT]
      refine tk 9 (oi := ⟨some 95, _, _, _, _, _⟩) (v := ?_) rfl (by kernel_rfl) (.inl ⟨by rfl, ?_⟩) hHeld ?_; rotate_left; focus (intro w hSw; (try dsimp only at hSw); go_simp; try with_reducible rfl)
      simp only [PT]
      refine tk 10 (oi := ⟨some 96, _, _, _, _, _⟩) (v := ?_) rfl (by kernel_rfl) (.inl ⟨by rfl, ?_⟩) hHeld ?_; rotate_left; focus (intro w hSw; (try dsimp only at hSw); go_simp; try with_reducible rfl)
      simp only [PT]
      refine tk 11 (oi := ⟨some 14, _, _, _, _, _⟩) (v := ?_) rfl (by kernel_rfl) (.inl ⟨by rfl, ?_⟩) hHeld ?_; rotate_left; focus (intro w hSw; (try dsimp only at hSw); go_simp; try with_reducible rfl)
      simp only [PT]
      refine tk 12 (oi := ⟨some 15, _, _, _, _, _⟩) (v := ?_) rfl (by kernel_rfl) (.inl ⟨by rfl, ?_⟩) hHeld ?_; rotate_left; focus (intro w hSw; (try dsimp only at hSw); go_simp; try with_reducible rfl)
      simp only [PT]
      refine wpAnyH_done (by kernel_rfl) ?_ _
      have r1 : wO.cell? ⟨g9, 1, none⟩ = some (.slice (some ⟨bS, 0, none⟩) ll f1) := cellV (hatB HG9 HF.out) rfl
      have r2 : wO.cell? ⟨bS, oo, none⟩ = some (.int .i64 (k : Int)) := HCS.out oo _ HFR.out wO HF.out
      have hoi : (oo : Int) < (ll : Int) := by omega
      go_wp2_with fail
      go_loopw [16] (fun i wr => ∃ i0 : Nat, i0 ≤ nl ∧ i = .int .i64 (i0 : Int) ∧ Hid (Below wb.heap.size wb wr)) (fun i _ => nl - (intOf i).toNat)
      case atStart => exact ⟨0, by omega, rfl, HF⟩
      case round =>
        clear HF r1 r2
        obtain ⟨i0, hi0, rfl, HF⟩ := hrel
        by_cases hi1 : i0 < nl
        · have hii : (i0 : Int) < (nl : Int) := by omega
          have hiz : i0 < zs.length := by rw [HZN.out]; exact hi1
          go_wp2_with fail
          go_loopw [17] (fun i wr => ∃ j0 : Nat, j0 ≤ nl ∧ i = .int .i64 (j0 : Int) ∧ Hid (Below wb.heap.size wb wr)) (fun i _ => nl - (intOf i).toNat)
          case atStart => exact ⟨0, by omega, rfl, HF⟩
          case round =>
            clear HF
            obtain ⟨j0, hj0, rfl, HF⟩ := hrel
            by_cases hj1 : j0 < nl
            · have hji : (j0 : Int) < (nl : Int) := by omega
              have hjz : j0 < zs.length := by rw [HZN.out]; exact hj1
              have hpq := HPQ.out i0 j0 hiz hjz
              have s1 := (HCZ.out i0 hiz wr HF.out).2
              have s2 := (HCZ.out j0 hjz wr HF.out).2
              have s3 := HCC.out i0 hi1 wr HF.out
              have s4 := HCC.out j0 hj1 wr HF.out
              obtain ⟨ci, hci⟩ : ∃ ci, ci = cntOf L i0 := ⟨_, rfl⟩
              obtain ⟨cj, hcj⟩ : ∃ cj, cj = cntOf L j0 := ⟨_, rfl⟩
              have hcjl : cj ≤ ll := by rw [hcj, ← HLL.out]; exact cnt_le L j0
              obtain ⟨qi, hqi⟩ : ∃ qi, qi = zs[i0].q := ⟨_, rfl⟩
              obtain ⟨qj, hqj⟩ : ∃ qj, qj = zs[j0].q := ⟨_, rfl⟩
              rw [← hqi] at s1 hpq
              rw [← hqj] at s2 hpq
              rw [← hci] at s3 hpq
              rw [← hcj] at s4 hpq
              clear hci hcj hqi hqj
              by_cases hqq : qi = qj
              · have hqb : (qi == qj) = true := by rw [hqq]; exact beq_self_eq_true _
                have d1 : decide (cj + 1 < ci) = false := decide_eq_false (by have := hpq hqq; omega)
                have d2 : decide ((cj : Int) + 1 < (ci : Int)) = false := decide_eq_false (by have := hpq hqq; omega)
                have d3 : ¬ (cj : Int) + 1 < (ci : Int) := by have := hpq hqq; omega
                clear hqq hpq
                go_wp2_with fail
                go_quiet (fail)
                go_wp2_with fail
                exact ⟨⟨j0 + 1, by omega, by go_num, Lib.hid (by first | exact HF.out | exact HF.out.trans (below_drewN _ _ _) | exact HF.out.drew)⟩, by simp [intOf]; omega⟩
              · have hqb : (qi == qj) = false := by rw [beq_eq_false_iff_ne]; exact hqq
                clear hqq hpq
                go_wp2_with fail
                go_quiet (fail)
                go_wp2_with fail
                exact ⟨⟨j0 + 1, by omega, by go_num, Lib.hid (by first | exact HF.out | exact HF.out.trans (below_drewN _ _ _) | exact HF.out.drew)⟩, by simp [intOf]; omega⟩
            · have hjge : ¬ (j0 : Int) < (nl : Int) := by omega
              go_wp2_with fail
              exact ⟨⟨i0 + 1, by omega, by go_num, HF⟩, by simp [intOf]; omega⟩
        · have hige : ¬ (i0 : Int) < (nl : Int) := by omega
          have s3 := HCC.out 0 (by omega) wr HF.out
          obtain ⟨ci, hci⟩ : ∃ ci, ci = cntOf L 0 := ⟨_, rfl⟩
          rw [← hci] at s3
          have HCI := Lib.hid hci
          clear hci
          by_cases h1 : 1 < nl
          · have h1i : (1 : Int) < (nl : Int) := by omega
            go_wp2_with fail
            go_ret
            exact ⟨rfl, HB.out.trans (HF.out.mono HB.out.size)⟩
          · have h1i : ¬ (1 : Int) < (nl : Int) := by omega
            have hcl : ci = ll := by
              rw [HCI.out, ← HLL.out]
              refine cnt_all L (fun z hz => ?_)
              have := HR.out z hz
              omega
            have hcb : ((ci : Int) == (ll : Int)) = true := by rw [hcl]; exact beq_self_eq_true _
            clear hcl
            go_wp2_with fail
            go_ret
            exact ⟨rfl, HB.out.trans (HF.out.mono HB.out.size)⟩
theorem first17_walk (kb : List UInt8) (hkb : kb.length = 16) (n : Nat) (hn : n ≤ 255) (ad : Option Addr) (m c : Nat) (xs : List ShV) (w : World) (hx : Shs w ad m c xs) :
    Calls Try.prog 8 #[.agg (BV kb).toArray, .int .u8 (n : Int), .slice ad m c] w fun e w' => e = .returned (.bool true) ∧ Below w.heap.size w w' := by
  by_cases hm : mayR xs
  · exact first17_good kb hkb n hn ad m c xs hm w hx
  · exact first17_bad kb hkb n ad m c xs hm w hx
end Go.Proofs.Ytaadpldijnegkaa
