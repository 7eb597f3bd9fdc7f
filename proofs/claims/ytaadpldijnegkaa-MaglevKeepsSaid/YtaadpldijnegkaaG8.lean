/-
  Joined by program (merge.py): MgC.
-/
import Derived.Test.YtaadpldijnegkaaG7
/-
  Chapter 17: MaglevTurned: walked (written by gen/mglaw.py and gen/mgC.py).
-/
namespace Go.Proofs.Ytaadpldijnegkaa
open Go.RowKit Go.Sort
set_option linter.unusedVariables false
set_option linter.unusedSimpArgs false
set_option maxRecDepth 100000
set_option maxHeartbeats 16000000
theorem own_st {w a w' : World} {b e s g T : Nat} {ad : Option Addr} {n c : Nat} {xs : List Value} {cs : Array Value} (h : w.ownsRow b e s (.slice ad n c) n xs) (hg : w.heap[g]? = some (.cells cs T (0, 0))) (hu : Below w.heap.size w a) (hr : a.grownBy w' (some g)) (hne : e ≠ T) : w'.ownsRow b e s (.slice ad n c) n xs :=
  (own_keep h hu).kept hr (.inr (own_farB h hg hne))
theorem turned17_bad (kb : List UInt8) (hkb : kb.length = 16) (n : Nat) (ad : Option Addr) (m c : Nat) (xs : List ShV) (at_ : Int) (hm : ¬ mayR xs) (w : World) (hx : Shs w ad m c xs) :
    Calls Try.prog 6 #[.agg (BV kb).toArray, .int .u8 (n : Int), .slice ad m c, .int .u8 at_] w fun e w' => e = .returned (.bool true) ∧ Below w.heap.size w w' := by
  have HB := Lib.hid (Below.refl w.heap.size w)
  have HXS := Lib.hid hx
  have HML := Lib.hid hx.len
  have hxc := hx.le
  have HTI : Hid (∀ x y : Value, (Try.prog.info? 30).map (fun i => (i.zero, i.size)) = some (some (.agg #[.slice none 0 0, .slice none 0 0]), (#[x, y] : Array Value).size)) := Lib.hid (fun _ _ => tb_info)
  have HKS : Hid ((Try.prog.info? 22).map (·.size) = some (BV kb).length) := Lib.hid (by rw [BV_length, hkb]; exact key_size)
  have HMD : Hid (decide (mayR xs) = false) := Lib.hid (decide_eq_false hm)
  clear hx hm
  go_enter Try.func6, Try.ntmps6
  go_wp2_with (first
    | ((with_reducible refine sl 4 ?_); go_must (refine wpL_boxG rfl 22 (.tmp 0) rfl (BV kb).toArray rfl ?_); intro w1 g4 he__ le_g4 lt_g4 hg__ hb__; have HG4 := Lib.hid hg__; have hE__ := cU HB bup hb__; replace HB := ck HB hE__; replace HXS := ck HXS hE__; clear hE__; clear hg__ hb__ he__; simp only [PT])
    | (go_at_call 10; go_must (refine (awake_any _).mono ?_); rintro e w2 ⟨rfl, hb__⟩; have hE__ := cU HB bup hb__; replace HB := ck HB hE__; replace HXS := ck HXS hE__; replace HG4 := ck HG4 hE__; clear hE__; clear hb__)
    | (go_at_call 11; go_must (refine (few17_any ad m c xs _ HXS.out).mono ?_); rintro e w2 ⟨⟨b, rfl, hfw⟩, hb__⟩; have HFW := Lib.hid hfw; have hE__ := cU HB bup hb__; replace HB := ck HB hE__; replace HXS := ck HXS hE__; replace HG4 := ck HG4 hE__; clear hE__; clear hb__ hfw; cases b)
    | (go_at_call 14; go_must (refine (refMay_any ad m c xs _ (HXS.out.below bup)).mono ?_); rw [HMD.out]; rintro e w4 ⟨rfl, hb__⟩; have hE__ := cU HB bup hb__; replace HB := ck HB hE__; replace HXS := ck HXS hE__; replace HG4 := ck HG4 hE__; clear hE__; clear hb__))
  all_goals
    go_ret
    exact ⟨rfl, HB.out⟩
theorem turned17_good (kb : List UInt8) (hkb : kb.length = 16) (n : Nat) (hn : n ≤ 255) (ad : Option Addr) (m c : Nat) (xs : List ShV) (at_ : Nat) (hat : at_ ≤ 255) (hm : mayR xs) (w : World) (hx : Shs w ad m c xs) :
    Calls Try.prog 6 #[.agg (BV kb).toArray, .int .u8 (n : Int), .slice ad m c, .int .u8 (at_ : Int)] w fun e w' => e = .returned (.bool true) ∧ Below w.heap.size w w' := by
  have HB := Lib.hid (Below.refl w.heap.size w)
  have HXS := Lib.hid hx
  have HML := Lib.hid hx.len
  have hxc := hx.le
  have HTI : Hid (∀ x y : Value, (Try.prog.info? 30).map (fun i => (i.zero, i.size)) = some (some (.agg #[.slice none 0 0, .slice none 0 0]), (#[x, y] : Array Value).size)) := Lib.hid (fun _ _ => tb_info)
  have HKS : Hid ((Try.prog.info? 22).map (·.size) = some (BV kb).length) := Lib.hid (by rw [BV_length, hkb]; exact key_size)
  have HM := Lib.hid hm
  have HMD : Hid (decide (mayR xs) = true) := Lib.hid (decide_eq_true hm)
  have hmm : m ≤ 1024 := by have := ((mayR_iff xs).1 hm).1; have := hx.len; omega
  obtain ⟨P, hP⟩ : ∃ P, P = nextP (n : Int) := ⟨_, rfl⟩
  have hps := nextP_spec (n : Int) (by omega)
  have hlw := low_le (n : Int)
  have h2P : 2 ≤ P := by omega
  have h3P : P ≤ 65537 := by omega
  have hpr : pr P = true := by rw [hP]; exact hps.1
  have HPN : Hid (nextP (n : Int) = P) := Lib.hid hP.symm
  have HPP := Lib.hid hpr
  obtain ⟨zs, hzs⟩ : ∃ zs, risL xs = zs := ⟨_, rfl⟩
  have HRS := Lib.hid hzs
  have hzq : ∀ x ∈ zs, 0 < x.q ∧ x.q ≤ 1024000 := by rw [← hzs]; exact mayR_q hm
  have hzl : zs.length ≤ 1024 := by rw [← hzs]; exact Nat.le_trans (risL_le xs) ((mayR_iff xs).1 hm).1
  have hrg := slZ_rg (kb := kb) (n := P) (zs := zs) h2P h3P hpr hzq
  obtain ⟨L, hL⟩ : ∃ L, slZ kb P zs = L := ⟨_, rfl⟩
  obtain ⟨N, hN⟩ : ∃ N, namesOf zs = N := ⟨_, rfl⟩
  obtain ⟨ll, hll⟩ : ∃ ll, L.length = ll := ⟨_, rfl⟩
  obtain ⟨nl, hnl⟩ : ∃ nl, N.length = nl := ⟨_, rfl⟩
  rw [hL, hll] at hrg
  have hl3 : ll ≤ 65537 := by omega
  have hzn : zs.length = nl := by rw [← hnl, ← hN, namesOf_length]
  have hn3 : nl ≤ 1024 := by omega
  have HZN := Lib.hid hzn
  have HZQ := Lib.hid hzq
  have HR : Hid (∀ z ∈ L, 0 ≤ z ∧ z < (nl : Int)) := Lib.hid (fun z hz => by have := hrg.1 z hz; omega)
  have HR0 : Hid (∀ z ∈ L, 0 ≤ z) := Lib.hid (fun z hz => (hrg.1 z hz).1)
  have HL := Lib.hid hL
  have HN := Lib.hid hN
  have HLL := Lib.hid hll
  have HNL := Lib.hid hnl
  obtain ⟨k, hk⟩ : ∃ k, k = at_ % (m + 1) := ⟨_, rfl⟩
  have hkm : k ≤ m := by have := Nat.mod_lt at_ (show 0 < m + 1 by omega); omega
  have hki : (at_ : Int) % ((m : Int) + 1) = (k : Int) := by rw [hk, Int.natCast_emod]; rfl
  obtain ⟨ts, hts⟩ : ∃ ts, xs.drop k ++ xs.take k = ts := ⟨_, rfl⟩
  have hpm : xs.Perm ts := by rw [← hts]; exact turn_perm xs k
  have HTM : Hid (mayR ts) := Lib.hid (mayR_perm hm hpm)
  have HTR : Hid (risL ts = zs) := Lib.hid (by rw [← hzs]; exact (ris_of_perm ((mayR_iff xs).1 hm).2.2 hpm).symm)
  have HTB : Hid (∀ x ∈ ts, x ∈ xs) := Lib.hid (fun x hx => hpm.symm.subset hx)
  have HZM : Hid (mayR zs) := Lib.hid (by rw [← hzs]; exact mayR_ris hm)
  have HZR : Hid (risL zs = zs) := Lib.hid (by rw [← hzs]; exact ris_idem ((mayR_iff xs).1 hm).2.2)
  have HZB : Hid (∀ x ∈ zs, x ∈ xs) := Lib.hid (fun x hx => by rw [← hzs] at hx; exact (risL_mem hx).1)
  have HTS := Lib.hid hts
  have hmL : m = xs.length := hx.len
  have HTZ : Hid (∀ x y : Value, (Try.prog.info? 30).map (·.size) = some (#[x, y] : Array Value).size) := Lib.hid (fun _ _ => tb_size)
  have HTL : Hid (ts.length = m) := Lib.hid (by rw [← hpm.length_eq, hmL])
  clear hmL hpm hts hk
  clear hx hm hP hps hlw hpr hzs hzq hrg hL hN hll hnl hzn
  go_enter Try.func6, Try.ntmps6
  go_upto_region 5 with (first
    | ((with_reducible refine sl 4 ?_); go_must (refine wpL_boxG rfl 22 (.tmp 0) rfl (BV kb).toArray rfl ?_); intro w1 g4 he__ le_g4 lt_g4 hg__ hb__; have HG4 := Lib.hid hg__; have hE__ := cU HB bup hb__; replace HB := ck HB hE__; replace HXS := ck HXS hE__; clear hE__; clear hg__ hb__ he__; simp only [PT])
    | (go_at_call 10; go_must (refine (awake_any _).mono ?_); rintro e w2 ⟨rfl, hb__⟩; have hE__ := cU HB bup hb__; replace HB := ck HB hE__; replace HXS := ck HXS hE__; replace HG4 := ck HG4 hE__; clear hE__; clear hb__)
    | (go_at_call 11; go_must (refine (few17_any ad m c xs _ HXS.out).mono ?_); rintro e w2 ⟨⟨b, rfl, hfw⟩, hb__⟩; have HFW := Lib.hid hfw; have hE__ := cU HB bup hb__; replace HB := ck HB hE__; replace HXS := ck HXS hE__; replace HG4 := ck HG4 hE__; clear hE__; clear hb__ hfw; cases b)
    | (go_at_call 14; go_must (refine (refMay_any ad m c xs _ (HXS.out.below bup)).mono ?_); rw [HMD.out]; rintro e w4 ⟨rfl, hb__⟩; have hE__ := cU HB bup hb__; replace HB := ck HB hE__; replace HXS := ck HXS hE__; replace HG4 := ck HG4 hE__; clear hE__; clear hb__)
    | (go_at_call 19; go_must (refine (refNext_any (n : Int) (by omega) (by omega) _).mono ?_); rw [HPN.out]; rintro e w' ⟨rfl, rfl⟩))
  · go_ret
    exact ⟨rfl, HB.out⟩
  rw [hki]
  have hmx : m ≤ 1024 := hmm
  have HX5 := HXS
  obtain ⟨wq, hwq⟩ : ∃ wq, wq = w4 := ⟨_, rfl⟩
  subst hwq
  have HF := Lib.hid (Below.refl wq.heap.size wq)
  have HSUF : Hid (∀ wz, Below wq.heap.size wq wz → Sl wz (subAd ad c k 2) (m - k) (c - k) 2 (shC (xs.drop k))) := Lib.hid (fun wz hz => Shs.suf (HXS.out.below hz) k hkm)
  have HPRE : Hid (∀ wz, Below wq.heap.size wq wz → Sl wz (subAd ad c 0 2) (k - 0) (c - 0) 2 (shC (xs.take k))) := Lib.hid (fun wz hz => Shs.pre (HXS.out.below hz) k hkm)
  refine wp_region_held_drew (S := fun _ => True) (by kernel_rfl) ?_ (fun hHeld => ?_)
  focus (exact trivial)
  refine tk 1 (oi := ⟨some 41, _, _, _, _, _⟩) (v := ?_) rfl (by kernel_rfl) (.inl ⟨by rfl, ?_⟩) hHeld ?_; rotate_left; focus (intro w hSw; (try dsimp only at hSw); go_simp; try with_reducible rfl)
  simp only [PT]
  refine tk 2 (oi := ⟨some 42, _, _, _, _, _⟩) (v := ?_) rfl (by kernel_rfl) (.inl ⟨by rfl, ?_⟩) hHeld ?_; rotate_left; focus (intro w hSw; (try dsimp only at hSw); go_simp; try with_reducible rfl)
  simp only [PT]
  refine' tk 3 (oi := ⟨some 43, _, _, _, _, _⟩) (v := _) rfl (by kernel_rfl) (yields_slice elSh (by rfl) (.tmp 41) (some (.tmp 42)) none rfl rfl k m (.inr ⟨_, rfl⟩) (.inl ⟨rfl, rfl⟩) (by omega) (by omega)) hHeld ?_
  simp only [PT]
  refine tk 5 (oi := ⟨some 45, _, _, _, _, _⟩) (v := ?_) rfl (by kernel_rfl) (.inl ⟨by rfl, ?_⟩) hHeld ?_; rotate_left; focus (intro w hSw; (try dsimp only at hSw); go_simp; try with_reducible rfl)
  simp only [PT]
  refine tk 6 (oi := ⟨some 46, _, _, _, _, _⟩) (v := ?_) rfl (by kernel_rfl) (.inl ⟨by rfl, ?_⟩) hHeld ?_; rotate_left; focus (intro w hSw; (try dsimp only at hSw); go_simp; try with_reducible rfl)
  simp only [PT]
  refine' tk 7 (oi := ⟨some 47, _, _, _, _, _⟩) (v := _) rfl (by kernel_rfl) (yields_slice elSh (by rfl) (.tmp 45) none (some (.tmp 46)) rfl rfl 0 k (.inl ⟨rfl, rfl⟩) (.inr ⟨_, rfl⟩) (by omega) (by omega)) hHeld ?_
  simp only [PT]
  refine wpAnyH_ready (rs := [0]) (by kernel_rfl) (by simp) ?_
  refine (AllReadyH.cons (o := ⟨some 40, _, _, _, _, _⟩) rfl (fun K hK => ?_) AllReadyH.nil)
  (go_must (refine step_lit0G elSh rfl rfl ?_); intro w40 g40 le40 lt40 ho__ hb__; go_must (have HQ := Lib.hid (own_base ho__ (Nat.le_trans HF.out.size (bsz bup)))); go_must (replace HF := cE0 HF bup hb__); clear ho__ hb__)
  refine hK.out _ _ ?_ (fun hHeld => ?_)
  focus (exact trivial)
  clear hK K
  try simp only [PT]
  refine wpAnyH_ready (rs := [4]) (by kernel_rfl) (by simp) ?_
  refine (AllReadyH.cons (o := ⟨some 44, _, _, _, _, _⟩) rfl (fun K hK => ?_) AllReadyH.nil)
  (go_must (refine step_appG elSh rfl (.tmp 40) (.tmp 43) rfl wq.heap.size rfl (own_keep HQ.out bup) rfl (HSUF.out _ (HF.out.trans (Below.mono bup HF.out.size))) (shC_one _) (m - k) (by omega) (by unfold maxLen; omega) (by omega) (Nat.le_trans HF.out.size (bsz bup)) ?_); intro ad44 c44 w44 ho__ hg__; go_must (replace HF := cEa HF bup hg__ (ownBlock_ge HQ.out)); clear HQ; have HQ := Lib.hid (show World.ownsRow _ _ _ _ _ _ (shC (xs.drop k)) from ho__); clear ho__ hg__)
  refine hK.out _ _ ?_ (fun hHeld => ?_)
  focus (exact trivial)
  clear hK K
  try simp only [PT]
  refine wpAnyH_ready (rs := [8]) (by kernel_rfl) (by simp) ?_
  refine (AllReadyH.cons (o := ⟨some 48, _, _, _, _, _⟩) rfl (fun K hK => ?_) AllReadyH.nil)
  (go_must (refine step_appG elSh rfl (.tmp 44) (.tmp 47) rfl wq.heap.size rfl (own_keep HQ.out bup) rfl (HPRE.out _ (HF.out.trans (Below.mono bup HF.out.size))) (shC_one _) m (by omega) (by unfold maxLen; omega) (by omega) (Nat.le_trans HF.out.size (bsz bup)) ?_); intro ad48 c48 w48 ho__ hg__; go_must (replace HF := cEa HF bup hg__ (ownBlock_ge HQ.out)); clear HQ; have HQ := Lib.hid ho__; clear ho__ hg__)
  refine hK.out _ _ ?_ (fun hHeld => ?_)
  focus (exact trivial)
  clear hK K
  try simp only [PT]
  refine tk 9 (oi := ⟨some 11, _, _, _, _, _⟩) (v := ?_) rfl (by kernel_rfl) (.inl ⟨by rfl, ?_⟩) hHeld ?_; rotate_left; focus (intro w hSw; (try dsimp only at hSw); go_simp; try with_reducible rfl)
  simp only [PT]
  refine wpAnyH_done (by kernel_rfl) ?_ _
  have HTQ : Hid (Shs w48 ad48 m c48 ts) := Lib.hid (by have h := Sl.of_own HQ.out; rw [← shC_append, HTS.out] at h; exact h)
  have hb__ := HF.out
  have hE__ := cU HB bup hb__; replace HB := ck HB hE__; replace HXS := ck HXS hE__; replace HG4 := ck HG4 hE__; clear hE__
  clear hb__ HF HSUF HPRE HQ HX5
  go_upto_region 8 with (first
    | ((with_reducible refine sl 50 ?_); go_must (refine wpL_load rfl 22 (.tmp 4) rfl g4 0 rfl (BV kb) _ (range_block (hatB HG4 bup)) Try.underlying22 rfl HKS.out ?_); simp only [PT])
    | ((with_reducible refine sl 57 ?_); go_must (refine wpL_load rfl 22 (.tmp 4) rfl g4 0 rfl (BV kb) _ (range_block (hatB HG4 bup)) Try.underlying22 rfl HKS.out ?_); simp only [PT])
    | (go_at_call 12; (with_reducible show Calls _ _ #[_, _, .slice ad m c] _ _); go_must (refine (build_at kb hkb P h2P h3P HPP.out ad m c xs HM.out (fun x hx => by have := (HFW.out (by simp)).2 x hx; omega) zs HRS.out N HN.out nl HNL.out L HL.out ll HLL.out _ HXS.out).mono ?_); rintro e wB1 ⟨a1, c1, d1, f1, rfl, ho1, ho2, hb__⟩; have HN1 := Lib.hid (own_base ho1 HB.out.size); have HS1 := Lib.hid (own_base ho2 HB.out.size); have hE__ := cU HB bup hb__; replace HB := ck HB hE__; replace HXS := ck HXS hE__; replace HG4 := ck HG4 hE__; replace HTQ := ck HTQ hE__; clear hE__; clear ho1 ho2 hb__)
    | ((with_reducible refine sl 12 ?_); go_must (refine wpL_newG rfl rfl 30 rfl (.tmp 12) (.tmp 54) rfl #[.slice a1 nl c1, .slice d1 ll f1] #[.slice none 0 0, .slice none 0 0] (HTI.out _ _) rfl (tb_all rfl rfl) (fun _ => rfl) (fun _ => rfl) ?_); intro wt12 g12 le_12 hg__ hb__; have HG12 := Lib.hid hg__; have hE__ := cU HB bup hb__; replace HB := ck HB hE__; replace HXS := ck HXS hE__; replace HG4 := ck HG4 hE__; replace HTQ := ck HTQ hE__; replace HN1 := ck HN1 hE__; replace HS1 := ck HS1 hE__; clear hE__; clear hg__ hb__; simp only [PT])
    | (go_at_call 12; (with_reducible show Calls _ _ #[_, _, .slice ad48 m c48] _ _); go_must (refine (build_at kb hkb P h2P h3P HPP.out ad48 m c48 ts HTM.out (fun x hx => by have := (HFW.out (by simp)).2 x (HTB.out x hx); omega) zs HTR.out N HN.out nl HNL.out L HL.out ll HLL.out _ (HTQ.out.below bup)).mono ?_); rintro e wB2 ⟨a2, c2, d2, f2, rfl, ho1, ho2, hb__⟩; have HN2 := Lib.hid (own_base ho1 HB.out.size); have HS2 := Lib.hid (own_base ho2 HB.out.size); have hE__ := cU HB bup hb__; replace HB := ck HB hE__; replace HXS := ck HXS hE__; replace HG4 := ck HG4 hE__; replace HG12 := ck HG12 hE__; replace HN1 := ck HN1 hE__; replace HS1 := ck HS1 hE__; clear hE__; clear ho1 ho2 hb__)
    | ((with_reducible refine sl 14 ?_); go_must (refine wpL_newG rfl rfl 30 rfl (.tmp 14) (.tmp 61) rfl #[.slice a2 nl c2, .slice d2 ll f2] #[.slice none 0 0, .slice none 0 0] (HTI.out _ _) rfl (tb_all rfl rfl) (fun _ => rfl) (fun _ => rfl) ?_); intro wt14 g14 le_14 hg__ hb__; have HG14 := Lib.hid hg__; have hE__ := cU HB bup hb__; replace HB := ck HB hE__; replace HXS := ck HXS hE__; replace HG4 := ck HG4 hE__; replace HG12 := ck HG12 hE__; replace HN1 := ck HN1 hE__; replace HS1 := ck HS1 hE__; replace HN2 := ck HN2 hE__; replace HS2 := ck HS2 hE__; clear hE__; clear hg__ hb__; simp only [PT]))
  obtain ⟨wv, hwv⟩ : ∃ wv, wv = wt14 := ⟨_, rfl⟩
  subst hwv
  have HF := Lib.hid (Below.refl wv.heap.size wv)
  refine wp_region_held_drew (S := fun u__ => u__.heap[g4]? = some (.cells (BV kb).toArray 22 (0, 0))) (by kernel_rfl) ?_ (fun hHeld => ?_)
  focus (exact (hatB HG4 (HF.out.trans (Below.mono bup HF.out.size))))
  refine' tk 0 (oi := ⟨some 64, _, _, _, _, _⟩) (v := _) rfl (by kernel_rfl) (yieldsIf_load_mid (by rfl) _ _ rfl _ _ rfl (BV kb) _ (fun _ h => range_block h) (Try.underlying22) rfl (HKS.out)) hHeld ?_
  simp only [PT]
  refine tk 1 (oi := ⟨some 65, _, _, _, _, _⟩) (v := ?_) rfl (by kernel_rfl) (.inl ⟨by rfl, ?_⟩) hHeld ?_; rotate_left; focus (intro w hSw; (try dsimp only at hSw); go_simp; try with_reducible rfl)
  simp only [PT]
  refine tk 2 (oi := ⟨some 66, _, _, _, _, _⟩) (v := ?_) rfl (by kernel_rfl) (.inl ⟨by rfl, ?_⟩) hHeld ?_; rotate_left; focus (intro w hSw; (try dsimp only at hSw); go_simp; try with_reducible rfl)
  simp only [PT]
  refine wpAnyH_ready (rs := [3, 8]) (by kernel_rfl) (by simp) ?_
  refine (AllReadyH.cons (o := ⟨some 67, _, _, _, _, _⟩) rfl (fun K hK => ?_) (AllReadyH.cons (o := ⟨some 16, _, _, _, _, _⟩) rfl (fun K hK => ?_) AllReadyH.nil))
  focus (go_simp; go_must (refine (refRising_any ad m c xs hmx _ (HXS.out.below (HF.out.trans (Below.mono bup HF.out.size)))).mono ?_); rintro e wR ⟨adz, cz, rfl, ho__, hb__⟩; rw [HRS.out] at ho__ ⊢; go_must (have HZ := Lib.hid (Shs.of_own ho__)); (try (replace HG16 := ckk HG16 bup hb__)); go_must (replace HF := cE0 HF bup hb__); clear ho__ hb__; go_wp2_with fail)
  refine hK.out _ _ ?_ (fun hHeld => ?_)
  focus (exact (hatB HG4 (HF.out.trans (Below.mono bup HF.out.size))))
  clear hK K
  try simp only [PT]
  refine wpAnyH_ready (rs := [4, 8]) (by kernel_rfl) (by simp) ?_
  refine (AllReadyH.cons (o := ⟨some 68, _, _, _, _, _⟩) rfl (fun K hK => ?_) (AllReadyH.cons (o := ⟨some 16, _, _, _, _, _⟩) rfl (fun K hK => ?_) AllReadyH.nil))
  focus (go_simp; go_must (refine (build_at kb hkb P h2P h3P HPP.out adz zs.length cz zs HZM.out (fun x hx => by have := (HFW.out (by simp)).2 x (HZB.out x hx); omega) zs HZR.out N HN.out nl HNL.out L HL.out ll HLL.out _ (HZ.out.below bup)).mono ?_); rintro e wB3 ⟨a3, c3, d3, f3, rfl, ho1, ho2, hb__⟩; have HN3 := Lib.hid ho1; have HS3 := Lib.hid ho2; (try (replace HG16 := ckk HG16 bup hb__)); go_must (replace HF := cE0 HF bup hb__); clear ho1 ho2 hb__ HZ; go_wp2_with fail)
  refine hK.out _ _ ?_ (fun hHeld => ?_)
  focus (exact (hatB HG4 (HF.out.trans (Below.mono bup HF.out.size))))
  clear hK K
  try simp only [PT]
  refine tk 5 (oi := ⟨some 63, _, _, _, _, _⟩) (v := ?_) rfl (by kernel_rfl) (.inl ⟨by rfl, ?_⟩) hHeld ?_; rotate_left; focus (intro w hSw; (try dsimp only at hSw); go_simp; try with_reducible rfl)
  simp only [PT]
  refine tk 6 (oi := ⟨some 69, _, _, _, _, _⟩) (v := ?_) rfl (by kernel_rfl) (.inl ⟨by rfl, ?_⟩) hHeld ?_; rotate_left; focus (intro w hSw; (try dsimp only at hSw); go_simp; try with_reducible rfl)
  simp only [PT]
  refine tk 7 (oi := ⟨some 70, _, _, _, _, _⟩) (v := ?_) rfl (by kernel_rfl) (.inl ⟨by rfl, ?_⟩) hHeld ?_; rotate_left; focus (intro w hSw; (try dsimp only at hSw); go_simp; try with_reducible rfl)
  simp only [PT]
  refine wpAnyH_ready (rs := [8]) (by kernel_rfl) (by simp) ?_
  refine (AllReadyH.cons (o := ⟨some 16, _, _, _, _, _⟩) rfl (fun K hK => ?_) AllReadyH.nil)
  (go_must (refine step_allocG rfl 30 rfl (.agg #[.slice none 0 0, .slice none 0 0]) #[.slice none 0 0, .slice none 0 0] 2 tb_info rfl ?_); intro w16 g16 le16 lt16 hg__ hb__; go_must (have ge16 : wv.heap.size ≤ g16 := Nat.le_trans HF.out.size (Nat.le_trans (bsz bup) le16)); have HG16 := Lib.hid hg__; (try (replace HZ := ckk HZ bup hb__)); (try (replace HN3 := cOa HN3 bup hb__)); (try (replace HS3 := cOa HS3 bup hb__)); go_must (replace HF := cE0 HF bup hb__); clear hg__ hb__)
  refine hK.out _ _ ?_ (fun hHeld => ?_)
  focus (exact (hatB HG4 (HF.out.trans (Below.mono bup HF.out.size))))
  clear hK K
  try simp only [PT]
  refine wpAnyH_ready (rs := [9]) (by kernel_rfl) (by simp) ?_
  refine (AllReadyH.cons (o := ⟨none, _, _, _, _, _⟩) rfl (fun K hK => ?_) AllReadyH.nil)
  (go_must (refine step_storeR rfl 30 (.tmp 16) (.tmp 69) rfl g16 #[.slice a3 nl c3, .slice d3 ll f3] rfl rfl (hatB HG16 bup) (HTZ.out _ _) rfl (tb_all rfl rfl) ?_); intro wst hs__ hr__; go_must (have HN3n := Lib.hid (own_st HN3.out HG16.out bup hr__ (by decide))); go_must (have HS3n := Lib.hid (own_st HS3.out HG16.out bup hr__ (by decide))); go_must (replace HF := Lib.hid ((HF.out.trans (Below.mono bup HF.out.size)).grown hr__ (HF.out.trans (Below.mono bup HF.out.size)).size (fun k e => (by cases e; exact ge16)))); clear HG16 HN3 HS3; have HG16 := Lib.hid hs__; have HN3 := HN3n; have HS3 := HS3n; clear HN3n HS3n hs__ hr__)
  refine hK.out _ _ ?_ (fun hHeld => ?_)
  focus (exact (hatB HG4 (HF.out.trans (Below.mono bup HF.out.size))))
  clear hK K
  try simp only [PT]
  refine tk 10 (oi := ⟨some 17, _, _, _, _, _⟩) (v := ?_) rfl (by kernel_rfl) (.inl ⟨by rfl, ?_⟩) hHeld ?_; rotate_left; focus (intro w hSw; (try dsimp only at hSw); go_simp; try with_reducible rfl)
  simp only [PT]
  refine wpAnyH_done (by kernel_rfl) ?_ _
  rotate_left
  (go_must (refine step_allocG rfl 30 rfl (.agg #[.slice none 0 0, .slice none 0 0]) #[.slice none 0 0, .slice none 0 0] 2 tb_info rfl ?_); intro w16 g16 le16 lt16 hg__ hb__; go_must (have ge16 : wv.heap.size ≤ g16 := Nat.le_trans HF.out.size (Nat.le_trans (bsz bup) le16)); have HG16 := Lib.hid hg__; (try (replace HZ := ckk HZ bup hb__)); (try (replace HN3 := cOa HN3 bup hb__)); (try (replace HS3 := cOa HS3 bup hb__)); go_must (replace HF := cE0 HF bup hb__); clear hg__ hb__)
  refine hK.out _ _ ?_ (fun hHeld => ?_)
  focus (exact (hatB HG4 (HF.out.trans (Below.mono bup HF.out.size))))
  clear hK K
  try simp only [PT]
  refine wpAnyH_ready (rs := [4]) (by kernel_rfl) (by simp) ?_
  refine (AllReadyH.cons (o := ⟨some 68, _, _, _, _, _⟩) rfl (fun K hK => ?_) AllReadyH.nil)
  focus (go_simp; go_must (refine (build_at kb hkb P h2P h3P HPP.out adz zs.length cz zs HZM.out (fun x hx => by have := (HFW.out (by simp)).2 x (HZB.out x hx); omega) zs HZR.out N HN.out nl HNL.out L HL.out ll HLL.out _ (HZ.out.below bup)).mono ?_); rintro e wB3 ⟨a3, c3, d3, f3, rfl, ho1, ho2, hb__⟩; have HN3 := Lib.hid ho1; have HS3 := Lib.hid ho2; (try (replace HG16 := ckk HG16 bup hb__)); go_must (replace HF := cE0 HF bup hb__); clear ho1 ho2 hb__ HZ; go_wp2_with fail)
  refine hK.out _ _ ?_ (fun hHeld => ?_)
  focus (exact (hatB HG4 (HF.out.trans (Below.mono bup HF.out.size))))
  clear hK K
  try simp only [PT]
  refine tk 5 (oi := ⟨some 63, _, _, _, _, _⟩) (v := ?_) rfl (by kernel_rfl) (.inl ⟨by rfl, ?_⟩) hHeld ?_; rotate_left; focus (intro w hSw; (try dsimp only at hSw); go_simp; try with_reducible rfl)
  simp only [PT]
  refine tk 6 (oi := ⟨some 69, _, _, _, _, _⟩) (v := ?_) rfl (by kernel_rfl) (.inl ⟨by rfl, ?_⟩) hHeld ?_; rotate_left; focus (intro w hSw; (try dsimp only at hSw); go_simp; try with_reducible rfl)
  simp only [PT]
  refine tk 7 (oi := ⟨some 70, _, _, _, _, _⟩) (v := ?_) rfl (by kernel_rfl) (.inl ⟨by rfl, ?_⟩) hHeld ?_; rotate_left; focus (intro w hSw; (try dsimp only at hSw); go_simp; try with_reducible rfl)
  simp only [PT]
  refine wpAnyH_ready (rs := [9]) (by kernel_rfl) (by simp) ?_
  refine (AllReadyH.cons (o := ⟨none, _, _, _, _, _⟩) rfl (fun K hK => ?_) AllReadyH.nil)
  (go_must (refine step_storeR rfl 30 (.tmp 16) (.tmp 69) rfl g16 #[.slice a3 nl c3, .slice d3 ll f3] rfl rfl (hatB HG16 bup) (HTZ.out _ _) rfl (tb_all rfl rfl) ?_); intro wst hs__ hr__; go_must (have HN3n := Lib.hid (own_st HN3.out HG16.out bup hr__ (by decide))); go_must (have HS3n := Lib.hid (own_st HS3.out HG16.out bup hr__ (by decide))); go_must (replace HF := Lib.hid ((HF.out.trans (Below.mono bup HF.out.size)).grown hr__ (HF.out.trans (Below.mono bup HF.out.size)).size (fun k e => (by cases e; exact ge16)))); clear HG16 HN3 HS3; have HG16 := Lib.hid hs__; have HN3 := HN3n; have HS3 := HS3n; clear HN3n HS3n hs__ hr__)
  refine hK.out _ _ ?_ (fun hHeld => ?_)
  focus (exact (hatB HG4 (HF.out.trans (Below.mono bup HF.out.size))))
  clear hK K
  try simp only [PT]
  refine tk 10 (oi := ⟨some 17, _, _, _, _, _⟩) (v := ?_) rfl (by kernel_rfl) (.inl ⟨by rfl, ?_⟩) hHeld ?_; rotate_left; focus (intro w hSw; (try dsimp only at hSw); go_simp; try with_reducible rfl)
  simp only [PT]
  refine wpAnyH_done (by kernel_rfl) ?_ _
  rotate_left
  (go_must (refine step_allocG rfl 30 rfl (.agg #[.slice none 0 0, .slice none 0 0]) #[.slice none 0 0, .slice none 0 0] 2 tb_info rfl ?_); intro w16 g16 le16 lt16 hg__ hb__; go_must (have ge16 : wv.heap.size ≤ g16 := Nat.le_trans HF.out.size (Nat.le_trans (bsz bup) le16)); have HG16 := Lib.hid hg__; (try (replace HZ := ckk HZ bup hb__)); (try (replace HN3 := cOa HN3 bup hb__)); (try (replace HS3 := cOa HS3 bup hb__)); go_must (replace HF := cE0 HF bup hb__); clear hg__ hb__)
  refine hK.out _ _ ?_ (fun hHeld => ?_)
  focus (exact (hatB HG4 (HF.out.trans (Below.mono bup HF.out.size))))
  clear hK K
  try simp only [PT]
  refine wpAnyH_ready (rs := [3]) (by kernel_rfl) (by simp) ?_
  refine (AllReadyH.cons (o := ⟨some 67, _, _, _, _, _⟩) rfl (fun K hK => ?_) AllReadyH.nil)
  focus (go_simp; go_must (refine (refRising_any ad m c xs hmx _ (HXS.out.below (HF.out.trans (Below.mono bup HF.out.size)))).mono ?_); rintro e wR ⟨adz, cz, rfl, ho__, hb__⟩; rw [HRS.out] at ho__ ⊢; go_must (have HZ := Lib.hid (Shs.of_own ho__)); (try (replace HG16 := ckk HG16 bup hb__)); go_must (replace HF := cE0 HF bup hb__); clear ho__ hb__; go_wp2_with fail)
  refine hK.out _ _ ?_ (fun hHeld => ?_)
  focus (exact (hatB HG4 (HF.out.trans (Below.mono bup HF.out.size))))
  clear hK K
  try simp only [PT]
  refine wpAnyH_ready (rs := [4]) (by kernel_rfl) (by simp) ?_
  refine (AllReadyH.cons (o := ⟨some 68, _, _, _, _, _⟩) rfl (fun K hK => ?_) AllReadyH.nil)
  focus (go_simp; go_must (refine (build_at kb hkb P h2P h3P HPP.out adz zs.length cz zs HZM.out (fun x hx => by have := (HFW.out (by simp)).2 x (HZB.out x hx); omega) zs HZR.out N HN.out nl HNL.out L HL.out ll HLL.out _ (HZ.out.below bup)).mono ?_); rintro e wB3 ⟨a3, c3, d3, f3, rfl, ho1, ho2, hb__⟩; have HN3 := Lib.hid ho1; have HS3 := Lib.hid ho2; (try (replace HG16 := ckk HG16 bup hb__)); go_must (replace HF := cE0 HF bup hb__); clear ho1 ho2 hb__ HZ; go_wp2_with fail)
  refine hK.out _ _ ?_ (fun hHeld => ?_)
  focus (exact (hatB HG4 (HF.out.trans (Below.mono bup HF.out.size))))
  clear hK K
  try simp only [PT]
  refine tk 5 (oi := ⟨some 63, _, _, _, _, _⟩) (v := ?_) rfl (by kernel_rfl) (.inl ⟨by rfl, ?_⟩) hHeld ?_; rotate_left; focus (intro w hSw; (try dsimp only at hSw); go_simp; try with_reducible rfl)
  simp only [PT]
  refine tk 6 (oi := ⟨some 69, _, _, _, _, _⟩) (v := ?_) rfl (by kernel_rfl) (.inl ⟨by rfl, ?_⟩) hHeld ?_; rotate_left; focus (intro w hSw; (try dsimp only at hSw); go_simp; try with_reducible rfl)
  simp only [PT]
  refine tk 7 (oi := ⟨some 70, _, _, _, _, _⟩) (v := ?_) rfl (by kernel_rfl) (.inl ⟨by rfl, ?_⟩) hHeld ?_; rotate_left; focus (intro w hSw; (try dsimp only at hSw); go_simp; try with_reducible rfl)
  simp only [PT]
  refine wpAnyH_ready (rs := [9]) (by kernel_rfl) (by simp) ?_
  refine (AllReadyH.cons (o := ⟨none, _, _, _, _, _⟩) rfl (fun K hK => ?_) AllReadyH.nil)
  (go_must (refine step_storeR rfl 30 (.tmp 16) (.tmp 69) rfl g16 #[.slice a3 nl c3, .slice d3 ll f3] rfl rfl (hatB HG16 bup) (HTZ.out _ _) rfl (tb_all rfl rfl) ?_); intro wst hs__ hr__; go_must (have HN3n := Lib.hid (own_st HN3.out HG16.out bup hr__ (by decide))); go_must (have HS3n := Lib.hid (own_st HS3.out HG16.out bup hr__ (by decide))); go_must (replace HF := Lib.hid ((HF.out.trans (Below.mono bup HF.out.size)).grown hr__ (HF.out.trans (Below.mono bup HF.out.size)).size (fun k e => (by cases e; exact ge16)))); clear HG16 HN3 HS3; have HG16 := Lib.hid hs__; have HN3 := HN3n; have HS3 := HS3n; clear HN3n HS3n hs__ hr__)
  refine hK.out _ _ ?_ (fun hHeld => ?_)
  focus (exact (hatB HG4 (HF.out.trans (Below.mono bup HF.out.size))))
  clear hK K
  try simp only [PT]
  refine tk 10 (oi := ⟨some 17, _, _, _, _, _⟩) (v := ?_) rfl (by kernel_rfl) (.inl ⟨by rfl, ?_⟩) hHeld ?_; rotate_left; focus (intro w hSw; (try dsimp only at hSw); go_simp; try with_reducible rfl)
  simp only [PT]
  refine wpAnyH_done (by kernel_rfl) ?_ _
  rotate_left
  all_goals
    have hb__ := HF.out
    have hE__ := cU HB bup hb__; replace HB := ck HB hE__; replace HG12 := ck HG12 hE__; replace HG14 := ck HG14 hE__; replace HN1 := ck HN1 hE__; replace HS1 := ck HS1 hE__; replace HN2 := ck HN2 hE__; replace HS2 := ck HS2 hE__; clear hE__
    clear hb__ HF
    go_wp2_with (first
      | ((with_reducible refine sl 82 ?_); go_must (refine wpL_load rfl 30 (.tmp 12) rfl g12 0 rfl [.slice a1 nl c1, .slice d1 ll f1] _ (range_block (hatB HG12 bup)) Try.underlying30 rfl tb_size ?_); simp only [PT])
      | ((with_reducible refine sl 83 ?_); go_must (refine wpL_load rfl 30 (.tmp 14) rfl g14 0 rfl [.slice a2 nl c2, .slice d2 ll f2] _ (range_block (hatB HG14 bup)) Try.underlying30 rfl tb_size ?_); simp only [PT])
      | (go_at_call 15; (with_reducible show Calls _ _ #[.agg #[.slice a1 _ _, _], .agg #[.slice a2 _ _, _]] _ _); go_must (refine (same17_any a1 nl c1 d1 ll f1 a2 c2 d2 f2 N L HR0.out hl3 (by omega) _ (Sl.of_own (own_keep HN1.out bup)) (Sl.of_own (own_keep HS1.out bup)) (Sl.of_own (own_keep HN2.out bup)) (Sl.of_own (own_keep HS2.out bup))).mono ?_); rintro e w5 ⟨rfl, hb__⟩; have hE__ := cU HB bup hb__; replace HB := ck HB hE__; replace HG12 := ck HG12 hE__; replace HG16 := ck HG16 hE__; replace HN1 := ck HN1 hE__; replace HS1 := ck HS1 hE__; replace HN3 := ck HN3 hE__; replace HS3 := ck HS3 hE__; clear hE__; clear hb__)
      | ((with_reducible refine sl 87 ?_); go_must (refine wpL_load rfl 30 (.tmp 12) rfl g12 0 rfl [.slice a1 nl c1, .slice d1 ll f1] _ (range_block (hatB HG12 bup)) Try.underlying30 rfl tb_size ?_); simp only [PT])
      | ((with_reducible refine sl 88 ?_); go_must (refine wpL_load rfl 30 (.tmp 16) rfl g16 0 rfl [.slice a3 nl c3, .slice d3 ll f3] _ (range_block (hatB HG16 bup)) Try.underlying30 rfl tb_size ?_); simp only [PT])
      | (go_at_call 15; (with_reducible show Calls _ _ #[.agg #[.slice a1 _ _, _], .agg #[.slice a3 _ _, _]] _ _); go_must (refine (same17_any a1 nl c1 d1 ll f1 a3 c3 d3 f3 N L HR0.out hl3 (by omega) _ (Sl.of_own (own_keep HN1.out bup)) (Sl.of_own (own_keep HS1.out bup)) (Sl.of_own (own_keep HN3.out bup)) (Sl.of_own (own_keep HS3.out bup))).mono ?_); rintro e w5 ⟨rfl, hb__⟩; have hE__ := cU HB bup hb__; replace HB := ck HB hE__; clear hE__; clear hb__))
    go_ret
    exact ⟨rfl, HB.out⟩
theorem turned17_walk (kb : List UInt8) (hkb : kb.length = 16) (n : Nat) (hn : n ≤ 255) (ad : Option Addr) (m c : Nat) (xs : List ShV) (at_ : Nat) (hat : at_ ≤ 255) (w : World) (hx : Shs w ad m c xs) :
    Calls Try.prog 6 #[.agg (BV kb).toArray, .int .u8 (n : Int), .slice ad m c, .int .u8 (at_ : Int)] w fun e w' => e = .returned (.bool true) ∧ Below w.heap.size w w' := by
  by_cases hm : mayR xs
  · exact turned17_good kb hkb n hn ad m c xs at_ hat hm w hx
  · exact turned17_bad kb hkb n ad m c xs (at_ : Int) hm w hx
end Go.Proofs.Ytaadpldijnegkaa
