/-
  Joined by program (merge.py): MgB.
-/
import Derived.Test.YtaadpldijnegkaaG6
/-
  Chapter 17: MaglevBuilds: walked.
-/
namespace Go.Proofs.Ytaadpldijnegkaa
open Go.RowKit Go.Sort
set_option linter.unusedVariables false
set_option linter.unusedSimpArgs false
set_option maxRecDepth 100000
set_option maxHeartbeats 16000000

theorem builds17_bad (kb : List UInt8) (hkb : kb.length = 16) (size : Int) (hs1 : -9223372036854775808 ≤ size) (ad : Option Addr) (m c : Nat) (xs : List ShV) (h : Int) (hbad : 300 < size ∨ pr size.toNat = false ∨ ¬ mayR xs) (hs2 : size ≤ 9223372036854775807) (w : World) (hx : Shs w ad m c xs) :
    Calls Try.prog 3 #[.agg (BV kb).toArray, .int .i64 size, .slice ad m c, .int .u64 h] w fun e w' => e = .returned (.bool true) ∧ Below w.heap.size w w' := by
  have HB := Lib.hid (Below.refl w.heap.size w)
  have HXS := Lib.hid hx
  have hml := hx.len
  have HTI : Hid (∀ x y : Value, (Try.prog.info? 30).map (fun i => (i.zero, i.size)) = some (some (.agg #[.slice none 0 0, .slice none 0 0]), (#[x, y] : Array Value).size)) := Lib.hid (fun _ _ => tb_info)
  have HKS : Hid ((Try.prog.info? 22).map (·.size) = some (BV kb).length) := Lib.hid (by rw [BV_length, hkb]; exact key_size)
  have HML := Lib.hid hml
  clear hx hml
  by_cases h300 : 300 < size
  · clear hbad
    go_enter Try.func3, Try.ntmps3
    go_wp2_with (first
      | ((with_reducible refine sl 4 ?_); go_must (refine wpL_boxG rfl 22 (.tmp 0) rfl (BV kb).toArray rfl ?_); intro w1 g4 he__ le_g4 lt_g4 hg__ hb__; have hE__ := cU HB bup hb__; replace HB := ck HB hE__; replace HXS := ck HXS hE__; clear hE__; clear hg__ hb__ he__; simp only [PT])
      | (go_at_call 10; go_must (refine (awake_any _).mono ?_); rintro e w2 ⟨rfl, hb__⟩; have hE__ := cU HB bup hb__; replace HB := ck HB hE__; replace HXS := ck HXS hE__; clear hE__; clear hb__)
      | (go_at_call 11; go_must (refine (few17_any ad m c xs _ HXS.out).mono ?_); rintro e w2 ⟨⟨b, rfl, hfw⟩, hb__⟩; have hE__ := cU HB bup hb__; replace HB := ck HB hE__; replace HXS := ck HXS hE__; clear hE__; clear hb__ hfw; cases b))
    all_goals
      go_ret
      exact ⟨rfl, HB.out⟩
  · have HBAD : Hid (65537 < size ∨ pr size.toNat = false ∨ ¬ mayR xs) := Lib.hid (by
      rcases hbad with g | g | g
      · exact absurd g h300
      · exact .inr (.inl g)
      · exact .inr (.inr g))
    obtain ⟨pb, hpb⟩ : ∃ pb, pr size.toNat = pb := ⟨_, rfl⟩
    obtain ⟨mb, hmb⟩ : ∃ mb, decide (mayR xs) = mb := ⟨_, rfl⟩
    have HPB := Lib.hid hpb
    have HMB := Lib.hid hmb
    have HPM : Hid (pb = true → mb = false) := Lib.hid (fun hp => by
      rcases hbad with g | g | g
      · exact absurd g h300
      · rw [hpb, hp] at g; cases g
      · rw [← hmb]; exact decide_eq_false g)
    clear hbad hpb hmb
    cases pb
    · go_enter Try.func3, Try.ntmps3
      go_wp2_with (first
        | ((with_reducible refine sl 4 ?_); go_must (refine wpL_boxG rfl 22 (.tmp 0) rfl (BV kb).toArray rfl ?_); intro w1 g4 he__ le_g4 lt_g4 hg__ hb__; have HG4 := Lib.hid hg__; have hE__ := cU HB bup hb__; replace HB := ck HB hE__; replace HXS := ck HXS hE__; clear hE__; clear hg__ hb__ he__; simp only [PT])
        | (go_at_call 10; go_must (refine (awake_any _).mono ?_); rintro e w2 ⟨rfl, hb__⟩; have hE__ := cU HB bup hb__; replace HB := ck HB hE__; replace HXS := ck HXS hE__; replace HG4 := ck HG4 hE__; clear hE__; clear hb__)
        | (go_at_call 11; go_must (refine (few17_any ad m c xs _ HXS.out).mono ?_); rintro e w2 ⟨⟨b, rfl, hfw⟩, hb__⟩; have HFW := Lib.hid hfw; have hE__ := cU HB bup hb__; replace HB := ck HB hE__; replace HXS := ck HXS hE__; replace HG4 := ck HG4 hE__; clear hE__; clear hb__ hfw; cases b)
        | ((with_reducible refine sl 29 ?_); go_must (refine wpL_load rfl 22 (.tmp 4) rfl g4 0 rfl (BV kb) _ (range_block (hatB HG4 bup)) Try.underlying22 rfl HKS.out ?_); simp only [PT])
        | (go_at_call 12; go_must (refine (build_bad kb hkb size hs1 (by omega) ad m c xs (by have := (HFW.out (by simp)).1; have := HML.out; omega) (fun x hx => by have := (HFW.out (by simp)).2 x hx; omega) HBAD.out _ HXS.out).mono ?_); rintro e w3 ⟨rfl, hb__⟩; have hE__ := cU HB bup hb__; replace HB := ck HB hE__; replace HXS := ck HXS hE__; replace HG4 := ck HG4 hE__; clear hE__; clear hb__)
        | ((with_reducible refine sl 9 ?_); go_must (refine wpL_newG rfl rfl 30 rfl (.tmp 9) (.tmp 33) rfl #[.slice none 0 0, .slice none 0 0] #[.slice none 0 0, .slice none 0 0] (HTI.out _ _) rfl (tb_all rfl rfl) (fun _ => rfl) (fun _ => rfl) ?_); intro wt9 g9 le_9 hg__ hb__; have HG9 := Lib.hid hg__; have hE__ := cU HB bup hb__; replace HB := ck HB hE__; replace HXS := ck HXS hE__; clear hE__; clear hg__ hb__; simp only [PT])
        | (go_at_call 13; go_must (refine (refPrime_eq size false HPB.out (by omega) (by omega) _).mono ?_); rintro e w' ⟨rfl, rfl⟩)
        | ((with_reducible refine sl 46 ?_); go_must (refine wpL_load rfl 30 (.tmp 9) rfl g9 0 rfl [.slice none 0 0, .slice none 0 0] _ (range_block (hatB HG9 bup)) Try.underlying30 rfl tb_size ?_); simp only [PT])
        | (go_at_call 15; go_must (refine (same17_any none 0 0 none 0 0 none 0 none 0 [] [] (fun z hz => (by cases hz)) (by omega) (by omega) _ (Sl.nil _ _) (Sl.nil _ _) (Sl.nil _ _) (Sl.nil _ _)).mono ?_); rintro e w5 ⟨rfl, hb__⟩; have hE__ := cU HB bup hb__; replace HB := ck HB hE__; clear hE__; clear hb__))
      all_goals
        go_ret
        exact ⟨rfl, HB.out⟩
    · obtain rfl : mb = false := HPM.out rfl
      go_enter Try.func3, Try.ntmps3
      go_wp2_with (first
        | ((with_reducible refine sl 4 ?_); go_must (refine wpL_boxG rfl 22 (.tmp 0) rfl (BV kb).toArray rfl ?_); intro w1 g4 he__ le_g4 lt_g4 hg__ hb__; have HG4 := Lib.hid hg__; have hE__ := cU HB bup hb__; replace HB := ck HB hE__; replace HXS := ck HXS hE__; clear hE__; clear hg__ hb__ he__; simp only [PT])
        | (go_at_call 10; go_must (refine (awake_any _).mono ?_); rintro e w2 ⟨rfl, hb__⟩; have hE__ := cU HB bup hb__; replace HB := ck HB hE__; replace HXS := ck HXS hE__; replace HG4 := ck HG4 hE__; clear hE__; clear hb__)
        | (go_at_call 11; go_must (refine (few17_any ad m c xs _ HXS.out).mono ?_); rintro e w2 ⟨⟨b, rfl, hfw⟩, hb__⟩; have HFW := Lib.hid hfw; have hE__ := cU HB bup hb__; replace HB := ck HB hE__; replace HXS := ck HXS hE__; replace HG4 := ck HG4 hE__; clear hE__; clear hb__ hfw; cases b)
        | ((with_reducible refine sl 29 ?_); go_must (refine wpL_load rfl 22 (.tmp 4) rfl g4 0 rfl (BV kb) _ (range_block (hatB HG4 bup)) Try.underlying22 rfl HKS.out ?_); simp only [PT])
        | (go_at_call 12; go_must (refine (build_bad kb hkb size hs1 (by omega) ad m c xs (by have := (HFW.out (by simp)).1; have := HML.out; omega) (fun x hx => by have := (HFW.out (by simp)).2 x hx; omega) HBAD.out _ HXS.out).mono ?_); rintro e w3 ⟨rfl, hb__⟩; have hE__ := cU HB bup hb__; replace HB := ck HB hE__; replace HXS := ck HXS hE__; replace HG4 := ck HG4 hE__; clear hE__; clear hb__)
        | ((with_reducible refine sl 9 ?_); go_must (refine wpL_newG rfl rfl 30 rfl (.tmp 9) (.tmp 33) rfl #[.slice none 0 0, .slice none 0 0] #[.slice none 0 0, .slice none 0 0] (HTI.out _ _) rfl (tb_all rfl rfl) (fun _ => rfl) (fun _ => rfl) ?_); intro wt9 g9 le_9 hg__ hb__; have HG9 := Lib.hid hg__; have hE__ := cU HB bup hb__; replace HB := ck HB hE__; replace HXS := ck HXS hE__; clear hE__; clear hg__ hb__; simp only [PT])
        | (go_at_call 13; go_must (refine (refPrime_eq size true HPB.out (by omega) (by omega) _).mono ?_); rintro e w' ⟨rfl, rfl⟩)
        | (go_at_call 14; go_must (refine (refMay_any ad m c xs _ (HXS.out.below bup)).mono ?_); rw [HMB.out]; rintro e w4 ⟨rfl, hb__⟩; have hE__ := cU HB bup hb__; replace HB := ck HB hE__; replace HXS := ck HXS hE__; replace HG9 := ck HG9 hE__; clear hE__; clear hb__)
        | ((with_reducible refine sl 46 ?_); go_must (refine wpL_load rfl 30 (.tmp 9) rfl g9 0 rfl [.slice none 0 0, .slice none 0 0] _ (range_block (hatB HG9 bup)) Try.underlying30 rfl tb_size ?_); simp only [PT])
        | (go_at_call 15; go_must (refine (same17_any none 0 0 none 0 0 none 0 none 0 [] [] (fun z hz => (by cases hz)) (by omega) (by omega) _ (Sl.nil _ _) (Sl.nil _ _) (Sl.nil _ _) (Sl.nil _ _)).mono ?_); rintro e w5 ⟨rfl, hb__⟩; have hE__ := cU HB bup hb__; replace HB := ck HB hE__; clear hE__; clear hb__))
      all_goals
        go_ret
        exact ⟨rfl, HB.out⟩
theorem builds17_good (kb : List UInt8) (hkb : kb.length = 16) (n : Nat) (hn : n ≤ 300) (hp : pr n = true) (ad : Option Addr) (m c : Nat) (xs : List ShV) (hm : mayR xs) (h : Nat) (hh : h < 18446744073709551616) (w : World) (hx : Shs w ad m c xs) :
    Calls Try.prog 3 #[.agg (BV kb).toArray, .int .i64 (n : Int), .slice ad m c, .int .u64 (h : Int)] w fun e w' => e = .returned (.bool true) ∧ Below w.heap.size w w' := by
  have HB := Lib.hid (Below.refl w.heap.size w)
  have HXS := Lib.hid hx
  have hml := hx.len
  have HTI : Hid (∀ x y : Value, (Try.prog.info? 30).map (fun i => (i.zero, i.size)) = some (some (.agg #[.slice none 0 0, .slice none 0 0]), (#[x, y] : Array Value).size)) := Lib.hid (fun _ _ => tb_info)
  have HKS : Hid ((Try.prog.info? 22).map (·.size) = some (BV kb).length) := Lib.hid (by rw [BV_length, hkb]; exact key_size)
  have h2n : 2 ≤ n := by unfold pr at hp; simp at hp; exact hp.1
  have HP := Lib.hid hp
  have HPI : Hid (pr ((n : Int)).toNat = true) := Lib.hid (by rw [Int.toNat_natCast]; exact hp)
  have HM := Lib.hid hm
  have HMD : Hid (decide (mayR xs) = true) := Lib.hid (decide_eq_true hm)
  have hrg := slZ_rg (kb := kb) (n := n) (zs := risL xs) h2n (by omega) hp (mayR_q hm)
  obtain ⟨L, hL⟩ : ∃ L, slZ kb n (risL xs) = L := ⟨_, rfl⟩
  obtain ⟨N, hN⟩ : ∃ N, namesOf (risL xs) = N := ⟨_, rfl⟩
  obtain ⟨ll, hll⟩ : ∃ ll, L.length = ll := ⟨_, rfl⟩
  obtain ⟨nl, hnl⟩ : ∃ nl, N.length = nl := ⟨_, rfl⟩
  rw [hL, hll] at hrg
  have hl3 : ll ≤ 65537 := by omega
  have hn3 : nl ≤ 1024 := by rw [← hnl, ← hN, namesOf_length]; exact Nat.le_trans (risL_le xs) ((mayR_iff xs).1 hm).1
  have HR : Hid (∀ z ∈ L, 0 ≤ z ∧ z < (nl : Int)) := Lib.hid (fun z hz => by have := hrg.1 z hz; rw [← hnl, ← hN, namesOf_length]; exact this)
  have HR0 : Hid (∀ z ∈ L, 0 ≤ z) := Lib.hid (fun z hz => (hrg.1 z hz).1)
  have HL := Lib.hid hL
  have HN := Lib.hid hN
  have HLL := Lib.hid hll
  have HNL := Lib.hid hnl
  obtain ⟨s, hs⟩ : ∃ s, pickN N L h = s := ⟨_, rfl⟩
  obtain ⟨pb, hpb⟩ : ∃ pb, decide (0 < L.length) = pb := ⟨_, rfl⟩
  have HS := Lib.hid hs
  have HPB := Lib.hid hpb
  have hn300 : ¬ (300 : Int) < (n : Int) := by omega
  have hn301 : (n : Int) ≤ 300 := by omega
  have hmm : m ≤ 1024 := by have := ((mayR_iff xs).1 hm).1; omega
  clear hx hml hp hm hrg hL hN hll hnl hs hpb
  go_enter Try.func3, Try.ntmps3
  go_wp2_with (first
    | ((with_reducible refine sl 4 ?_); go_must (refine wpL_boxG rfl 22 (.tmp 0) rfl (BV kb).toArray rfl ?_); intro w1 g4 he__ le_g4 lt_g4 hg__ hb__; have HG4 := Lib.hid hg__; have hE__ := cU HB bup hb__; replace HB := ck HB hE__; replace HXS := ck HXS hE__; clear hE__; clear hg__ hb__ he__; simp only [PT])
    | (go_at_call 10; go_must (refine (awake_any _).mono ?_); rintro e w2 ⟨rfl, hb__⟩; have hE__ := cU HB bup hb__; replace HB := ck HB hE__; replace HXS := ck HXS hE__; replace HG4 := ck HG4 hE__; clear hE__; clear hb__)
    | (go_at_call 11; go_must (refine (few17_any ad m c xs _ HXS.out).mono ?_); rintro e w2 ⟨⟨b, rfl, hfw⟩, hb__⟩; have HFW := Lib.hid hfw; have hE__ := cU HB bup hb__; replace HB := ck HB hE__; replace HXS := ck HXS hE__; replace HG4 := ck HG4 hE__; clear hE__; clear hb__ hfw; cases b)
    | ((with_reducible refine sl 29 ?_); go_must (refine wpL_load rfl 22 (.tmp 4) rfl g4 0 rfl (BV kb) _ (range_block (hatB HG4 bup)) Try.underlying22 rfl HKS.out ?_); simp only [PT])
    | (go_at_call 12; go_must (refine (build_at kb hkb n h2n (by omega) HP.out ad m c xs HM.out (fun x hx => by have := (HFW.out (by simp)).2 x hx; omega) _ rfl N HN.out nl HNL.out L HL.out ll HLL.out _ HXS.out).mono ?_); rintro e wB ⟨a1, c1, a2, c2, rfl, ho1, ho2, hb__⟩; have HN1 := Lib.hid (own_base ho1 HB.out.size); have HS1 := Lib.hid (own_base ho2 HB.out.size); have hE__ := cU HB bup hb__; replace HB := ck HB hE__; replace HXS := ck HXS hE__; replace HG4 := ck HG4 hE__; clear hE__; clear ho1 ho2 hb__)
    | ((with_reducible refine sl 9 ?_); go_must (refine wpL_newG rfl rfl 30 rfl (.tmp 9) (.tmp 33) rfl #[.slice a1 nl c1, .slice a2 ll c2] #[.slice none 0 0, .slice none 0 0] (HTI.out _ _) rfl (tb_all rfl rfl) (fun _ => rfl) (fun _ => rfl) ?_); intro wt9 g9 le_9 hg__ hb__; have HG9 := Lib.hid hg__; have hE__ := cU HB bup hb__; replace HB := ck HB hE__; replace HXS := ck HXS hE__; replace HG4 := ck HG4 hE__; replace HN1 := ck HN1 hE__; replace HS1 := ck HS1 hE__; clear hE__; clear hg__ hb__; simp only [PT])
    | (go_at_call 13; go_must (refine (refPrime_eq (n : Int) true HPI.out (by omega) (by omega) _).mono ?_); rintro e w' ⟨rfl, rfl⟩)
    | (go_at_call 14; go_must (refine (refMay_any ad m c xs _ (HXS.out.below bup)).mono ?_); rw [HMD.out]; rintro e w4 ⟨rfl, hb__⟩; have hE__ := cU HB bup hb__; replace HB := ck HB hE__; replace HXS := ck HXS hE__; replace HG4 := ck HG4 hE__; replace HG9 := ck HG9 hE__; replace HN1 := ck HN1 hE__; replace HS1 := ck HS1 hE__; clear hE__; clear hb__)
    | ((with_reducible refine sl 50 ?_); go_must (refine wpL_load rfl 22 (.tmp 4) rfl g4 0 rfl (BV kb) _ (range_block (hatB HG4 bup)) Try.underlying22 rfl HKS.out ?_); simp only [PT])
    | (go_at_call 16; go_must (refine (refBuild_at kb hkb n h2n (by omega) HP.out ad m c xs HM.out (fun x hx => by have := (HFW.out (by simp)).2 x hx; omega) _ rfl N HN.out nl HNL.out L HL.out ll HLL.out _ (HXS.out.below bup)).mono ?_); rintro e wU ⟨a3, c3, a4, c4, rfl, ho1, ho2, hb__⟩; have HN2 := Lib.hid ho1; have HS2 := Lib.hid ho2; have hE__ := cU HB bup hb__; replace HB := ck HB hE__; replace HG9 := ck HG9 hE__; replace HN1 := ck HN1 hE__; replace HS1 := ck HS1 hE__; clear hE__; clear ho1 ho2 hb__)
    | ((with_reducible refine sl 11 ?_); go_must (refine wpL_newG rfl rfl 30 rfl (.tmp 11) (.tmp 53) rfl #[.slice a3 nl c3, .slice a4 ll c4] #[.slice none 0 0, .slice none 0 0] (HTI.out _ _) rfl (tb_all rfl rfl) (fun _ => rfl) (fun _ => rfl) ?_); intro wt11 g11 le_11 hg__ hb__; have HG11 := Lib.hid hg__; have hE__ := cU HB bup hb__; replace HB := ck HB hE__; replace HG9 := ck HG9 hE__; replace HN1 := ck HN1 hE__; replace HS1 := ck HS1 hE__; replace HN2 := ck HN2 hE__; replace HS2 := ck HS2 hE__; clear hE__; clear hg__ hb__; simp only [PT])
    | ((with_reducible refine sl 57 ?_); go_must (refine wpL_load rfl 30 (.tmp 9) rfl g9 0 rfl [.slice a1 nl c1, .slice a2 ll c2] _ (range_block (hatB HG9 bup)) Try.underlying30 rfl tb_size ?_); simp only [PT])
    | ((with_reducible refine sl 58 ?_); go_must (refine wpL_load rfl 30 (.tmp 11) rfl g11 0 rfl [.slice a3 nl c3, .slice a4 ll c4] _ (range_block (hatB HG11 bup)) Try.underlying30 rfl tb_size ?_); simp only [PT])
    | (go_at_call 15; go_must (refine (same17_any a1 nl c1 a2 ll c2 a3 c3 a4 c4 N L HR0.out hl3 (by omega) _ (Sl.of_own (own_keep HN1.out bup)) (Sl.of_own (own_keep HS1.out bup)) (Sl.of_own (own_keep HN2.out bup)) (Sl.of_own (own_keep HS2.out bup))).mono ?_); rintro e w5 ⟨rfl, hb__⟩; have hE__ := cU HB bup hb__; replace HB := ck HB hE__; replace HG9 := ck HG9 hE__; replace HG11 := ck HG11 hE__; replace HN1 := ck HN1 hE__; replace HS1 := ck HS1 hE__; replace HN2 := ck HN2 hE__; replace HS2 := ck HS2 hE__; clear hE__; clear hb__)
    | ((with_reducible refine sl 63 ?_); go_must (refine wpL_load rfl 30 (.tmp 9) rfl g9 0 rfl [.slice a1 nl c1, .slice a2 ll c2] _ (range_block (hatB HG9 bup)) Try.underlying30 rfl tb_size ?_); simp only [PT])
    | (go_at_call 17; go_must (refine (pick_any a1 nl c1 a2 ll c2 N L HR.out hl3 h hh _ (Sl.of_own (own_keep HN1.out bup)) (Sl.of_own (own_keep HS1.out bup))).mono ?_); rw [HS.out, HPB.out]; rintro e wP ⟨rfl, hb__⟩; have hE__ := cU HB bup hb__; replace HB := ck HB hE__; replace HG11 := ck HG11 hE__; replace HN2 := ck HN2 hE__; replace HS2 := ck HS2 hE__; clear hE__; clear hb__)
    | ((with_reducible refine sl 69 ?_); go_must (refine wpL_load rfl 30 (.tmp 11) rfl g11 0 rfl [.slice a3 nl c3, .slice a4 ll c4] _ (range_block (hatB HG11 bup)) Try.underlying30 rfl tb_size ?_); simp only [PT])
    | (go_at_call 18; go_must (refine (refPick_any a3 nl c3 a4 ll c4 N L HR.out hl3 h hh _ (Sl.of_own (own_keep HN2.out bup)) (Sl.of_own (own_keep HS2.out bup))).mono ?_); rw [HS.out, HPB.out]; rintro e wQ ⟨rfl, hb__⟩; have hE__ := cU HB bup hb__; replace HB := ck HB hE__; clear hE__; clear hb__))
  all_goals
    go_ret
    exact ⟨by first | rfl | (cases pb <;> rfl), HB.out⟩
theorem builds17_walk (kb : List UInt8) (hkb : kb.length = 16) (size : Int) (hs1 : -9223372036854775808 ≤ size) (hs2 : size ≤ 9223372036854775807) (ad : Option Addr) (m c : Nat) (xs : List ShV) (h : Nat) (hh : h < 18446744073709551616) (w : World) (hx : Shs w ad m c xs) :
    Calls Try.prog 3 #[.agg (BV kb).toArray, .int .i64 size, .slice ad m c, .int .u64 (h : Int)] w fun e w' => e = .returned (.bool true) ∧ Below w.heap.size w w' := by
  by_cases hbad : 300 < size ∨ pr size.toNat = false ∨ ¬ mayR xs
  · exact builds17_bad kb hkb size hs1 ad m c xs (h : Int) hbad hs2 w hx
  · have h1 : ¬ 300 < size := fun g => hbad (.inl g)
    have h2 : pr size.toNat = true := by
      cases e : pr size.toNat with
      | true => rfl
      | false => exact absurd (.inr (.inl e)) hbad
    have h3 : mayR xs := Classical.byContradiction fun g => hbad (.inr (.inr g))
    have h4 : 2 ≤ size.toNat := by unfold pr at h2; simp at h2; exact h2.1
    obtain ⟨n, rfl⟩ : ∃ n : Nat, size = (n : Int) := ⟨size.toNat, by omega⟩
    rw [Int.toNat_natCast] at h2
    exact builds17_good kb hkb n (by omega) h2 ad m c xs h3 h hh w hx
end Go.Proofs.Ytaadpldijnegkaa
