/-
  Joined by program (merge.py): MgE.
-/
import Derived.Test.YtaadpldijnegkaaG10
/-
  Chapter 17: MaglevKeeps: walked (written by gen/mglaw.py and gen/mgE.py).
-/
namespace Go.Proofs.Ytaadpldijnegkaa
open Go.RowKit Go.Sort
set_option linter.unusedVariables false
set_option linter.unusedSimpArgs false
set_option maxRecDepth 100000
set_option maxHeartbeats 16000000
/-- what is kept while what was answered is written over -/
structure Kp (W w : World) (kb : List UInt8) (g3 g9 : Nat) (m : Nat) (xs : List ShV) (adO : Option Addr) (cO : Nat) (a1 : Option Addr) (nl c1 : Nat) (N : List ByteArray) (d1 : Option Addr) (ll f1 : Nat) (L : List Int) : Prop where
  b : Below W.heap.size W w
  k3 : w.heap[g3]? = some (.cells (BV kb).toArray 22 (0, 0))
  t9 : w.heap[g9]? = some (.cells #[.slice a1 nl c1, .slice d1 ll f1] 30 (0, 0))
  o : w.ownsRow W.heap.size 48 2 (.slice adO m cO) m (shC xs)
  n : w.ownsRow W.heap.size 9 1 (.slice a1 nl c1) nl (stV N)
  s : w.ownsRow W.heap.size 3 1 (.slice d1 ll f1) ll (iV L)
section
variable {W w w' : World} {kb : List UInt8} {g3 g9 : Nat} {m : Nat} {xs : List ShV} {adO : Option Addr} {cO : Nat} {a1 : Option Addr} {nl c1 : Nat} {N : List ByteArray} {d1 : Option Addr} {ll f1 : Nat} {L : List Int}
theorem Kp.keep (h : Kp W w kb g3 g9 m xs adO cO a1 nl c1 N d1 ll f1 L) (hb : Below w.heap.size w w') : Kp W w' kb g3 g9 m xs adO cO a1 nl c1 N d1 ll f1 L :=
  ⟨h.b.trans (hb.mono h.b.size), (hb.block g3 (lt_of_block h.k3)).trans h.k3, (hb.block g9 (lt_of_block h.t9)).trans h.t9, own_keep h.o hb, own_keep h.n hb, own_keep h.s hb⟩
theorem own_ne {w : World} {b s n c : Nat} {ad : Option Addr} {e : TypeId} {xs : List Value} {g : Nat} (h : w.ownsRow b e s (.slice ad n c) n xs) {b2 e2 s2 n2 c2 : Nat} {ys : List Value} (k : w.ownsRow b2 e2 s2 (.slice (some ⟨g, 0, none⟩) n2 c2) n2 ys) (hne : e ≠ e2) : Value.ownBlock (.slice ad n c) ≠ some g := far_some (own_farR h k hne)
/-- a store to the counts, which lie above all -/
theorem Kp.stC (h : Kp W w kb g3 g9 m xs adO cO a1 nl c1 N d1 ll f1 L) {B gC n2 c2 : Nat} {ys : List Value} (hc : w.ownsRow B 3 1 (.slice (some ⟨gC, 0, none⟩) n2 c2) n2 ys) (hd : ∀ k, Value.ownBlock (.slice d1 ll f1) = some k → k < B) (hB : W.heap.size ≤ B) (hg : w.grownBy w' (some gC)) : Kp W w' kb g3 g9 m xs adO cO a1 nl c1 N d1 ll f1 L :=
  have l := (World.ownsRow.lt hc gC rfl).1
  ⟨h.b.grown hg h.b.size (fun k hk => by cases hk; omega), (hg.block g3 (lt_of_block h.k3) (own_farB hc h.k3 (by decide)).symm).trans h.k3, (hg.block g9 (lt_of_block h.t9) (own_farB hc h.t9 (by decide)).symm).trans h.t9,
    h.o.kept hg (.inr (own_ne h.o hc (by decide))), h.n.kept hg (.inr (own_ne h.n hc (by decide))), h.s.kept hg (.inr (fun e => by have := hd gC e; omega))⟩
theorem Kp.stS {gS : Nat} {L' : List Int} (h : Kp W w kb g3 g9 m xs adO cO a1 nl c1 N (some ⟨gS, 0, none⟩) ll f1 L) (ho : w'.ownsRow W.heap.size 3 1 (.slice (some ⟨gS, 0, none⟩) ll f1) ll (iV L')) (hg : w.grownBy w' (some gS)) : Kp W w' kb g3 g9 m xs adO cO a1 nl c1 N (some ⟨gS, 0, none⟩) ll f1 L' :=
  have l := (World.ownsRow.lt h.s gS rfl).1
  ⟨h.b.grown hg h.b.size (fun k hk => by cases hk; omega), (hg.block g3 (lt_of_block h.k3) (own_farB h.s h.k3 (by decide)).symm).trans h.k3, (hg.block g9 (lt_of_block h.t9) (own_farB h.s h.t9 (by decide)).symm).trans h.t9,
    h.o.kept hg (.inr (own_ne h.o h.s (by decide))), h.n.kept hg (.inr (own_ne h.n h.s (by decide))), ho⟩
theorem Kp.stN {gN : Nat} {N' : List ByteArray} (h : Kp W w kb g3 g9 m xs adO cO (some ⟨gN, 0, none⟩) nl c1 N d1 ll f1 L) (ho : w'.ownsRow W.heap.size 9 1 (.slice (some ⟨gN, 0, none⟩) nl c1) nl (stV N')) (hg : w.grownBy w' (some gN)) : Kp W w' kb g3 g9 m xs adO cO (some ⟨gN, 0, none⟩) nl c1 N' d1 ll f1 L :=
  have l := (World.ownsRow.lt h.n gN rfl).1
  ⟨h.b.grown hg h.b.size (fun k hk => by cases hk; omega), (hg.block g3 (lt_of_block h.k3) (own_farB h.n h.k3 (by decide)).symm).trans h.k3, (hg.block g9 (lt_of_block h.t9) (own_farB h.n h.t9 (by decide)).symm).trans h.t9,
    h.o.kept hg (.inr (own_ne h.o h.n (by decide))), ho, h.s.kept hg (.inr (own_ne h.s h.n (by decide)))⟩
end
instance {W w w' : World} {kb : List UInt8} {g3 g9 : Nat} {m : Nat} {xs : List ShV} {adO : Option Addr} {cO : Nat} {a1 : Option Addr} {nl c1 : Nat} {N : List ByteArray} {d1 : Option Addr} {ll f1 : Nat} {L : List Int} : Ck (Kp W w kb g3 g9 m xs adO cO a1 nl c1 N d1 ll f1 L) w' w (Kp W w' kb g3 g9 m xs adO cO a1 nl c1 N d1 ll f1 L) := ⟨fun h hE => h.keep hE⟩
theorem stV_set (l : List ByteArray) (i : Nat) (s : ByteArray) : (stV l).set i (.string s) = stV (l.set i s) := by simp [stV, List.map_set]
theorem wpL_lit0G {P : Program} {t e : TypeId} {size bytes : Nat} {z : Value} (el : Elem P t e size bytes z) {ops : Array Oper} {rest : List Oper} {o : Oper} {a : Act} {w : World} {Q : Exit → Act → World → Prop} (hgd : o.guard = none) (ho : o.op = .buildSlice t 0 #[])
    (h : ∀ w1 g, w.heap.size ≤ g → g < w1.heap.size → w1.ownsRow w.heap.size e size (.slice (some ⟨g, 0, none⟩) 0 0) 0 [] → Below w.heap.size w w1 → wpList P ops Q rest (a.put o.dst (.slice (some ⟨g, 0, none⟩) 0 0)) w1) :
    wpList P ops Q (o :: rest) a w :=
  wpL_run (by simp [Region.wanted, hgd]) (run_lit0G el ho) (h _ _ (Nat.le_refl _) (by simp) (World.ownsRow_lit (size := size) (base := w.heap.size) (e := e) w #[] 0 (Nat.le_refl _) (by simp [maxLen]) (by simp)) ((Below.refl _ _).alloc (Nat.le_refl _) _))
theorem hgt3 {w a w' : World} {g3 : Nat} {kb : List UInt8} (h : Hid (w.heap[g3]? = some (.cells (BV kb).toArray 22 (0, 0)))) (hu : Below w.heap.size w a) {b s n c : Nat} {ad : Option Addr} {xs : List Value} (ho : w.ownsRow b 48 s (.slice ad n c) n xs) (hg : a.grownBy w' (Value.ownBlock (.slice ad n c))) : w'.heap[g3]? = some (.cells (BV kb).toArray 22 (0, 0)) :=
  (hg.block g3 (lt_of_block (hatB h hu)) (own_farB ho h.out (by decide)).symm).trans (hatB h hu)
theorem keeps17_bad (kb : List UInt8) (hkb : kb.length = 16) (n : Nat) (ad : Option Addr) (m c : Nat) (xs : List ShV) (hm : ¬ mayR xs) (w : World) (hx : Shs w ad m c xs) :
    Calls Try.prog 9 #[.agg (BV kb).toArray, .int .u8 (n : Int), .slice ad m c] w fun e w' => e = .returned (.bool true) ∧ Below w.heap.size w w' := by
  have HB := Lib.hid (Below.refl w.heap.size w)
  have HXS := Lib.hid hx
  have HML := Lib.hid hx.len
  have hxc := hx.le
  have HTI : Hid (∀ x y : Value, (Try.prog.info? 30).map (fun i => (i.zero, i.size)) = some (some (.agg #[.slice none 0 0, .slice none 0 0]), (#[x, y] : Array Value).size)) := Lib.hid (fun _ _ => tb_info)
  have HKS : Hid ((Try.prog.info? 22).map (·.size) = some (BV kb).length) := Lib.hid (by rw [BV_length, hkb]; exact key_size)
  have HMD : Hid (decide (mayR xs) = false) := Lib.hid (decide_eq_false hm)
  clear hx hm
  go_enter Try.func9, Try.ntmps9
  go_wp2_with (first
    | ((with_reducible refine sl 3 ?_); go_must (refine wpL_boxG rfl 22 (.tmp 0) rfl (BV kb).toArray rfl ?_); intro w1 g3 he__ le_g3 lt_g3 hg__ hb__; have HG3 := Lib.hid hg__; have hE__ := cU HB bup hb__; replace HB := ck HB hE__; replace HXS := ck HXS hE__; clear hE__; clear hg__ hb__ he__; simp only [PT])
    | (go_at_call 10; go_must (refine (awake_any _).mono ?_); rintro e w2 ⟨rfl, hb__⟩; have hE__ := cU HB bup hb__; replace HB := ck HB hE__; replace HXS := ck HXS hE__; replace HG3 := ck HG3 hE__; clear hE__; clear hb__)
    | (go_at_call 11; go_must (refine (few17_any ad m c xs _ HXS.out).mono ?_); rintro e w2 ⟨⟨b, rfl, hfw⟩, hb__⟩; have HFW := Lib.hid hfw; have hE__ := cU HB bup hb__; replace HB := ck HB hE__; replace HXS := ck HXS hE__; replace HG3 := ck HG3 hE__; clear hE__; clear hb__ hfw; cases b)
    | (go_at_call 14; go_must (refine (refMay_any ad m c xs _ (HXS.out.below bup)).mono ?_); rw [HMD.out]; rintro e w4 ⟨rfl, hb__⟩; have hE__ := cU HB bup hb__; replace HB := ck HB hE__; replace HXS := ck HXS hE__; replace HG3 := ck HG3 hE__; clear hE__; clear hb__))
  all_goals
    go_ret
    exact ⟨rfl, HB.out⟩
theorem keeps17_good (kb : List UInt8) (hkb : kb.length = 16) (n : Nat) (hn : n ≤ 255) (ad : Option Addr) (m c : Nat) (xs : List ShV) (hm : mayR xs) (w : World) (hx : Shs w ad m c xs) :
    Calls Try.prog 9 #[.agg (BV kb).toArray, .int .u8 (n : Int), .slice ad m c] w fun e w' => e = .returned (.bool true) ∧ Below w.heap.size w w' := by
  have HB := Lib.hid (Below.refl w.heap.size w)
  have HXS := Lib.hid hx
  have HML := Lib.hid hx.len
  have hxc := hx.le
  have HTI : Hid (∀ x y : Value, (Try.prog.info? 30).map (fun i => (i.zero, i.size)) = some (some (.agg #[.slice none 0 0, .slice none 0 0]), (#[x, y] : Array Value).size)) := Lib.hid (fun _ _ => tb_info)
  have HKS : Hid ((Try.prog.info? 22).map (·.size) = some (BV kb).length) := Lib.hid (by rw [BV_length, hkb]; exact key_size)
  have HM := Lib.hid hm
  have HMD : Hid (decide (mayR xs) = true) := Lib.hid (decide_eq_true hm)
  have hmm : m ≤ 1024 := by have := ((mayR_iff xs).1 hm).1; have := hx.len; omega
  obtain ⟨P, hP⟩ : ∃ P, P = nextP (n : Int) := ⟨_, rfl⟩
  have hps := nextP_spec (n : Int) (by omega)
  have hlw := low_le (n : Int)
  have h2P : 2 ≤ P := by omega
  have h3P : P ≤ 65537 := by omega
  have hpr : pr P = true := by rw [hP]; exact hps.1
  have HPN : Hid (nextP (n : Int) = P) := Lib.hid hP.symm
  have HPP := Lib.hid hpr
  obtain ⟨zs, hzs⟩ : ∃ zs, risL xs = zs := ⟨_, rfl⟩
  have HRS := Lib.hid hzs
  have hzq : ∀ x ∈ zs, 0 < x.q ∧ x.q ≤ 1024000 := by rw [← hzs]; exact mayR_q hm
  have hzl : zs.length ≤ 1024 := by rw [← hzs]; exact Nat.le_trans (risL_le xs) ((mayR_iff xs).1 hm).1
  have hrg := slZ_rg (kb := kb) (n := P) (zs := zs) h2P h3P hpr hzq
  obtain ⟨L, hL⟩ : ∃ L, slZ kb P zs = L := ⟨_, rfl⟩
  obtain ⟨N, hN⟩ : ∃ N, namesOf zs = N := ⟨_, rfl⟩
  obtain ⟨ll, hll⟩ : ∃ ll, L.length = ll := ⟨_, rfl⟩
  obtain ⟨nl, hnl⟩ : ∃ nl, N.length = nl := ⟨_, rfl⟩
  rw [hL, hll] at hrg
  have hl3 : ll ≤ 65537 := by omega
  have hzn : zs.length = nl := by rw [← hnl, ← hN, namesOf_length]
  have hn3 : nl ≤ 1024 := by omega
  have HZN := Lib.hid hzn
  have HZQ := Lib.hid hzq
  have HR : Hid (∀ z ∈ L, 0 ≤ z ∧ z < (nl : Int)) := Lib.hid (fun z hz => by have := hrg.1 z hz; omega)
  have HR0 : Hid (∀ z ∈ L, 0 ≤ z) := Lib.hid (fun z hz => (hrg.1 z hz).1)
  have HL := Lib.hid hL
  have HN := Lib.hid hN
  have HLL := Lib.hid hll
  have HNL := Lib.hid hnl
  have HX0 := Lib.hid hx
  have HAT : Hid (∀ i (hi : i < xs.length), ∃ b off, ad = some ⟨b, off, none⟩ ∧ b < w.heap.size ∧ w.rangeAt b (off + i * 2) xs[i].cells) := Lib.hid (fun i hi => by
    obtain ⟨b, off, h1, h2, h3⟩ := hx.at (by omega)
    exact ⟨b, off, h1, h2, h3 i hi⟩)
  clear hx hm hP hps hlw hpr hzs hzq hrg hL hN hll hnl hzn
  go_enter Try.func9, Try.ntmps9
  go_upto_region 6 with (first
    | ((with_reducible refine sl 3 ?_); go_must (refine wpL_boxG rfl 22 (.tmp 0) rfl (BV kb).toArray rfl ?_); intro w1 g3 he__ le_g3 lt_g3 hg__ hb__; have HG3 := Lib.hid hg__; have hE__ := cU HB bup hb__; replace HB := ck HB hE__; replace HXS := ck HXS hE__; clear hE__; clear hg__ hb__ he__; simp only [PT])
    | (go_at_call 10; go_must (refine (awake_any _).mono ?_); rintro e w2 ⟨rfl, hb__⟩; have hE__ := cU HB bup hb__; replace HB := ck HB hE__; replace HXS := ck HXS hE__; replace HG3 := ck HG3 hE__; clear hE__; clear hb__)
    | (go_at_call 11; go_must (refine (few17_any ad m c xs _ HXS.out).mono ?_); rintro e w2 ⟨⟨b, rfl, hfw⟩, hb__⟩; have HFW := Lib.hid hfw; have hE__ := cU HB bup hb__; replace HB := ck HB hE__; replace HXS := ck HXS hE__; replace HG3 := ck HG3 hE__; clear hE__; clear hb__ hfw; cases b)
    | (go_at_call 14; go_must (refine (refMay_any ad m c xs _ (HXS.out.below bup)).mono ?_); rw [HMD.out]; rintro e w4 ⟨rfl, hb__⟩; have hE__ := cU HB bup hb__; replace HB := ck HB hE__; replace HXS := ck HXS hE__; replace HG3 := ck HG3 hE__; clear hE__; clear hb__)
    | (go_at_call 19; go_must (refine (refNext_any (n : Int) (by omega) (by omega) _).mono ?_); rw [HPN.out]; rintro e w' ⟨rfl, rfl⟩)
    | ((with_reducible refine sl 34 ?_); go_must (refine wpL_lit0G elSh rfl rfl ?_); intro w34 g34 le34 lt34 ho__ hb__; go_must (have HQ := Lib.hid (own_base ho__ (Nat.le_trans HB.out.size (bsz bup)))); have hE__ := cU HB bup hb__; replace HB := ck HB hE__; replace HXS := ck HXS hE__; replace HG3 := ck HG3 hE__; clear hE__; clear ho__ hb__; simp only [PT])
    | ((with_reducible refine sl 36 ?_); go_must (refine wpL_append elSh rfl (.tmp 34) (.tmp 35) rfl w.heap.size rfl (own_keep HQ.out bup) rfl (HXS.out.below bup) (shC_one _) (by unfold maxLen; omega) (by omega) (Nat.le_trans HB.out.size (bsz bup)) ?_); intro adO cO wO ho__ hg__ hz1__ hz2__; rw [Nat.zero_add] at ho__ ⊢; go_must (have HGO := Lib.hid (hgt3 HG3 bup HQ.out hg__)); go_must (have HBO := Lib.hid ((HB.out.trans (Below.mono bup HB.out.size)).grown hg__ (Nat.le_trans HB.out.size (bsz bup)) (ownBlock_ge HQ.out))); clear HB HXS HG3 HQ; have HB := HBO; have HG3 := HGO; have HO := Lib.hid (show World.ownsRow _ _ _ _ _ _ (shC xs) from ho__); go_must (have HXS := Lib.hid (HX0.out.below HBO.out)); clear HBO HGO ho__ hg__ hz1__ hz2__; simp only [PT])
    | ((with_reducible refine sl 38 ?_); go_must (refine wpL_load rfl 22 (.tmp 3) rfl g3 0 rfl (BV kb) _ (range_block (hatB HG3 bup)) Try.underlying22 rfl HKS.out ?_); simp only [PT])
    | (go_at_call 12; go_must (refine (build_at kb hkb P h2P h3P HPP.out adO m cO xs HM.out (fun x hx => by have := (HFW.out (by simp)).2 x hx; omega) zs HRS.out N HN.out nl HNL.out L HL.out ll HLL.out _ (Shs.of_own (own_keep HO.out bup))).mono ?_); rintro e wB1 ⟨a1, c1, d1, f1, rfl, ho1, ho2, hb__⟩; have HN1 := Lib.hid (own_base ho1 HB.out.size); have HS1 := Lib.hid (own_base ho2 HB.out.size); have hE__ := cU HB bup hb__; replace HB := ck HB hE__; replace HXS := ck HXS hE__; replace HG3 := ck HG3 hE__; replace HO := ck HO hE__; clear hE__; clear ho1 ho2 hb__)
    | ((with_reducible refine sl 9 ?_); go_must (refine wpL_newG rfl rfl 30 rfl (.tmp 9) (.tmp 42) rfl #[.slice a1 nl c1, .slice d1 ll f1] #[.slice none 0 0, .slice none 0 0] (HTI.out _ _) rfl (tb_all rfl rfl) (fun _ => rfl) (fun _ => rfl) ?_); intro wt9 g9 le_9 hg__ hb__; have HG9 := Lib.hid hg__; have hE__ := cU HB bup hb__; replace HB := ck HB hE__; replace HXS := ck HXS hE__; replace HG3 := ck HG3 hE__; replace HO := ck HO hE__; replace HN1 := ck HN1 hE__; replace HS1 := ck HS1 hE__; clear hE__; clear hg__ hb__; simp only [PT]))
  · go_ret
    exact ⟨rfl, HB.out⟩
  have HK : Hid (Kp w wt9 kb g3 g9 m xs adO cO a1 nl c1 N d1 ll f1 L) := Lib.hid ⟨HB.out, HG3.out, HG9.out, HO.out, HN1.out, HS1.out⟩
  have hcO := Sl.le (Sl.of_own HO.out)
  have hcN := Sl.le (Sl.of_own HN1.out)
  have hcS := Sl.le (Sl.of_own HS1.out)
  clear HB HG3 HG9 HO HN1 HS1 HXS
  obtain ⟨wt, hwt⟩ : ∃ wt, wt = wt9 := ⟨_, rfl⟩
  rw [← hwt] at HK ⊢
  clear hwt
  go_wp2_with fail
  go_loopw [11] (fun i wr => ∃ j : Nat, j ≤ m ∧ i = .int .i64 (j : Int) ∧ Hid (Kp w wr kb g3 g9 m xs adO cO a1 nl c1 N d1 ll f1 L)) (fun i _ => m - (intOf i).toNat)
  case atStart => exact ⟨0, by omega, rfl, HK⟩
  case round =>
    clear HK
    obtain ⟨j, hj, rfl, HK⟩ := hrel
    by_cases hend : j < m
    · have hjl : j < xs.length := by rw [← HML.out]; exact hend
      have hji : (j : Int) < (m : Int) := by omega
      obtain ⟨b, off, rfl, hbl, hat⟩ := HAT.out j hjl
      obtain ⟨gO, rfl⟩ := own_some HK.out.o (by omega)
      obtain ⟨x, hx⟩ : ∃ x, x = xs[j] := ⟨_, rfl⟩
      rw [← hx] at hat
      have hr1 : wr.rangeAt gO (j * 2) x.cells := by
        have h := Shs.get (Shs.of_own HK.out.o) j hjl
        rw [Nat.zero_add, ← hx] at h
        exact h
      have hr2 : wr.rangeAt b (off + j * 2) x.cells := range_below hat hbl HK.out.b
      obtain ⟨nm, hnm⟩ : ∃ nm, nm = x.name := ⟨_, rfl⟩
      obtain ⟨q, hq⟩ : ∃ q, q = x.q := ⟨_, rfl⟩
      have q1 : wr.cell? ⟨gO, j * 2, none⟩ = some (.string nm) := by rw [hnm]; exact sh_name hr1
      have q2 : wr.cell? ⟨gO, j * 2 + 1, none⟩ = some (.int .i64 q) := by rw [hq]; exact sh_q hr1
      have q3 : wr.cell? ⟨b, off + j * 2, none⟩ = some (.string nm) := by rw [hnm]; exact sh_name hr2
      have q4 : wr.cell? ⟨b, off + j * 2 + 1, none⟩ = some (.int .i64 q) := by rw [hq]; exact sh_q hr2
      clear hat hx hr1 hr2 hnm hq
      obtain ⟨wv, hwv⟩ : ∃ wv, wv = wr := ⟨_, rfl⟩
      subst hwv
      go_wp2_with fail
      go_quiet (fail)
      go_wp2_with fail
      exact ⟨⟨j + 1, by omega, by go_num, Lib.hid (HK.out.keep (by first | exact Below.refl _ _ | exact below_drewN _ _ _ | exact (Below.refl _ _).drew))⟩, by simp [intOf]; omega⟩
    · obtain rfl : j = m := by omega
      have hjj : ¬ (j : Int) < (j : Int) := by omega
      obtain ⟨wv, hwv⟩ : ∃ wv, wv = wr := ⟨_, rfl⟩
      subst hwv
      have hszv := HK.out.b.size
      go_upto_region 12 with (first
        | ((with_reducible refine sl 59 ?_); go_must (refine wpL_load rfl 30 (.tmp 9) rfl g9 0 rfl [.slice a1 nl c1, .slice d1 ll f1] _ (range_block (HK.out.keep bup).t9) Try.underlying30 rfl tb_size ?_); simp only [PT])
        | (go_at_call 22; go_must (refine (count_any a1 nl c1 d1 ll f1 L (by omega) hl3 HR.out _ (Sl.of_own (HK.out.keep bup).s)).mono ?_); rintro e wC ⟨⟨gC, rfl, ho__⟩, hb__⟩; go_must (have HCB : Hid (∀ k, Value.ownBlock (.slice d1 ll f1) = some k → k < wv.heap.size) := Lib.hid (fun k hk => by have h := World.ownsRow.lt HK.out.s k hk; exact h.2)); go_must (have HC0 := Lib.hid (own_base ho__ (bsz (w := wv) bup))); go_must (replace HK := ckk HK bup hb__); clear ho__ hb__))
      have hBw : w.heap.size ≤ wv.heap.size := by have h := HK.out.b.size; exact hszv
      have HC1 : Hid ((cntI L nl).length = nl) := Lib.hid (cntI_length L nl)
      clear hszv
      go_wp2_with fail
      go_loopw [13] (fun i wr => ∃ (k : Nat) (M : List Int), k ≤ nl ∧ i = .int .i64 (k : Int) ∧ Hid (M.length = nl) ∧ Hid (wr.ownsRow wv.heap.size 3 1 (.slice (some ⟨gC, 0, none⟩) nl nl) nl (iV M)) ∧ Hid (Kp w wr kb g3 g9 j xs adO cO a1 nl c1 N d1 ll f1 L)) (fun i _ => nl - (intOf i).toNat)
      case atStart => exact ⟨0, _, by omega, rfl, HC1, HC0, HK⟩
      case round =>
        clear HK HC0 HC1
        obtain ⟨k, M, hk, rfl, HMn, HC, HK⟩ := hrel
        by_cases hkl : k < nl
        · have hki : (k : Int) < (nl : Int) := by omega
          go_wp2_with (first
            | ((with_reducible show wpList _ _ _ (⟨none, .store _ (.tmp 69) _, _, _, _, _⟩ :: _) _ _); go_must (refine wpL_storeO rfl 3 (.tmp 69) (.const (.int .i64 (-1))) rfl (own_keep HC.out bup) k (by rw [iV_length, HMn.out]; exact hkl) (.int .i64 (-1)) rfl rfl rfl rfl (by kernel_rfl) ?_); intro w5 ho5 hg5; go_must (have HKn := Lib.hid ((HK.out.keep bup).stC (own_keep HC.out bup) HCB.out hBw hg5)); rw [iV_set] at ho5; have HCn := Lib.hid ho5; clear HK HC ho5 hg5; simp only [PT]))
          go_roundw
          case rel => exact ⟨k + 1, _, by omega, by go_num, Lib.hid (by rw [List.length_set]; exact HMn.out), HCn, HKn⟩
          case measure => simp [intOf]; omega
        have hkk : ¬ (k : Int) < (nl : Int) := by omega
        have HC1 := Lib.hid HLL.out
        clear HC HMn
        go_wp2_with fail
        go_loopw [14] (fun i wr => ∃ (k : Nat) (M : List Int), k ≤ ll ∧ i = .int .i64 (k : Int) ∧ Hid (M.length = ll) ∧ Hid (Kp w wr kb g3 g9 j xs adO cO a1 nl c1 N d1 ll f1 M)) (fun i _ => ll - (intOf i).toNat)
        case atStart => exact ⟨0, _, by omega, rfl, HC1, HK⟩
        case round =>
          clear HK HC1
          obtain ⟨k, M, hk, rfl, HMn, HK⟩ := hrel
          have qt : wr.cell? ⟨g9, 1, none⟩ = some (.slice d1 ll f1) := cellV HK.out.t9 rfl
          by_cases hkl : k < ll
          · have hki : (k : Int) < (ll : Int) := by omega
            obtain ⟨gS, rfl⟩ := own_some HK.out.s (by omega)
            go_wp2_with (first
              | ((with_reducible show wpList _ _ _ (⟨none, .store _ (.tmp 80) _, _, _, _, _⟩ :: _) _ _); go_must (refine wpL_storeO rfl 3 (.tmp 80) (.const (.int .i64 0)) rfl (HK.out.keep bup).s k (by rw [iV_length, HMn.out]; exact hkl) (.int .i64 0) rfl rfl rfl rfl (by kernel_rfl) ?_); intro w5 ho5 hg5; rw [iV_set] at ho5; go_must (have HKn := Lib.hid ((HK.out.keep bup).stS ho5 hg5)); clear HK ho5 hg5; simp only [PT]))
            go_roundw
            case rel => exact ⟨k + 1, _, by omega, by go_num, Lib.hid (by rw [List.length_set]; exact HMn.out), HKn⟩
            case measure => simp [intOf]; omega
          have hkk : ¬ (k : Int) < (ll : Int) := by omega
          have HC1 := Lib.hid HNL.out
          clear HMn
          go_wp2_with fail
          go_loopw [15] (fun i wr => ∃ (k : Nat) (M2 : List ByteArray), k ≤ nl ∧ i = .int .i64 (k : Int) ∧ Hid (M2.length = nl) ∧ Hid (Kp w wr kb g3 g9 j xs adO cO a1 nl c1 M2 d1 ll f1 M)) (fun i _ => nl - (intOf i).toNat)
          case atStart => exact ⟨0, _, by omega, rfl, HC1, HK⟩
          case round =>
            clear HK HC1 qt
            obtain ⟨k, M2, hk, rfl, HMn, HK⟩ := hrel
            have qt : wr.cell? ⟨g9, 0, none⟩ = some (.slice a1 nl c1) := cellV HK.out.t9 rfl
            by_cases hkl : k < nl
            · have hki : (k : Int) < (nl : Int) := by omega
              obtain ⟨gN, rfl⟩ := own_some HK.out.n (by omega)
              go_wp2_with (first
                | ((with_reducible show wpList _ _ _ (⟨none, .store _ (.tmp 91) _, _, _, _, _⟩ :: _) _ _); go_must (refine wpL_storeO rfl 9 (.tmp 91) (.const (.string ⟨#[63]⟩)) rfl (HK.out.keep bup).n k (by rw [stV_length, HMn.out]; exact hkl) (.string ⟨#[63]⟩) rfl rfl rfl rfl (by kernel_rfl) ?_); intro w5 ho5 hg5; rw [stV_set] at ho5; go_must (have HKn := Lib.hid ((HK.out.keep bup).stN ho5 hg5)); clear HK ho5 hg5; simp only [PT]))
              go_roundw
              case rel => exact ⟨k + 1, _, by omega, by go_num, Lib.hid (by rw [List.length_set]; exact HMn.out), HKn⟩
              case measure => simp [intOf]; omega
            have hkk : ¬ (k : Int) < (nl : Int) := by omega
            clear HMn
            go_upto_region 25 with (first
              | ((with_reducible refine sl 93 ?_); go_must (refine wpL_load rfl 22 (.tmp 3) rfl g3 0 rfl (BV kb) _ (range_block (HK.out.keep bup).k3) Try.underlying22 rfl HKS.out ?_); simp only [PT])
              | (go_at_call 12; go_must (refine (build_at kb hkb P h2P h3P HPP.out adO j cO xs HM.out (fun x hx => by have := (HFW.out (by simp)).2 x hx; omega) zs HRS.out N HN.out nl HNL.out L HL.out ll HLL.out _ (Shs.of_own (HK.out.keep bup).o)).mono ?_); rintro e wB2 ⟨a2, c2, d2, f2, rfl, ho1, ho2, hb__⟩; have HN2 := Lib.hid ho1; have HS2 := Lib.hid ho2; replace HK := ckk HK bup hb__; clear ho1 ho2 hb__)
              | ((with_reducible refine sl 16 ?_); go_must (refine wpL_newG rfl rfl 30 rfl (.tmp 16) (.tmp 97) rfl #[.slice a2 nl c2, .slice d2 ll f2] #[.slice none 0 0, .slice none 0 0] (HTI.out _ _) rfl (tb_all rfl rfl) (fun _ => rfl) (fun _ => rfl) ?_); intro wt16 g16 le_16 hg__ hb__; have HG16 := Lib.hid hg__; replace HK := ckk HK bup hb__; replace HN2 := ckk HN2 bup hb__; replace HS2 := ckk HS2 bup hb__; clear hg__ hb__; simp only [PT]))
            obtain ⟨wq, hwq⟩ : ∃ wq, wq = wt16 := ⟨_, rfl⟩
            subst hwq
            have HF := Lib.hid (Below.refl wq.heap.size wq)
            refine wp_region_held_drew (S := fun u__ => u__.heap[g16]? = some (.cells #[.slice a2 nl c2, .slice d2 ll f2] 30 (0, 0)) ∧ u__.heap[g3]? = some (.cells (BV kb).toArray 22 (0, 0))) (by kernel_rfl) ?_ (fun hHeld => ?_)
            focus (exact ⟨hatB HG16 (HF.out.trans (Below.mono bup HF.out.size)), (HK.out.keep (HF.out.trans (Below.mono bup HF.out.size))).k3⟩)
            refine' tk 0 (oi := ⟨some 99, _, _, _, _, _⟩) (v := _) rfl (by kernel_rfl) (yieldsIf_load_mid (by rfl) _ _ rfl _ _ rfl ([.slice a2 nl c2, .slice d2 ll f2]) _ (fun _ h => range_block h.1) (Try.underlying30) rfl (tb_size)) hHeld ?_
            simp only [PT]
            refine' tk 1 (oi := ⟨some 100, _, _, _, _, _⟩) (v := _) rfl (by kernel_rfl) (yieldsIf_load_mid (by rfl) _ _ rfl _ _ rfl (BV kb) _ (fun _ h => range_block h.2) (Try.underlying22) rfl (HKS.out)) hHeld ?_
            simp only [PT]
            refine tk 2 (oi := ⟨some 101, _, _, _, _, _⟩) (v := ?_) rfl (by kernel_rfl) (.inl ⟨by rfl, ?_⟩) hHeld ?_; rotate_left; focus (intro w hSw; (try dsimp only at hSw); go_simp; try with_reducible rfl)
            simp only [PT]
            refine tk 3 (oi := ⟨some 102, _, _, _, _, _⟩) (v := ?_) rfl (by kernel_rfl) (.inl ⟨by rfl, ?_⟩) hHeld ?_; rotate_left; focus (intro w hSw; (try dsimp only at hSw); go_simp; try with_reducible rfl)
            simp only [PT]
            refine wpAnyH_ready (rs := [4]) (by kernel_rfl) (by simp) ?_
            refine (AllReadyH.cons (o := ⟨some 103, _, _, _, _, _⟩) rfl (fun K hK => ?_) AllReadyH.nil)
            focus (go_simp; go_must (refine (refBuild_at kb hkb P h2P h3P HPP.out ad j c xs HM.out (fun x hx => by have := (HFW.out (by simp)).2 x hx; omega) zs HRS.out N HN.out nl HNL.out L HL.out ll HLL.out _ (HX0.out.below (HK.out.keep (HF.out.trans (Below.mono bup HF.out.size))).b)).mono ?_); rintro e wB5 ⟨a5, c5, d5, f5, rfl, ho1, ho2, hb__⟩; have HN5 := Lib.hid ho1; have HS5 := Lib.hid ho2; go_must (replace HF := cE0 HF bup hb__); clear ho1 ho2 hb__; go_wp2_with fail)
            refine hK.out _ _ ?_ (fun hHeld => ?_)
            focus (exact ⟨hatB HG16 (HF.out.trans (Below.mono bup HF.out.size)), (HK.out.keep (HF.out.trans (Below.mono bup HF.out.size))).k3⟩)
            clear hK K
            try simp only [PT]
            refine wpAnyH_ready (rs := [5]) (by kernel_rfl) (by simp) ?_
            refine (AllReadyH.cons (o := ⟨some 104, _, _, _, _, _⟩) rfl (fun K hK => ?_) AllReadyH.nil)
            focus (go_simp; go_must (refine (same17_any a2 nl c2 d2 ll f2 a5 c5 d5 f5 N L HR0.out hl3 (by omega) _ (Sl.of_own (own_keep HN2.out (HF.out.trans (Below.mono bup HF.out.size)))) (Sl.of_own (own_keep HS2.out (HF.out.trans (Below.mono bup HF.out.size)))) (Sl.of_own (own_keep HN5.out bup)) (Sl.of_own (own_keep HS5.out bup))).mono ?_); rintro e w6 ⟨rfl, hb__⟩; go_must (replace HF := cE0 HF bup hb__); clear hb__; go_wp2_with fail)
            refine hK.out _ _ ?_ (fun hHeld => ?_)
            focus (exact ⟨hatB HG16 (HF.out.trans (Below.mono bup HF.out.size)), (HK.out.keep (HF.out.trans (Below.mono bup HF.out.size))).k3⟩)
            clear hK K
            try simp only [PT]
            refine tk 6 (oi := ⟨some 6, _, _, _, _, _⟩) (v := ?_) rfl (by kernel_rfl) (.inl ⟨by rfl, ?_⟩) hHeld ?_; rotate_left; focus (intro w hSw; (try dsimp only at hSw); go_simp; try with_reducible rfl)
            simp only [PT]
            refine wpAnyH_done (by kernel_rfl) ?_ _
            go_wp2_with fail
            go_ret
            exact ⟨rfl, HK.out.b.trans ((HF.out.trans (Below.mono bup HF.out.size)).mono HK.out.b.size)⟩
theorem keeps17_walk (kb : List UInt8) (hkb : kb.length = 16) (n : Nat) (hn : n ≤ 255) (ad : Option Addr) (m c : Nat) (xs : List ShV) (w : World) (hx : Shs w ad m c xs) :
    Calls Try.prog 9 #[.agg (BV kb).toArray, .int .u8 (n : Int), .slice ad m c] w fun e w' => e = .returned (.bool true) ∧ Below w.heap.size w w' := by
  by_cases hm : mayR xs
  · exact keeps17_good kb hkb n hn ad m c xs hm w hx
  · exact keeps17_bad kb hkb n ad m c xs hm w hx
end Go.Proofs.Ytaadpldijnegkaa
