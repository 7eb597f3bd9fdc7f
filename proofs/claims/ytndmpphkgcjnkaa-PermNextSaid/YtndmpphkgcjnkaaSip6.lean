/-
  The document's hash.
-/
import Derived.Test.YtndmpphkgcjnkaaSip5
namespace Go.Proofs.Ytndmpphkgcjnkaa
open Go.RowKit Go.Sort
set_option linter.unusedVariables false

/-- the four words of an array of words in block g -/
def VAt (w : World) (g : Nat) (a b c d : Nat) : Prop := w.heap[g]? = some (.cells #[.int .u64 a, .int .u64 b, .int .u64 c, .int .u64 d] 54 (0, 0))

theorem VAt.cells {w : World} {g a b c d : Nat} (h : VAt w g a b c d) : w.cell? ⟨g, 0, none⟩ = some (.int .u64 a) ∧ w.cell? ⟨g, 1, none⟩ = some (.int .u64 b) ∧ w.cell? ⟨g, 2, none⟩ = some (.int .u64 c) ∧ w.cell? ⟨g, 3, none⟩ = some (.int .u64 d) ∧
    w.frozen? ⟨g, 0, none⟩ = false ∧ w.frozen? ⟨g, 1, none⟩ = false ∧ w.frozen? ⟨g, 2, none⟩ = false ∧ w.frozen? ⟨g, 3, none⟩ = false := by
  unfold VAt at h
  simp [World.cell?, World.frozen?, h]
theorem VAt.drew {w : World} {g a b c d : Nat} (h : VAt w g a b c d) : VAt w.drew g a b c d := h
theorem VAt.set {w : World} {g a b c d : Nat} (h : VAt w g a b c d) (k x : Nat) : (w.setCell ⟨g, k, none⟩ (.int .u64 x)).heap[g]? = some (.cells (#[.int .u64 a, .int .u64 b, .int .u64 c, .int .u64 d].setIfInBounds k (.int .u64 x)) 54 (0, 0)) := by
  unfold VAt at h
  have hlt := lt_of_block h
  have h' : w.heap[g] = .cells #[.int .u64 a, .int .u64 b, .int .u64 c, .int .u64 d] 54 (0, 0) := by simpa [Array.getElem?_eq_getElem hlt] using h
  show (w.heap.modify g _)[g]? = _
  rw [Array.getElem?_eq_getElem (by simpa using hlt), Array.getElem_modify_self, h']
  rfl

theorem refRound_ex (a b c d : Nat) (h : Okw (a, b, c, d)) : ∃ a' b' c' d', (a', b', c', d') = roundN (a, b, c, d) ∧ Okw (a', b', c', d') ∧ ∀ w : World, Calls Try.prog 29 #[.agg #[.int .u64 a, .int .u64 b, .int .u64 c, .int .u64 d]] w fun e w' => e = .returned (.agg #[.int .u64 a', .int .u64 b', .int .u64 c', .int .u64 d']) ∧ Below w.heap.size w w' :=
  ⟨(roundN (a, b, c, d)).1, (roundN (a, b, c, d)).2.1, (roundN (a, b, c, d)).2.2.1, (roundN (a, b, c, d)).2.2.2, rfl, h.round, fun w => refRound_any a b c d w h⟩

set_option maxRecDepth 100000 in
set_option maxHeartbeats 600000 in
theorem refOf_any (kb : List UInt8) (hkb : kb.length = 16) (ad : Option Addr) (n c : Nat) (l : List UInt8) (w : World) (hs : Bs w ad n c l) (hsz : n ≤ 1000000) :
    Calls Try.prog 22 #[.agg (BV kb).toArray, .slice ad n c] w fun e w' => e = .returned (.int .u64 (sipN kb l)) ∧ Below w.heap.size w w' := by
  have HS := Lib.hid hs
  have hlb : l.length ≤ 1000000 := by have := hs.len; omega
  have H0 := Lib.hid ((Below.refl w.heap.size w).alloc (Nat.le_refl _) (.cells (BV kb).toArray 28))
  have hall : Sl (w.alloc (.cells (BV kb).toArray 28)) (some ⟨w.heap.size, 0, none⟩) 16 16 1 (BV kb) := Sl.lit w (BV kb).toArray _ 16 1 (by simp [BV_length, hkb]) (by simp [maxLen])
  have HA := Lib.hid (show Bs (w.alloc (.cells (BV kb).toArray 28)) (some ⟨w.heap.size, 0, none⟩) 16 16 kb from hall)
  clear hs hall
  go_enter Try.func22, Try.ntmps22
  go_wp2_with fail
  generalize w.alloc (.cells (BV kb).toArray 28) = w1 at *
  go_loopw [5, 6] (fun v i wr => ∃ (j : Nat) (ad' : Option Addr) (c' : Nat), j ≤ 16 ∧ i = .int .i64 j ∧ v = .slice ad' j c' ∧ wr.ownsRow w1.heap.size 5 1 (.slice ad' j c') j (BV (kb.take j)) ∧ Below w1.heap.size w1 wr) (fun v _ _ => 16 - lenV v)
  case atStart => exact ⟨0, none, 0, Nat.zero_le _, rfl, rfl, World.ownsRow_nil _ _ _ _, Below.refl _ _⟩
  case round =>
    obtain ⟨j, ad2, c2, hj, rfl, rfl, ho, hb⟩ := hrel
    have HO := Lib.hid ho
    have HB := Lib.hid hb
    by_cases hlt : (j : Int) < 16
    · have hjl : j < kb.length := by omega
      obtain ⟨b, off, hbo, _, hcc⟩ := (HA.out.below hb).at (j := j) hjl
      cases hbo
      have hcx := hcc j hjl
      simp only [Nat.zero_add] at hcx
      have hst := take_snoc8 kb j hjl
      obtain ⟨by8, hby⟩ : ∃ by8, by8 = at8 kb j := ⟨_, rfl⟩
      rw [← hby] at hcx hst
      have HST := Lib.hid hst
      clear hst hby hcc ho hb
      go_wp2_with ((with_reducible show wpList _ _ _ (⟨some 21, _, _, _, _, _⟩ :: _) _ _); go_must (refine wpL_append elB rfl (.tmp 16) (.tmp 20) rfl w1.heap.size rfl (HO.out.alloc _) rfl (Bs.one _ _ by8) (BV_one [by8]) (by unfold maxLen; omega) (by omega) (by have := HB.out.size; simp; omega) ?_))
      intro ad3 c3 w3 hown3 hgrow3 hat3 hnil3
      have HO3 := Lib.hid hown3
      have HB3 : Hid (Below w1.heap.size w1 w3) := Lib.hid ((HB.out.alloc HB.out.size _).grown hgrow3 (by have := HB.out.size; simp; omega) (ownBlock_ge HO.out))
      clear hown3 hgrow3 hat3 hnil3
      go_wp2_with fail
      go_roundw
      case rel => exact ⟨j + 1, ad3, c3, by omega, by go_num, rfl, by rw [HST.out, BV_append]; exact HO3.out, HB3.out⟩
      case measure => simp only [lenV]; omega
    · obtain rfl : j = 16 := by omega
      have hkk : kb.take 16 = kb := List.take_of_length_le (by omega)
      rw [hkk] at HO
      have HB2 := Lib.hid (Below.next H0.out H0.out.size (Below.refl _ _) hb)
      have HS2 := Lib.hid ((HS.out.below H0.out).below hb)
      have HA2 := Lib.hid (Bs.of_own HO.out)
      clear ho hb hkk HO HB HS HA H0
      have hc2 := HA2.out.le
      have hp1 : Bs wr (subAd ad2 c2 0 1) 8 c2 (kb.take 8) := Bs.part HA2.out 0 8 (by omega) (by omega)
      have hp2 : Bs wr (subAd ad2 c2 8 1) 8 (c2 - 8) (kb.drop 8) := Bs.drop8 HA2.out 8 (by omega)
      obtain ⟨K, hK⟩ : ∃ K, K = getN (kb.take 8) false := ⟨_, rfl⟩
      obtain ⟨L, hL⟩ : ∃ L, L = getN (kb.drop 8) false := ⟨_, rfl⟩
      obtain ⟨x0, hx0⟩ : ∃ x, x = xorN K 8317987319222330741 := ⟨_, rfl⟩
      obtain ⟨x1, hx1⟩ : ∃ x, x = xorN L 7237128888997146477 := ⟨_, rfl⟩
      obtain ⟨x2, hx2⟩ : ∃ x, x = xorN K 7816392313619706465 := ⟨_, rfl⟩
      obtain ⟨x3, hx3⟩ : ∃ x, x = xorN L 8387220255154660723 := ⟨_, rfl⟩
      have c0 := xorC K 8317987319222330741 _ rfl
      have c1 := xorC L 7237128888997146477 _ rfl
      have c2' := xorC K 7816392313619706465 _ rfl
      have c3 := xorC L 8387220255154660723 _ rfl
      rw [← hx0] at c0
      rw [← hx1] at c1
      rw [← hx2] at c2'
      rw [← hx3] at c3
      have hs0 : sip0 kb = (x0, x1, x2, x3) := by rw [hx0, hx1, hx2, hx3, hK, hL]; rfl
      have ho0 : Okw (x0, x1, x2, x3) := by rw [hx0, hx1, hx2, hx3]; exact ⟨xorN_lt _ _, xorN_lt _ _, xorN_lt _ _, xorN_lt _ _⟩
      have HS0 := Lib.hid hs0
      have HO0 := Lib.hid ho0
      clear hx0 hx1 hx2 hx3 hs0 ho0
      have HKK := Lib.hid hK
      have HLL := Lib.hid hL
      have HP1 := Lib.hid hp1
      have HP2 := Lib.hid hp2
      clear hK hL hp1 hp2
      go_wp2_with (first
        | ((with_reducible show wpList _ _ _ (⟨some 23, _, _, _, _, _⟩ :: _) _ _); go_must (refine wpL_slice elB rfl (.tmp 22) none (some (.const (.int .i64 8))) rfl rfl 0 8 (.inl ⟨rfl, rfl⟩) (.inr ⟨.i64, rfl⟩) (by omega) (by omega) ?_); intro adp hadp; rw [← hadp.out] at HP1)
        | ((with_reducible show wpList _ _ _ (⟨some 26, _, _, _, _, _⟩ :: _) _ _); go_must (refine wpL_slice elB rfl (.tmp 25) (some (.const (.int .i64 8))) none rfl rfl 8 16 (.inr ⟨.i64, rfl⟩) (.inl ⟨rfl, rfl⟩) (by omega) (by omega) ?_); intro adq hadq; rw [← hadq.out] at HP2)
        | (go_at_call 27; have t1 := HP1; refine (refGet_any _ _ _ _ _ _ t1.out).mono ?_; clear t1 HP1; rw [← HKK.out]; rintro e w' ⟨rfl, hw⟩; obtain rfl := hw)
        | (go_at_call 27; refine (refGet_any _ _ _ _ _ _ HP2.out).mono ?_; rw [← HLL.out]; rintro e w' ⟨rfl, hw⟩; obtain rfl := hw)
        | (go_at_call 28; refine (words_any _ _ _ l _ (HS2.out.below (by repeat (first | exact Below.refl _ _ | refine Below.drew ?_ | refine Below.alloc ?_ (by first | exact Nat.le_refl _ | (simp; done) | (simp; omega)) _))) hsz).mono ?_; rintro e w4 ⟨ad4, c4, rfl, ho4, hb4⟩; have hg4 : w4.heap[wr.heap.size]? = some (.cells #[.int .u64 x0, .int .u64 x1, .int .u64 x2, .int .u64 x3] 54 (0, 0)) := (hb4.block wr.heap.size (by simp)).trans (heap_alloc_new _ _); have HV := Lib.hid (show VAt w4 wr.heap.size x0 x1 x2 x3 from hg4); have HG0 := Lib.hid HB2.out.size; (first | (have HB2' := cB HB2 (by repeat (first | exact Below.refl _ _ | refine Below.drew ?_ | refine Below.alloc ?_ (by first | exact Nat.le_refl _ | (simp; done) | (simp; omega)) _)) hb4; clear HB2; have HB2 := HB2'; clear HB2') | (have HB2' := cO HB2 (by repeat (first | exact Below.refl _ _ | refine Below.drew ?_ | refine Below.alloc ?_ (by first | exact Nat.le_refl _ | (simp; done) | (simp; omega)) _)) hb4; clear HB2; have HB2 := HB2'; clear HB2') | (have HB2' := cK HB2 (by repeat (first | exact Below.refl _ _ | refine Below.drew ?_ | refine Below.alloc ?_ (by first | exact Nat.le_refl _ | (simp; done) | (simp; omega)) _)) hb4; clear HB2; have HB2 := HB2'; clear HB2') | (have HB2' := cP HB2 (by repeat (first | exact Below.refl _ _ | refine Below.drew ?_ | refine Below.alloc ?_ (by first | exact Nat.le_refl _ | (simp; done) | (simp; omega)) _)) hb4; clear HB2; have HB2 := HB2'; clear HB2')); have HW := Lib.hid ho4; clear hb4 ho4 hg4))
      have hf4 := own_form HW.out
      have hne : ∀ x, ad4 = some x → wr.heap.size < x.block := by
        intro x hx
        rcases hf4 with ⟨h, _⟩ | ⟨g, h, h2, _⟩
        · rw [h] at hx; cases hx
        · rw [h] at hx; cases hx; simp at h2; show wr.heap.size < g; omega
      have HNE := Lib.hid hne
      have HSL := Lib.hid (Sl.of_own HW.out)
      clear hne hf4 HW
      generalize wr.heap.size = g at *
      obtain ⟨ws, hws⟩ : ∃ ws, ws = wordsOf l := ⟨_, rfl⟩
      have hwl : ws.length = l.length / 8 + 1 := by rw [hws]; simp [wordsOf]
      rw [← hws] at HSL
      have HWS := Lib.hid hws
      generalize hq : l.length / 8 + 1 = q at *
      have hqb : q ≤ 1000001 := by omega
      clear hws hq
      have HWL := Lib.hid hwl
      clear hwl
      go_loopw [11] (fun i wr => ∃ j : Nat, j ≤ q ∧ i = .int .i64 j ∧ (∃ a b c d, (a, b, c, d) = eatN (sip0 kb) (ws.take j) ∧ Okw (a, b, c, d) ∧ VAt wr g a b c d) ∧ Sl wr ad4 q c4 1 (WV ws) ∧ Below w.heap.size w wr) (fun i _ => q - (intOf i).toNat)
      case atStart => exact ⟨0, Nat.zero_le _, rfl, ⟨x0, x1, x2, x3, HS0.out.symm, HO0.out, HV.out⟩, HSL.out, HB2.out⟩
      case round =>
        obtain ⟨j, hj, rfl, ⟨a, b, c, d, he, ho, hv⟩, hsl, hb⟩ := hrel
        have HE := Lib.hid he
        have HO := Lib.hid ho
        have HV2 := Lib.hid hv
        have HL2 := Lib.hid hsl
        have HB3 := Lib.hid hb
        obtain ⟨p0, p1, p2, p3, q0, q1, q2, q3⟩ := hv.cells
        clear he ho hv hb HV HSL HB2
        by_cases hlt : j < q
        · have hjw : j < ws.length := by have := HWL.out; omega
          obtain ⟨b5, off5, hb5, _, hcc⟩ := hsl.at (j := j) (by simpa [WV] using hjw)
          have hcx := hcc j (by simpa [WV] using hjw)
          simp only [WV, List.getElem_map] at hcx
          obtain ⟨x, hx⟩ : ∃ x, x = ws[j] := ⟨_, rfl⟩
          rw [← hx] at hcx
          subst hb5
          clear hcc hsl
          obtain ⟨y, hy⟩ : ∃ y, y = xorN d x := ⟨_, rfl⟩
          have fy := bits_xor d x
          rw [← hy] at fy
          have hoy : Okw (a, b, c, y) := ⟨HO.out.1, HO.out.2.1, HO.out.2.2.1, by rw [hy]; exact xorN_lt _ _⟩
          have HX := Lib.hid hx
          have HY := Lib.hid hy
          obtain ⟨a1, b1, c1, d1, hr1, ho1, R1⟩ := refRound_ex a b c y hoy
          obtain ⟨a2, b2, c2, d2, hr2, ho2, R2⟩ := refRound_ex a1 b1 c1 d1 ho1
          have HR1 := Lib.hid hr1
          have HR2 := Lib.hid hr2
          have HO2 := Lib.hid ho2
          have RR1 := Lib.hid R1
          have RR2 := Lib.hid R2
          clear hx hy hoy hr1 ho1 R1 hr2 ho2 R2
          go_wp2_with fail
          go_still_tail 8, (by kernel_rfl)
          change wpList _ _ _ _ _ wr.drew
          have hD := HV2.out.drew
          have hSD : Sl wr.drew (some ⟨b5, off5, none⟩) q c4 1 (WV ws) := HL2.out.below ((Below.refl _ _).drew)
          have hBD := HB3.out.drew
          generalize wr.drew = v1 at hD hSD hBD ⊢
          clear p0 p1 p2 p3 q0 q1 q2 q3 hcx HV2 HL2 HB3
          obtain ⟨p0, p1, p2, p3, q0, q1, q2, q3⟩ := hD.cells
          have HD := Lib.hid hD
          have HSD := Lib.hid hSD
          have HBD := Lib.hid hBD
          clear hD hSD hBD
          have hgb : g < b5 := HNE.out _ rfl
          go_wp2_with fail
          (go_at_call 29; have t1 := RR1; refine (t1.out _).mono ?_; clear t1 RR1; rintro e w5 ⟨rfl, hbb⟩; have hS : VAt (v1.setCell ⟨g, 3, none⟩ (.int .u64 y)) g a b c y := HD.out.set 3 y; have hG := grown_set v1 g 3 (.int .u64 y); have HV5 := Lib.hid (show VAt w5 g a b c y from (hbb.block g (lt_of_block hS)).trans hS); have HS5 := Lib.hid ((HSD.out.grown hG (fun x hx e => by cases hx; injection e with e; have e2 : g = b5 := e; omega)).below hbb); have HB5 := Lib.hid (Below.next (HBD.out.grown hG HBD.out.size (fun k e => by cases e; exact HG0.out)) (Nat.le_trans HBD.out.size hG.size) (Below.refl _ _) hbb); clear hbb hS hG HD HSD HBD)
          go_wp2_with (go_at_call 29; have t2 := RR2; refine (t2.out _).mono ?_; clear t2 RR2; rintro e w6 ⟨rfl, hbb⟩; have HV6 := Lib.hid (show VAt w6 g a b c y from (hbb.block g (lt_of_block HV5.out)).trans HV5.out); have HS6 := Lib.hid (HS5.out.below hbb); have HB6 := Lib.hid (Below.next HB5.out HB5.out.size (Below.refl _ _) hbb); clear hbb HV5 HS5 HB5 p0 p1 p2 p3 q0 q1 q2 q3; obtain ⟨p0, p1, p2, p3, q0, q1, q2, q3⟩ := HV6.out.cells)
          have hG : w6.grownBy ((((w6.setCell ⟨g, 0, none⟩ (.int .u64 a2)).setCell ⟨g, 1, none⟩ (.int .u64 b2)).setCell ⟨g, 2, none⟩ (.int .u64 c2)).setCell ⟨g, 3, none⟩ (.int .u64 d2)) (some g) :=
            (grown_set _ _ _ _).trans ((grown_set _ _ _ _).trans ((grown_set _ _ _ _).trans (grown_set _ _ _ _)))
          have hS : VAt ((((w6.setCell ⟨g, 0, none⟩ (.int .u64 a2)).setCell ⟨g, 1, none⟩ (.int .u64 b2)).setCell ⟨g, 2, none⟩ (.int .u64 c2)).setCell ⟨g, 3, none⟩ (.int .u64 d2)) g a2 b2 c2 d2 :=
            VAt.set (VAt.set (VAt.set (VAt.set HV6.out 0 a2) 1 b2) 2 c2) 3 d2
          generalize (((w6.setCell ⟨g, 0, none⟩ (.int .u64 a2)).setCell ⟨g, 1, none⟩ (.int .u64 b2)).setCell ⟨g, 2, none⟩ (.int .u64 c2)).setCell ⟨g, 3, none⟩ (.int .u64 d2) = v2 at hG hS ⊢
          have HS7 : Hid (Sl v2 (some { block := b5, off := off5 }) q c4 1 (WV ws)) := Lib.hid (HS6.out.grown hG (fun x hx e => by cases hx; injection e with e; have e2 : g = b5 := e; omega))
          have HB7 : Hid (Below w.heap.size w v2) := Lib.hid (HB6.out.grown hG HB6.out.size (fun k e => by cases e; exact HG0.out))
          have HV7 := Lib.hid hS
          clear p0 p1 p2 p3 q0 q1 q2 q3 hG hS HV6 HS6 HB6
          obtain ⟨p0, p1, p2, p3, q0, q1, q2, q3⟩ := HV7.out.cells
          obtain ⟨b6, off6, hb6, _, hcc⟩ := HS7.out.at (j := j) (by simpa [WV] using hjw)
          cases hb6
          have hcx := hcc j (by simpa [WV] using hjw)
          simp only [WV, List.getElem_map] at hcx
          rw [← HX.out] at hcx
          clear hcc
          have fy2 := bits_xor a2 x
          go_still_tail 8, (by kernel_rfl)
          change wpList _ _ _ _ _ v2.drew
          have hG8 : v2.grownBy v2.drew (some g) := grown_drew v2 _
          have hS8 : VAt v2.drew g a2 b2 c2 d2 := HV7.out.drew
          generalize v2.drew = v3 at hG8 hS8 ⊢
          clear p0 p1 p2 p3 q0 q1 q2 q3 hcx
          obtain ⟨p0, p1, p2, p3, q0, q1, q2, q3⟩ := hS8.cells
          have hS9 : VAt (v3.setCell ⟨g, 0, none⟩ (.int .u64 (xorN a2 x))) g (xorN a2 x) b2 c2 d2 := VAt.set hS8 0 _
          have hG9 : v2.grownBy (v3.setCell ⟨g, 0, none⟩ (.int .u64 (xorN a2 x))) (some g) := hG8.trans (grown_set _ _ _ _)
          have HS9 : Hid (Sl (v3.setCell ⟨g, 0, none⟩ (.int .u64 (xorN a2 x))) (some { block := b5, off := off5 }) q c4 1 (WV ws)) := Lib.hid (HS7.out.grown hG9 (fun x hx e => by cases hx; injection e with e; have e2 : g = b5 := e; omega))
          have HB9 : Hid (Below w.heap.size w (v3.setCell ⟨g, 0, none⟩ (.int .u64 (xorN a2 x)))) := Lib.hid (HB7.out.grown hG9 HB7.out.size (fun k e => by cases e; exact HG0.out))
          have HV9 := Lib.hid hS9
          clear hS8 hS9 hG8 hG9
          have ho9 : Okw (xorN a2 x, b2, c2, d2) := ⟨xorN_lt _ _, HO2.out.2.1, HO2.out.2.2.1, HO2.out.2.2.2⟩
          have he9 : (xorN a2 x, b2, c2, d2) = eatN (sip0 kb) (ws.take (j + 1)) := by
            rw [List.take_add_one, List.getElem?_eq_getElem hjw]
            unfold eatN
            rw [List.foldl_append]
            show _ = wordN (eatN (sip0 kb) (ws.take j)) ws[j]
            rw [← HE.out, ← HX.out]
            have e1 : (a2, b2, c2, d2) = roundN (roundN (a, b, c, xorN d x)) := by rw [← HY.out, ← HR1.out]; exact HR2.out
            unfold wordN
            show _ = (xorN (roundN (roundN (a, b, c, xorN d x))).1 x, (roundN (roundN (a, b, c, xorN d x))).2.1, (roundN (roundN (a, b, c, xorN d x))).2.2.1, (roundN (roundN (a, b, c, xorN d x))).2.2.2)
            rw [← e1]
          have HE9 := Lib.hid he9
          have HO9 := Lib.hid ho9
          clear he9 ho9 fy fy2
          go_wp2_with fail
          go_roundw
          case rel => exact ⟨j + 1, by omega, by go_num, ⟨_, _, _, _, HE9.out, HO9.out, HV9.out⟩, HS9.out, HB9.out⟩
          case measure => simp [intOf]; omega
        · have hjq : j = q := by omega
          have hej : ws.take j = ws := List.take_of_length_le (by have := HWL.out; omega)
          rw [hej] at HE
          clear hej
          have cx := xorC c 255 _ rfl
          have ho8 : Okw (a, b, xorN c 255, d) := ⟨HO.out.1, HO.out.2.1, xorN_lt _ _, HO.out.2.2.2⟩
          obtain ⟨a1, b1, c1, d1, hr1, ho1, R1⟩ := refRound_ex a b (xorN c 255) d ho8
          obtain ⟨a2, b2, c2, d2, hr2, ho2, R2⟩ := refRound_ex a1 b1 c1 d1 ho1
          obtain ⟨a3, b3, c3, d3, hr3, ho3, R3⟩ := refRound_ex a2 b2 c2 d2 ho2
          obtain ⟨a4, b4, c4, d4, hr4, ho4, R4⟩ := refRound_ex a3 b3 c3 d3 ho3
          have hfin : xorN (xorN (xorN a4 b4) c4) d4 = sipN kb l := by
            rw [← eat_all, ← HWS.out, ← HE.out]
            unfold sipEnd
            show _ = xorN (xorN (xorN (roundN (roundN (roundN (roundN (a, b, xorN c 255, d))))).1 (roundN (roundN (roundN (roundN (a, b, xorN c 255, d))))).2.1) (roundN (roundN (roundN (roundN (a, b, xorN c 255, d))))).2.2.1) (roundN (roundN (roundN (roundN (a, b, xorN c 255, d))))).2.2.2
            rw [← hr1, ← hr2, ← hr3, ← hr4]
          have HFIN := Lib.hid hfin
          have RR1 := Lib.hid R1
          have RR2 := Lib.hid R2
          have RR3 := Lib.hid R3
          have RR4 := Lib.hid R4
          clear hr1 hr2 hr3 hr4 ho1 ho2 ho3 ho4 R1 R2 R3 R4 hfin ho8
          have hS : VAt (wr.setCell ⟨g, 2, none⟩ (.int .u64 (xorN c 255))) g a b (xorN c 255) d := VAt.set HV2.out 2 _
          have hG := grown_set wr g 2 (.int .u64 (xorN c 255))
          have HB4 := Lib.hid (HB3.out.grown hG HB3.out.size (fun k e => by cases e; exact HG0.out))
          have HV4 := Lib.hid hS
          clear hS hG
          go_wp2_with fail
          generalize wr.setCell ⟨g, 2, none⟩ (.int .u64 (xorN c 255)) = v1 at HB4 HV4 ⊢
          clear p0 p1 p2 p3 q0 q1 q2 q3 HL2 HB3 HV2
          (go_at_call 29; refine (RR1.out _).mono ?_; rintro e w5 ⟨rfl, hbb⟩; have HV5 := Lib.hid (show VAt w5 g a b (xorN c 255) d from (hbb.block g (lt_of_block HV4.out)).trans HV4.out); have HB5 := Lib.hid (Below.next HB4.out HB4.out.size (Below.refl _ _) hbb); clear hbb HB4 HV4 RR1)
          go_wp2_with fail
          (go_at_call 29; refine (RR2.out _).mono ?_; rintro e w6 ⟨rfl, hbb⟩; have HV6 := Lib.hid (show VAt w6 g a b (xorN c 255) d from (hbb.block g (lt_of_block HV5.out)).trans HV5.out); have HB6 := Lib.hid (Below.next HB5.out HB5.out.size (Below.refl _ _) hbb); clear hbb HB5 HV5 RR2)
          go_wp2_with fail
          (go_at_call 29; refine (RR3.out _).mono ?_; rintro e w7 ⟨rfl, hbb⟩; have HV7 := Lib.hid (show VAt w7 g a b (xorN c 255) d from (hbb.block g (lt_of_block HV6.out)).trans HV6.out); have HB7 := Lib.hid (Below.next HB6.out HB6.out.size (Below.refl _ _) hbb); clear hbb HB6 HV6 RR3)
          go_wp2_with fail
          (go_at_call 29; refine (RR4.out _).mono ?_; rintro e w8 ⟨rfl, hbb⟩; have HV8 := Lib.hid (show VAt w8 g a b (xorN c 255) d from (hbb.block g (lt_of_block HV7.out)).trans HV7.out); have HB8 := Lib.hid (Below.next HB7.out HB7.out.size (Below.refl _ _) hbb); clear hbb HB7 HV7 RR4)
          obtain ⟨p0, p1, p2, p3, q0, q1, q2, q3⟩ := HV8.out.cells
          go_wp2_with fail
          have hG : w8.grownBy ((((w8.setCell ⟨g, 0, none⟩ (.int .u64 a4)).setCell ⟨g, 1, none⟩ (.int .u64 b4)).setCell ⟨g, 2, none⟩ (.int .u64 c4)).setCell ⟨g, 3, none⟩ (.int .u64 d4)) (some g) :=
            (grown_set _ _ _ _).trans ((grown_set _ _ _ _).trans ((grown_set _ _ _ _).trans (grown_set _ _ _ _)))
          have hS : VAt ((((w8.setCell ⟨g, 0, none⟩ (.int .u64 a4)).setCell ⟨g, 1, none⟩ (.int .u64 b4)).setCell ⟨g, 2, none⟩ (.int .u64 c4)).setCell ⟨g, 3, none⟩ (.int .u64 d4)) g a4 b4 c4 d4 :=
            VAt.set (VAt.set (VAt.set (VAt.set HV8.out 0 a4) 1 b4) 2 c4) 3 d4
          generalize (((w8.setCell ⟨g, 0, none⟩ (.int .u64 a4)).setCell ⟨g, 1, none⟩ (.int .u64 b4)).setCell ⟨g, 2, none⟩ (.int .u64 c4)).setCell ⟨g, 3, none⟩ (.int .u64 d4) = v2 at hG hS ⊢
          have HB9 : Hid (Below w.heap.size w v2) := Lib.hid (HB8.out.grown hG HB8.out.size (fun k e => by cases e; exact HG0.out))
          clear p0 p1 p2 p3 q0 q1 q2 q3 HV8 hG cx
          obtain ⟨p0, p1, p2, p3, q0, q1, q2, q3⟩ := hS.cells
          have y1 := bits_xor a4 b4
          have y2 := bits_xor (xorN a4 b4) c4
          have y3 := bits_xor (xorN (xorN a4 b4) c4) d4
          clear hS
          go_ret
          rw [y1, y2, y3, HFIN.out] at *
          exact ⟨rfl, HB9.out⟩
end Go.Proofs.Ytndmpphkgcjnkaa
