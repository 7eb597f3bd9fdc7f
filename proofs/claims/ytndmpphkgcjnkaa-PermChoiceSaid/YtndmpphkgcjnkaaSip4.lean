/-
  SipHash: the hash of a key and of parts.
-/
import Derived.Test.YtndmpphkgcjnkaaSip3
import Derived.Test.YtndmpphkgcjnkaaConcat
import Derived.Deep.RegionWith
import Derived.BigQuiet
namespace Go.Proofs.Ytndmpphkgcjnkaa
open Go.RowKit Go.Sort
set_option linter.unusedVariables false

/-- the four words at the beginning -/
def sip0 (kb : List UInt8) : Nat × Nat × Nat × Nat :=
  let k := getN (kb.take 8) false
  let l := getN (kb.drop 8) false
  (xorN k 8317987319222330741, xorN l 7237128888997146477, xorN k 7816392313619706465, xorN l 8387220255154660723)
/-- behind i whole words -/
def sipI (kb l : List UInt8) : Nat → Nat × Nat × Nat × Nat
  | 0 => sip0 kb
  | i + 1 => wordN (sipI kb l i) (getN (l.drop (8 * i)) false)
def sipLast (l : List UInt8) : Nat := orN (l.length * 72057594037927936 % 18446744073709551616) (getN (l.drop (8 * (l.length / 8))) false)
def sipEnd (s : Nat × Nat × Nat × Nat) : Nat :=
  let r := Nat.repeat roundN 4 (s.1, s.2.1, xorN s.2.2.1 255, s.2.2.2)
  xorN (xorN (xorN r.1 r.2.1) r.2.2.1) r.2.2.2
/-- the hash -/
def sipN (kb l : List UInt8) : Nat := sipEnd (wordN (sipI kb l (l.length / 8)) (sipLast l))

theorem xorC (a : Nat) (z : Int) (n : Nat) (h : z = n) : bits BinOp.xor .u64 (a : Int) z = ((xorN a n : Nat) : Int) := by rw [h]; exact bits_xor a n

theorem Bs.drop8 {w : World} {ad : Option Addr} {n c : Nat} {l : List UInt8} (h : Bs w ad n c l) (k : Nat) (hk : k ≤ n) : Bs w (subAd ad c k 1) (n - k) (c - k) (l.drop k) := by
  have := Sl.sub h (l := k) (h := n) hk (Nat.le_refl _)
  have e : ((BV l).drop (k * 1)).take ((n - k) * 1) = BV (l.drop k) := by
    have hn := h.len
    simp only [Nat.mul_one]
    unfold BV
    rw [← List.map_drop, List.take_of_length_le (by simp; omega)]
  rw [e] at this
  exact this

set_option maxRecDepth 100000 in
set_option maxHeartbeats 600000 in
theorem of_any (kb : List UInt8) (hkb : kb.length = 16) (ad : Option Addr) (m c : Nat) (ps : List (Option Addr × Nat × Nat × List UInt8)) (w : World) (hp : Pts w ad m c ps) (hsz : (flat ps).length ≤ 140737488351232) :
    Calls Try.prog 21 #[.agg (BV kb).toArray, .slice ad m c] w fun e w' => e = .returned (.int .u64 (sipN kb (flat ps))) ∧ Below w.heap.size w w' := by
  have HP := Lib.hid hp
  have HK := Lib.hid (Below.refl w.heap.size w)
  have hall : Sl (w.alloc (.cells (BV kb).toArray 28)) (some ⟨w.heap.size, 0, none⟩) 16 16 1 (BV kb) := Sl.lit w (BV kb).toArray _ 16 1 (by simp [BV_length, hkb]) (by simp [maxLen])
  have h1 : Bs (w.alloc (.cells (BV kb).toArray 28)) (some ⟨w.heap.size, 0, none⟩) 8 16 (kb.take 8) := by
    have := Sl.sub hall (l := 0) (h := 8) (by omega) (by omega)
    have e : ((BV kb).drop (0 * 1)).take ((8 - 0) * 1) = BV (kb.take 8) := by simp [BV, List.map_take]
    rw [e] at this
    exact this
  have h2 : Bs (w.alloc (.cells (BV kb).toArray 28)) (some ⟨w.heap.size, 8, none⟩) 8 8 (kb.drop 8) := by
    have := Sl.sub hall (l := 8) (h := 16) (by omega) (by omega)
    have e : ((BV kb).drop (8 * 1)).take ((16 - 8) * 1) = BV (kb.drop 8) := by
      show ((BV kb).drop 8).take 8 = _
      rw [List.take_of_length_le (by simp [BV, hkb])]
      simp [BV, List.map_drop]
    rw [e] at this
    have e2 : subAd (some (⟨w.heap.size, 0, none⟩ : Addr)) 16 8 1 = some ⟨w.heap.size, 8, none⟩ := by simp [subAd, Addr.add]
    rw [e2] at this
    exact this
  have H1 := Lib.hid h1
  have H2 := Lib.hid h2
  have H0 := Lib.hid ((Below.refl w.heap.size w).alloc (Nat.le_refl _) (.cells (BV kb).toArray 28))
  clear h1 h2
  have HP1 := Lib.hid (hp.below H0.out)
  clear hp
  obtain ⟨K, hK⟩ : ∃ K, K = getN (kb.take 8) false := ⟨_, rfl⟩
  obtain ⟨L, hL⟩ : ∃ L, L = getN (kb.drop 8) false := ⟨_, rfl⟩
  obtain ⟨x0, hx0⟩ : ∃ x, x = xorN K 8317987319222330741 := ⟨_, rfl⟩
  obtain ⟨x1, hx1⟩ : ∃ x, x = xorN L 7237128888997146477 := ⟨_, rfl⟩
  obtain ⟨x2, hx2⟩ : ∃ x, x = xorN K 7816392313619706465 := ⟨_, rfl⟩
  obtain ⟨x3, hx3⟩ : ∃ x, x = xorN L 8387220255154660723 := ⟨_, rfl⟩
  have c0 := xorC K 8317987319222330741 _ rfl
  have c1 := xorC L 7237128888997146477 _ rfl
  have c2 := xorC K 7816392313619706465 _ rfl
  have c3 := xorC L 8387220255154660723 _ rfl
  rw [← hx0] at c0
  rw [← hx1] at c1
  rw [← hx2] at c2
  rw [← hx3] at c3
  have hs0 : sip0 kb = (x0, x1, x2, x3) := by rw [hx0, hx1, hx2, hx3, hK, hL]; rfl
  have ho0 : Okw (x0, x1, x2, x3) := by rw [hx0, hx1, hx2, hx3]; exact ⟨xorN_lt _ _, xorN_lt _ _, xorN_lt _ _, xorN_lt _ _⟩
  have HS0 := Lib.hid hs0
  have HO0 := Lib.hid ho0
  obtain ⟨F, hF⟩ : ∃ F, F = flat ps := ⟨_, rfl⟩
  have hFl : F.length ≤ 140737488351232 := by rw [hF]; exact hsz
  rw [← hF]
  have HF := Lib.hid hF
  obtain ⟨E, hE⟩ : ∃ E, E = F.length * 72057594037927936 % 18446744073709551616 := ⟨_, rfl⟩
  have fE : IntKind.u64.wrap ((F.length : Int) * 72057594037927936) = (E : Int) := by rw [IntKind.wrap_u64, hE]; omega
  have HE := Lib.hid hE
  clear hE
  clear hx0 hx1 hx2 hx3 hs0 ho0 hF
  have HKK := Lib.hid hK
  have HLL := Lib.hid hL
  clear hK hL
  go_enter Try.func21, Try.ntmps21
  go_wp2_with fail
  generalize w.alloc (.cells (BV kb).toArray 28) = w1 at *
  go_region_with (first
    | (go_at_call 23; have t1 := H1; refine (get_any _ _ _ _ _ _ (H1.out.below (by repeat (first | exact Below.refl _ _ | refine Below.drew ?_ | refine Below.alloc ?_ (by first | exact Nat.le_refl _ | (simp; done) | (simp; omega)) _)))).mono ?_; intro e w2 hr2; rw [← HKK.out] at hr2; obtain ⟨rfl, hb2⟩ := hr2; (first | (have H0' := cB H0 (by repeat (first | exact Below.refl _ _ | refine Below.drew ?_ | refine Below.alloc ?_ (by first | exact Nat.le_refl _ | (simp; done) | (simp; omega)) _)) hb2; clear H0; have H0 := H0'; clear H0') | (have H0' := cO H0 (by repeat (first | exact Below.refl _ _ | refine Below.drew ?_ | refine Below.alloc ?_ (by first | exact Nat.le_refl _ | (simp; done) | (simp; omega)) _)) hb2; clear H0; have H0 := H0'; clear H0') | (have H0' := cK H0 (by repeat (first | exact Below.refl _ _ | refine Below.drew ?_ | refine Below.alloc ?_ (by first | exact Nat.le_refl _ | (simp; done) | (simp; omega)) _)) hb2; clear H0; have H0 := H0'; clear H0') | (have H0' := cP H0 (by repeat (first | exact Below.refl _ _ | refine Below.drew ?_ | refine Below.alloc ?_ (by first | exact Nat.le_refl _ | (simp; done) | (simp; omega)) _)) hb2; clear H0; have H0 := H0'; clear H0')); (first | (have H2' := cB H2 (by repeat (first | exact Below.refl _ _ | refine Below.drew ?_ | refine Below.alloc ?_ (by first | exact Nat.le_refl _ | (simp; done) | (simp; omega)) _)) hb2; clear H2; have H2 := H2'; clear H2') | (have H2' := cO H2 (by repeat (first | exact Below.refl _ _ | refine Below.drew ?_ | refine Below.alloc ?_ (by first | exact Nat.le_refl _ | (simp; done) | (simp; omega)) _)) hb2; clear H2; have H2 := H2'; clear H2') | (have H2' := cK H2 (by repeat (first | exact Below.refl _ _ | refine Below.drew ?_ | refine Below.alloc ?_ (by first | exact Nat.le_refl _ | (simp; done) | (simp; omega)) _)) hb2; clear H2; have H2 := H2'; clear H2') | (have H2' := cP H2 (by repeat (first | exact Below.refl _ _ | refine Below.drew ?_ | refine Below.alloc ?_ (by first | exact Nat.le_refl _ | (simp; done) | (simp; omega)) _)) hb2; clear H2; have H2 := H2'; clear H2')); have HP2 := Lib.hid (HP1.out.below (Below.trans ((by repeat (first | exact Below.refl _ _ | refine Below.drew ?_ | refine Below.alloc ?_ (by first | exact Nat.le_refl _ | (simp; done) | (simp; omega)) _))) hb2)); clear hb2 H1 t1 HP1)
    | (go_at_call 23; refine (get_any _ _ _ _ _ _ (H2.out.below (by repeat (first | exact Below.refl _ _ | refine Below.drew ?_ | refine Below.alloc ?_ (by first | exact Nat.le_refl _ | (simp; done) | (simp; omega)) _)))).mono ?_; intro e w3 hr3; rw [← HLL.out] at hr3; obtain ⟨rfl, hb3⟩ := hr3; (first | (have H0' := cB H0 (by repeat (first | exact Below.refl _ _ | refine Below.drew ?_ | refine Below.alloc ?_ (by first | exact Nat.le_refl _ | (simp; done) | (simp; omega)) _)) hb3; clear H0; have H0 := H0'; clear H0') | (have H0' := cO H0 (by repeat (first | exact Below.refl _ _ | refine Below.drew ?_ | refine Below.alloc ?_ (by first | exact Nat.le_refl _ | (simp; done) | (simp; omega)) _)) hb3; clear H0; have H0 := H0'; clear H0') | (have H0' := cK H0 (by repeat (first | exact Below.refl _ _ | refine Below.drew ?_ | refine Below.alloc ?_ (by first | exact Nat.le_refl _ | (simp; done) | (simp; omega)) _)) hb3; clear H0; have H0 := H0'; clear H0') | (have H0' := cP H0 (by repeat (first | exact Below.refl _ _ | refine Below.drew ?_ | refine Below.alloc ?_ (by first | exact Nat.le_refl _ | (simp; done) | (simp; omega)) _)) hb3; clear H0; have H0 := H0'; clear H0')); have HP3 := Lib.hid (HP2.out.below hb3); clear hb3 H2 HP2))
  go_wp2_with (first
    | (go_at_call 24; refine (concat_any _ _ _ ps _ (HP3.out.below (by repeat (first | exact Below.refl _ _ | refine Below.drew ?_ | refine Below.alloc ?_ (by first | exact Nat.le_refl _ | (simp; done) | (simp; omega)) _))) hsz).mono ?_; intro e w4 hr4; unfold RetB at hr4; rw [← HF.out] at hr4; obtain ⟨ad4, c4, rfl, ho4, hb4⟩ := hr4; have hg4 : w4.heap[w3.heap.size]? = some (.cells #[.int .u64 x0, .int .u64 x1, .int .u64 x2, .int .u64 x3] 49 (0, 0)) := (hb4.block w3.heap.size (by simp)).trans (heap_alloc_new _ _); have HG0 := Lib.hid H0.out.size; have HST := Lib.hid (show StAt w4 w3.heap.size x0 x1 x2 x3 from hg4); (first | (have H0' := cB H0 (by repeat (first | exact Below.refl _ _ | refine Below.drew ?_ | refine Below.alloc ?_ (by first | exact Nat.le_refl _ | (simp; done) | (simp; omega)) _)) hb4; clear H0; have H0 := H0'; clear H0') | (have H0' := cO H0 (by repeat (first | exact Below.refl _ _ | refine Below.drew ?_ | refine Below.alloc ?_ (by first | exact Nat.le_refl _ | (simp; done) | (simp; omega)) _)) hb4; clear H0; have H0 := H0'; clear H0') | (have H0' := cK H0 (by repeat (first | exact Below.refl _ _ | refine Below.drew ?_ | refine Below.alloc ?_ (by first | exact Nat.le_refl _ | (simp; done) | (simp; omega)) _)) hb4; clear H0; have H0 := H0'; clear H0') | (have H0' := cP H0 (by repeat (first | exact Below.refl _ _ | refine Below.drew ?_ | refine Below.alloc ?_ (by first | exact Nat.le_refl _ | (simp; done) | (simp; omega)) _)) hb4; clear H0; have H0 := H0'; clear H0')); have HBB := Lib.hid (own_form ho4); have H4 := Lib.hid (Bs.of_own ho4); clear hb4 ho4 hg4 HP3))
  have hne : ∀ x, ad4 = some x → w3.heap.size < x.block := by
    intro x hx
    rcases HBB.out with ⟨h, _⟩ | ⟨g, h, h2, _⟩
    · rw [h] at hx; cases hx
    · rw [h] at hx; cases hx; simp at h2; show w3.heap.size < g; omega
  have HNE := Lib.hid hne
  clear hne HBB
  generalize w3.heap.size = g at *
  go_loopw [8] (fun v wr => ∃ (i : Nat) (ad' : Option Addr) (n' c' : Nat), 8 * i ≤ F.length ∧ v = .slice ad' n' c' ∧ Bs wr ad' n' c' (F.drop (8 * i)) ∧ (∀ x, ad' = some x → g < x.block) ∧ (∃ a b c d, (a, b, c, d) = sipI kb F i ∧ Okw (a, b, c, d) ∧ StAt wr g a b c d) ∧ Below w.heap.size w wr) (fun v _ => lenV v)
  case atStart => exact ⟨0, ad4, _, c4, by omega, rfl, by simpa using H4.out, HNE.out, ⟨x0, x1, x2, x3, HS0.out.symm, HO0.out, HST.out⟩, H0.out⟩
  case round =>
    obtain ⟨i, ad5, n5, c5, hi, rfl, hbs, hne5, ⟨a, b, c, d, hs, ho, hst⟩, hb⟩ := hrel
    have hn5 := hbs.len
    have hc5 := hbs.le
    rw [List.length_drop] at hn5
    have HBS := Lib.hid hbs
    have HS := Lib.hid hs
    have HO := Lib.hid ho
    have HT := Lib.hid hst
    have HB := Lib.hid hb
    have HN5 := Lib.hid hn5
    have HNE5 := Lib.hid hne5
    clear hbs hs ho hst hb H4 HST H0 hne5 HNE
    by_cases h8 : (8 : Int) ≤ n5
    · obtain ⟨G, hG⟩ : ∃ G, G = getN (F.drop (8 * i)) false := ⟨_, rfl⟩
      have HG := Lib.hid hG
      clear hG hn5
      have h8n : 8 ≤ n5 := by omega
      have h8c : 8 ≤ c5 := by omega
      go_wp2_with (first
        | (go_at_call 23; refine (get_any _ _ _ _ _ _ HBS.out).mono ?_; intro e w6 hr6; rw [← HG.out] at hr6; obtain ⟨rfl, hb6⟩ := hr6; have HT6 : Hid (StAt w6 g a b c d) := Lib.hid ((hb6.block g (lt_of_block HT.out)).trans HT.out); (first | (have HBS' := cB HBS (by repeat (first | exact Below.refl _ _ | refine Below.drew ?_ | refine Below.alloc ?_ (by first | exact Nat.le_refl _ | (simp; done) | (simp; omega)) _)) hb6; clear HBS; have HBS := HBS'; clear HBS') | (have HBS' := cO HBS (by repeat (first | exact Below.refl _ _ | refine Below.drew ?_ | refine Below.alloc ?_ (by first | exact Nat.le_refl _ | (simp; done) | (simp; omega)) _)) hb6; clear HBS; have HBS := HBS'; clear HBS') | (have HBS' := cK HBS (by repeat (first | exact Below.refl _ _ | refine Below.drew ?_ | refine Below.alloc ?_ (by first | exact Nat.le_refl _ | (simp; done) | (simp; omega)) _)) hb6; clear HBS; have HBS := HBS'; clear HBS') | (have HBS' := cP HBS (by repeat (first | exact Below.refl _ _ | refine Below.drew ?_ | refine Below.alloc ?_ (by first | exact Nat.le_refl _ | (simp; done) | (simp; omega)) _)) hb6; clear HBS; have HBS := HBS'; clear HBS')); have HB6 := Lib.hid (Below.next HB.out HB.out.size (Below.refl _ _) hb6); clear hb6 HB HT)
        | (go_at_call 25; refine (word_any g G a b c d _ HO.out HT6.out).mono ?_; rintro e w7 ⟨rfl, ⟨a7, b7, c7, d7, he7, ho7, hs7⟩, hg7⟩; have HE7 := Lib.hid he7; have HO7 := Lib.hid ho7; have HS7 := Lib.hid hs7; have HB7 := Lib.hid (HB6.out.grown hg7 HB6.out.size (fun k e => by cases e; exact HG0.out)); have HBS7 := Lib.hid (Sl.grown HBS.out hg7 (fun x hx e => by have := HNE5.out x hx; cases e; omega)); clear he7 ho7 hs7 hg7 HBS HB6)
        | ((with_reducible show wpList _ _ _ (⟨some 34, _, _, _, _, _⟩ :: _) _ _); go_must (refine wpL_slice elB rfl (.tmp 33) (some (.const (.int .i64 8))) none rfl rfl 8 n5 (.inr ⟨.i64, rfl⟩) (.inl ⟨rfl, rfl⟩) h8n (by omega) ?_)))
      intro ad6 had6
      have HB6 := HB7
      have hb6 : Bs w7 ad6 (n5 - 8) (c5 - 8) (F.drop (8 * (i + 1))) := by
        have h := Bs.drop8 HBS7.out 8 h8n
        rw [List.drop_drop, ← had6.out, show 8 * i + 8 = 8 * (i + 1) by omega] at h
        exact h
      have HB8 := Lib.hid hb6
      clear hb6
      go_wp2_with fail
      go_roundw
      case rel =>
        refine ⟨i + 1, ad6, n5 - 8, c5 - 8, by have := HN5.out; omega, rfl, HB8.out, ?_, ⟨a7, b7, c7, d7, ?_, HO7.out, HS7.out⟩, HB7.out⟩
        · intro x hx
          rw [had6.out] at hx
          obtain ⟨y, hy, hxy⟩ := subAd_block hx
          rw [hxy]
          exact HNE5.out y hy
        · rw [HE7.out, HS.out, HG.out]
          rfl
      case measure => simp only [lenV]; omega
    · have hi8 : i = F.length / 8 := by have := HN5.out; omega
      obtain ⟨G, hG⟩ : ∃ G, G = getN (F.drop (8 * i)) false := ⟨_, rfl⟩
      obtain ⟨z, hz⟩ : ∃ z, z = orN E G := ⟨_, rfl⟩
      have fz := bits_or E G
      rw [← hz] at fz
      have hzl : z = sipLast F := by
        rw [hz, HE.out, hG, hi8]
        rfl
      have HG := Lib.hid hG
      have HZ := Lib.hid hzl
      clear hG hn5 hz hzl
      go_wp2_with (first
        | (go_at_call 23; refine (get_any _ _ _ _ _ _ HBS.out).mono ?_; intro e w6 hr6; rw [← HG.out] at hr6; obtain ⟨rfl, hb6⟩ := hr6; have HT6 : Hid (StAt w6 g a b c d) := Lib.hid ((hb6.block g (lt_of_block HT.out)).trans HT.out); have HB6 := Lib.hid (Below.next HB.out HB.out.size (Below.refl _ _) hb6); clear hb6 HB HT)
        | (go_at_call 25; refine (word_any g z a b c d _ HO.out HT6.out).mono ?_; rintro e w7 ⟨rfl, ⟨a7, b7, c7, d7, he7, ho7, hs7⟩, hg7⟩; have HE7 := Lib.hid he7; have HO7 := Lib.hid ho7; have HS7 := Lib.hid hs7; have HB7 := Lib.hid (HB6.out.grown hg7 HB6.out.size (fun k e => by cases e; exact HG0.out)); obtain ⟨p0, p1, p2, p3, q0, q1, q2, q3⟩ := hs7.cells; have cx := xorC c7 255 _ rfl; clear he7 ho7 hs7 hg7 HB6))
      have hS8 : StAt (w7.setCell ⟨g, 2, none⟩ (.int .u64 (xorN c7 255))) g a7 b7 (xorN c7 255) d7 := HS7.out.set 2 _
      have hG8 := grown_set w7 g 2 (.int .u64 (xorN c7 255))
      have hB8 := HB7.out.grown hG8 HB7.out.size (fun k e => by cases e; exact HG0.out)
      generalize w7.setCell ⟨g, 2, none⟩ (.int .u64 (xorN c7 255)) = w8 at hS8 hG8 hB8 ⊢
      have ho8 : Okw (a7, b7, xorN c7 255, d7) := ⟨HO7.out.1, HO7.out.2.1, xorN_lt _ _, HO7.out.2.2.2⟩
      have HR := Lib.hid (rounds_any g 4 a7 b7 (xorN c7 255) d7 w8 (by omega) ho8 hS8)
      have HB8 := Lib.hid hB8
      clear hS8 hG8 hB8 ho8 p0 p1 p2 p3 q0 q1 q2 q3
      go_wp2_with (first
        | (go_at_call 26; refine HR.out.mono ?_; rintro e w9 ⟨rfl, ⟨a9, b9, c9, d9, he9, ho9, hs9⟩, hg9⟩; have HE9 := Lib.hid he9; have HB9 := Lib.hid (HB8.out.grown hg9 HB8.out.size (fun k e => by cases e; exact HG0.out)); obtain ⟨p0, p1, p2, p3, q0, q1, q2, q3⟩ := hs9.cells; clear he9 ho9 hs9 hg9))
      have y1 := bits_xor a9 b9
      have y2 := bits_xor (xorN a9 b9) c9
      have y3 := bits_xor (xorN (xorN a9 b9) c9) d9
      have hfin : xorN (xorN (xorN a9 b9) c9) d9 = sipN kb F := by
        have e9 : (a9, b9, c9, d9) = Nat.repeat roundN 4 (a7, b7, xorN c7 255, d7) := HE9.out
        have e7 : (a7, b7, c7, d7) = wordN (sipI kb F (F.length / 8)) (sipLast F) := by rw [HE7.out, HS.out, HZ.out, hi8]
        unfold sipN sipEnd
        rw [← e7]
        show _ = xorN (xorN (xorN (Nat.repeat roundN 4 (a7, b7, xorN c7 255, d7)).1 (Nat.repeat roundN 4 (a7, b7, xorN c7 255, d7)).2.1) (Nat.repeat roundN 4 (a7, b7, xorN c7 255, d7)).2.2.1) (Nat.repeat roundN 4 (a7, b7, xorN c7 255, d7)).2.2.2
        rw [← e9]
      have HFIN := Lib.hid hfin
      clear hfin
      go_quiet (fail)
      go_wp2_with fail
      go_ret
      exact ⟨by rw [← HFIN.out]; rfl, HB9.out.trans ⟨rfl, rfl, rfl, Nat.le_refl _, fun _ _ => rfl⟩⟩
end Go.Proofs.Ytndmpphkgcjnkaa
