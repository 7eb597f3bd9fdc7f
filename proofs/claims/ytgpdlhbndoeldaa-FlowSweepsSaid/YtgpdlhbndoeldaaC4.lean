/-
  Joined by program (merge.py): Flo7, Flo8, Slot, Flo9, Flo10, Fk2, Flo11, Rng, RngK, Flo12.
-/
import Derived.Lib.BytesEntry
import Derived.Deep.RegionHeld
import Derived.OrdersHeld
import Derived.Test.YtgpdlhbndoeldaaC1
import Derived.Test.YtgpdlhbndoeldaaC2
import Derived.Test.YtgpdlhbndoeldaaC3
/-
  Chapter 21: the age of flows, walked.
-/
namespace Go.Proofs.Ytgpdlhbndoeldaa
open Go.RowKit Go.Sort
set_option linter.unusedVariables false
set_option linter.unusedSimpArgs false
set_option maxRecDepth 100000
set_option maxHeartbeats 4000000

theorem bytesOf_list (l : List UInt8) : Lib.bytesOf (l.map fun b : UInt8 => (b.toNat : Int)) = l := by
  unfold Lib.bytesOf
  rw [List.map_map]
  conv => rhs; rw [← List.map_id l]
  refine List.map_congr_left fun x _ => ?_
  simp
theorem run_extBytes (w : World) (ad : Option Addr) (n c : Nat) (l : List UInt8) (hs : Bs w ad n c l) (hl : 0 < l.length) : (Extern.Bytes.bytesOf (.slice ad n c)).run Try.prog w = .ok ⟨l.toArray⟩ w := by
  obtain ⟨b, off, rfl, hb, hc⟩ := hs.at (j := 0) hl
  have hn : n = l.length := hs.len
  have h := Lib.run_loadBytesX (P := Try.prog) w (l.map fun b : UInt8 => (b.toNat : Int)) ⟨b, off, none⟩ .empty (fun j x hj => by
    rw [List.getElem?_map] at hj
    obtain ⟨y, hy, rfl⟩ := Option.map_eq_some_iff.1 hj
    have hjl := (List.getElem?_eq_some_iff.1 hy).1
    rw [addr_add, hc j hjl, at8_get l j hjl, ← (List.getElem?_eq_some_iff.1 hy).2])
  rw [List.length_map, ← hn, bytesOf_list] at h
  unfold Extern.Bytes.bytesOf
  rw [h]
  congr 2
  exact Array.empty_append
theorem call_cmp (w : World) (ad ad' : Option Addr) (n c n' c' : Nat) (l l' : List UInt8) (hs : Bs w ad n c l) (hs' : Bs w ad' n' c' l') (hl : 0 < l.length) (he : l.length = l'.length) :
    (callFunc 60 #[.slice ad n c, .slice ad' n' c']).run Try.prog w = .ok (.value (.int .i64 (cmpB l l'))) w := by
  rw [run_callFunc_extern Try.func60 (by kernel_rfl) (by kernel_rfl) (by kernel_rfl) (e := Extern.BytealgCompare.compare) (by kernel_rfl)]
  rw [show Extern.BytealgCompare.compare #[.slice ad n c, .slice ad' n' c'] = (do pure (goInt (Extern.BytealgCompare.cmp (← Extern.Bytes.bytesOf (.slice ad n c)) (← Extern.Bytes.bytesOf (.slice ad' n' c'))))) from rfl]
  simp only [Sem.run_bind, run_extBytes w ad n c l hs hl, run_extBytes w ad' n' c' l' hs' (by omega), Result.andThen_ok, Sem.run_pure, cmp_ext l l' he]
  rfl
theorem compare_any (ad ad' : Option Addr) (n c n' c' : Nat) (l l' : List UInt8) (w : World) (hs : Bs w ad n c l) (hs' : Bs w ad' n' c' l') (hl : 0 < l.length) (he : l.length = l'.length) :
    Calls Try.prog 49 #[.slice ad n c, .slice ad' n' c'] w fun e w' => e = .returned (.int .i64 (cmpB l l')) ∧ w = w' := by
  have h := call_cmp w ad ad' n c n' c' l l' hs hs' hl he
  clear hs hs'
  go_enter Try.func49, Try.ntmps49
  go_wp2_with fail
  go_ret
  exact ⟨rfl, rfl⟩
theorem Tup.bytes_length {t : Tup} (ho : t.ok) : t.bytes.length = 38 := by have := ho.1; have := ho.2; simp [Tup.bytes, be16, putL_length, sizeOf8]; omega
theorem bytes38 (t : Tup) (ho : t.ok) (w : World) : Calls Try.prog 50 #[.agg t.cells.toArray] w fun e w' => ∃ ad c, e = .returned (.slice ad 38 c) ∧ w'.ownsRow w.heap.size 5 1 (.slice ad 38 c) 38 (BV t.bytes) ∧ Below w.heap.size w w' :=
  (bytes_any t ho w).mono fun e w' h => by
    obtain ⟨ad, c, he, ho', hb⟩ := h
    rw [Tup.bytes_length ho] at he ho'
    exact ⟨ad, c, he, ho', hb⟩
/-- the age, of flows whose numbers are none below 0 and not too great -/
theorem order_any (a b : Flo) (ha : a.ok) (hb : b.ok) (na : 0 ≤ a.no ∧ a.no ≤ 1152921504606846976) (nb : 0 ≤ b.no ∧ b.no ≤ 1152921504606846976) (w : World) :
    Calls Try.prog 36 #[.agg a.cells.toArray, .agg b.cells.toArray] w fun e w' => e = .returned (.int .i64 (ordF a b)) ∧ Below w.heap.size w w' := by
  have HB := Lib.hid (Below.refl w.heap.size w)
  have HA1 := Lib.hid (Flo.geta ha)
  have HA2 := Lib.hid (Flo.geta hb)
  have HS1 := Lib.hid (Flo.tup ha)
  have HS2 := Lib.hid (Flo.tup hb)
  have HL1 := Lib.hid ha.1
  have HL2 := Lib.hid hb.1
  have HI1 : Hid ((Try.prog.info? 26).map (·.size) = some a.key.cells.length) := Lib.hid (by rw [Tup.length ha.1]; exact tup_size)
  have HI2 : Hid ((Try.prog.info? 26).map (·.size) = some b.key.cells.length) := Lib.hid (by rw [Tup.length hb.1]; exact tup_size)
  obtain ⟨R, hR⟩ : ∃ R, R = ordF a b := ⟨_, rfl⟩
  rw [← hR]
  obtain ⟨x, hx⟩ : ∃ x, x = a.no := ⟨_, rfl⟩
  obtain ⟨y, hy⟩ : ∃ y, y = b.no := ⟨_, rfl⟩
  unfold ordF at hR
  rw [← hx, ← hy] at hR
  rw [← hx] at na HA1
  rw [← hy] at nb HA2
  have hwr : IntKind.i64.wrap (x - y) = x - y := by rw [IntKind.wrap_i64]; omega
  clear ha hb hx hy
  go_enter Try.func36, Try.ntmps36
  by_cases hne : x = y
  · subst hne
    have HR : Hid (R = cmpB a.key.bytes b.key.bytes) := Lib.hid (by rw [hR, if_neg (by simp)])
    clear hR na nb hwr
    go_wp2_with (first
      | ((with_reducible refine sl 2 ?_); go_must (refine wpL_boxG rfl 28 (.tmp 0) rfl a.cells.toArray rfl ?_); intro w1 g2 he__ le_g2 lt_g2 hg__ hb__; have HG2 := Lib.hid hg__; have hE__ := cU HB bup hb__; replace HB := ck HB hE__; clear hE__; clear hg__ hb__ he__; simp only [PT])
      | ((with_reducible refine sl 3 ?_); go_must (refine wpL_boxG rfl 28 (.tmp 1) rfl b.cells.toArray rfl ?_); intro w2 g3 he__ le_g3 lt_g3 hg__ hb__; have HG3 := Lib.hid hg__; have hE__ := cU HB bup hb__; replace HB := ck HB hE__; replace HG2 := ck HG2 hE__; clear hE__; clear hg__ hb__ he__; simp only [PT])
      | ((with_reducible refine sl 6 ?_); go_must (refine wpL_loadF rfl 3 (.tmp 5) rfl g2 40 rfl (.int .i64 x) HG2.out HA1.out.2.2.2 Try.underlying3 rfl ?_); simp only [PT])
      | ((with_reducible refine sl 8 ?_); go_must (refine wpL_loadF rfl 3 (.tmp 7) rfl g3 40 rfl (.int .i64 x) HG3.out HA2.out.2.2.2 Try.underlying3 rfl ?_); simp only [PT]))
    have HE := Lib.hid (Below.refl w2.heap.size w2)
    have HR2 := Lib.hid (range_sub HG2.out HS1.out)
    have HR3 := Lib.hid (range_sub HG3.out HS2.out)
    have lt2 := lt_of_block HG2.out
    have lt3 := lt_of_block HG3.out
    refine wp_region_held_drew (S := fun v => v.rangeAt g2 0 a.key.cells ∧ v.rangeAt g3 0 b.key.cells) (by kernel_rfl) ?_ (fun hHeld => ?_)
    focus (exact ⟨range_below HR2.out lt2 (HE.out.trans (Below.mono bup HE.out.size)), range_below HR3.out lt3 (HE.out.trans (Below.mono bup HE.out.size))⟩)
    refine tk 0 (oi := ⟨some 15, _, _, _, _, _⟩) (v := ?_) rfl (by kernel_rfl) (.inl ⟨by rfl, ?_⟩) hHeld ?_; rotate_left; focus (intro w hSw; (try dsimp only at hSw); go_simp; try with_reducible rfl)
    simp only [PT]
    refine' tk 1 (oi := ⟨some 16, _, _, _, _, _⟩) (v := _) rfl (by kernel_rfl) (yieldsIf_load_mid (by rfl) _ _ rfl _ _ rfl (a.key.cells) _ (fun v hv => hv.1) (Try.underlying26) rfl (HI1.out)) hHeld ?_
    simp only [PT]
    refine tk 3 (oi := ⟨some 18, _, _, _, _, _⟩) (v := ?_) rfl (by kernel_rfl) (.inl ⟨by rfl, ?_⟩) hHeld ?_; rotate_left; focus (intro w hSw; (try dsimp only at hSw); go_simp; try with_reducible rfl)
    simp only [PT]
    refine' tk 4 (oi := ⟨some 19, _, _, _, _, _⟩) (v := _) rfl (by kernel_rfl) (yieldsIf_load_mid (by rfl) _ _ rfl _ _ rfl (b.key.cells) _ (fun v hv => hv.2) (Try.underlying26) rfl (HI2.out)) hHeld ?_
    simp only [PT]
    refine wpAnyH_ready (rs := [2]) (by kernel_rfl) (by simp) ?_
    refine (AllReadyH.cons (o := ⟨some 17, _, _, _, _, _⟩) rfl (fun K hK => ?_) AllReadyH.nil)
    focus (go_simp; go_must (refine (bytes38 a.key HL1.out _).mono ?_); rintro e w4 ⟨ad4, c4, rfl, ho4, hb4⟩; (try replace H5 := cOa H5 bup hb4); have H4 := Lib.hid ho4; replace HE := cE0 HE bup hb4; clear hb4 ho4; go_wp2_with fail)
    refine hK.out _ _ ?_ (fun hHeld => ?_)
    focus (exact ⟨range_below HR2.out lt2 (HE.out.trans (Below.mono bup HE.out.size)), range_below HR3.out lt3 (HE.out.trans (Below.mono bup HE.out.size))⟩)
    clear hK K
    try simp only [PT]
    refine wpAnyH_ready (rs := [5]) (by kernel_rfl) (by simp) ?_
    refine (AllReadyH.cons (o := ⟨some 20, _, _, _, _, _⟩) rfl (fun K hK => ?_) AllReadyH.nil)
    focus (go_simp; go_must (refine (bytes38 b.key HL2.out _).mono ?_); rintro e w5 ⟨ad5, c5, rfl, ho5, hb5⟩; (try replace H4 := cOa H4 bup hb5); have H5 := Lib.hid ho5; replace HE := cE0 HE bup hb5; clear hb5 ho5; go_wp2_with fail)
    refine hK.out _ _ ?_ (fun hHeld => ?_)
    focus (exact ⟨range_below HR2.out lt2 (HE.out.trans (Below.mono bup HE.out.size)), range_below HR3.out lt3 (HE.out.trans (Below.mono bup HE.out.size))⟩)
    clear hK K
    try simp only [PT]
    refine wpAnyH_ready (rs := [6]) (by kernel_rfl) (by simp) ?_
    refine (AllReadyH.cons (o := ⟨some 21, _, _, _, _, _⟩) rfl (fun K hK => ?_) AllReadyH.nil)
    focus (go_simp; go_must (refine (compare_any ad4 ad5 38 c4 38 c5 a.key.bytes b.key.bytes _ ((Bs.of_own H4.out).below bup) ((Bs.of_own H5.out).below bup) (by rw [Tup.bytes_length HL1.out]; omega) (by rw [Tup.bytes_length HL1.out, Tup.bytes_length HL2.out])).mono ?_); rintro e w6 ⟨rfl, rfl⟩; rw [← HR.out]; go_wp2_with fail)
    refine hK.out _ _ ?_ (fun hHeld => ?_)
    focus (exact ⟨range_below HR2.out lt2 (HE.out.trans (Below.mono bup HE.out.size)), range_below HR3.out lt3 (HE.out.trans (Below.mono bup HE.out.size))⟩)
    clear hK K
    try simp only [PT]
    refine tk 7 (oi := ⟨some 4, _, _, _, _, _⟩) (v := ?_) rfl (by kernel_rfl) (.inl ⟨by rfl, ?_⟩) hHeld ?_; rotate_left; focus (intro w hSw; (try dsimp only at hSw); go_simp; try with_reducible rfl)
    simp only [PT]
    refine wpAnyH_done (by kernel_rfl) ?_ _
    all_goals
      go_wp2_with fail
      go_ret
      exact ⟨rfl, HB.out.trans (HE.out.mono HB.out.size)⟩
  · have hn : (x != y) = true := by simpa using hne
    have HR : Hid (R = x - y) := Lib.hid (by rw [hR, if_pos hne])
    clear hR na nb hne
    go_wp2_with (first
      | ((with_reducible refine sl 2 ?_); go_must (refine wpL_boxG rfl 28 (.tmp 0) rfl a.cells.toArray rfl ?_); intro w1 g2 he__ le_g2 lt_g2 hg__ hb__; have HG2 := Lib.hid hg__; have hE__ := cU HB bup hb__; replace HB := ck HB hE__; clear hE__; clear hg__ hb__ he__; simp only [PT])
      | ((with_reducible refine sl 3 ?_); go_must (refine wpL_boxG rfl 28 (.tmp 1) rfl b.cells.toArray rfl ?_); intro w2 g3 he__ le_g3 lt_g3 hg__ hb__; have HG3 := Lib.hid hg__; have hE__ := cU HB bup hb__; replace HB := ck HB hE__; replace HG2 := ck HG2 hE__; clear hE__; clear hg__ hb__ he__; simp only [PT])
      | ((with_reducible refine sl 6 ?_); go_must (refine wpL_loadF rfl 3 (.tmp 5) rfl g2 40 rfl (.int .i64 x) HG2.out HA1.out.2.2.2 Try.underlying3 rfl ?_); simp only [PT])
      | ((with_reducible refine sl 8 ?_); go_must (refine wpL_loadF rfl 3 (.tmp 7) rfl g3 40 rfl (.int .i64 y) HG3.out HA2.out.2.2.2 Try.underlying3 rfl ?_); simp only [PT])
      | ((with_reducible refine sl 11 ?_); go_must (refine wpL_loadF rfl 3 (.tmp 10) rfl g2 40 rfl (.int .i64 x) HG2.out HA1.out.2.2.2 Try.underlying3 rfl ?_); simp only [PT])
      | ((with_reducible refine sl 13 ?_); go_must (refine wpL_loadF rfl 3 (.tmp 12) rfl g3 40 rfl (.int .i64 y) HG3.out HA2.out.2.2.2 Try.underlying3 rfl ?_); simp only [PT]))
    go_ret
    rw [HR.out]
    exact ⟨rfl, HB.out⟩
theorem older_any (a b : Flo) (ha : a.ok) (hb : b.ok) (na : 0 ≤ a.no ∧ a.no ≤ 1152921504606846976) (nb : 0 ≤ b.no ∧ b.no ≤ 1152921504606846976) (w : World) :
    Calls Try.prog 15 #[.agg a.cells.toArray, .agg b.cells.toArray] w fun e w' => e = .returned (.bool (oldF a b)) ∧ Below w.heap.size w w' := by
  have HB := Lib.hid (Below.refl w.heap.size w)
  have HI1 : Hid ((Try.prog.info? 28).map (·.size) = some a.cells.length) := Lib.hid (by rw [Flo.length ha]; exact flo_size)
  have HI2 : Hid ((Try.prog.info? 28).map (·.size) = some b.cells.length) := Lib.hid (by rw [Flo.length hb]; exact flo_size)
  have HO := Lib.hid (And.intro ha (And.intro hb (And.intro na nb)))
  have hd := ordF_neg a b
  obtain ⟨R, hR⟩ : ∃ R, R = ordF a b := ⟨_, rfl⟩
  rw [← hR] at hd
  have HR := Lib.hid hR
  clear ha hb na nb hR
  go_enter Try.func15, Try.ntmps15
  go_wp2_with (first
    | ((with_reducible refine sl 2 ?_); go_must (refine wpL_boxG rfl 28 (.tmp 0) rfl a.cells.toArray rfl ?_); intro w1 g2 he__ le_g2 lt_g2 hg__ hb__; have HG2 := Lib.hid hg__; have hE__ := cU HB bup hb__; replace HB := ck HB hE__; clear hE__; clear hg__ hb__ he__; simp only [PT])
    | ((with_reducible refine sl 3 ?_); go_must (refine wpL_boxG rfl 28 (.tmp 1) rfl b.cells.toArray rfl ?_); intro w2 g3 he__ le_g3 lt_g3 hg__ hb__; have HG3 := Lib.hid hg__; have hE__ := cU HB bup hb__; replace HB := ck HB hE__; replace HG2 := ck HG2 hE__; clear hE__; clear hg__ hb__ he__; simp only [PT])
    | ((with_reducible refine sl 5 ?_); go_must (refine wpL_load rfl 28 (.tmp 2) rfl g2 0 rfl a.cells _ (range_block HG2.out) Try.underlying28 rfl HI1.out ?_); simp only [PT])
    | ((with_reducible refine sl 6 ?_); go_must (refine wpL_load rfl 28 (.tmp 3) rfl g3 0 rfl b.cells _ (range_block HG3.out) Try.underlying28 rfl HI2.out ?_); simp only [PT])
    | (go_at_call 36; refine (order_any a b HO.out.1 HO.out.2.1 HO.out.2.2.1 HO.out.2.2.2 _).mono ?_; rw [← HR.out]; rintro e w4 ⟨rfl, hb4⟩; have hE__ := cU HB bup hb4; replace HB := ck HB hE__; clear hE__; clear hb4))
  go_ret
  exact ⟨rfl, HB.out⟩
end Go.Proofs.Ytgpdlhbndoeldaa
/-
  Chapter 21: the document's age of flows, walked.
-/
namespace Go.Proofs.Ytgpdlhbndoeldaa
open Go.RowKit Go.Sort
set_option linter.unusedVariables false
set_option linter.unusedSimpArgs false
set_option maxRecDepth 100000
set_option maxHeartbeats 4000000

theorem refBytes38 (t : Tup) (ho : t.ok) (hf : t.fit = true) (w : World) : Calls Try.prog 37 #[.agg t.cells.toArray] w fun e w' => ∃ ad c, e = .returned (.slice ad 38 c) ∧ w'.ownsRow w.heap.size 5 1 (.slice ad 38 c) 38 (BV t.bytes) ∧ Below w.heap.size w w' :=
  (refBytes_any t ho hf w).mono fun e w' h => by
    obtain ⟨ad, c, he, ho', hb⟩ := h
    rw [Tup.bytes_length ho] at he ho'
    exact ⟨ad, c, he, ho', hb⟩
theorem ltB_drop {A B : List UInt8} {j : Nat} (ha : j < A.length) (hb : j < B.length) : ltB (A.drop j) (B.drop j) = if at8 A j = at8 B j then ltB (A.drop (j + 1)) (B.drop (j + 1)) else decide (at8 A j < at8 B j) := by
  rw [List.drop_eq_getElem_cons ha, List.drop_eq_getElem_cons hb, at8_get A j ha, at8_get B j hb]
  rfl
theorem refOlder_any (a b : Flo) (ha : a.ok) (hb : b.ok) (fa : a.key.fit = true) (fb : b.key.fit = true) (w : World) :
    Calls Try.prog 16 #[.agg a.cells.toArray, .agg b.cells.toArray] w fun e w' => e = .returned (.bool (oldF a b)) ∧ Below w.heap.size w w' := by
  have HB := Lib.hid (Below.refl w.heap.size w)
  have HA1 := Lib.hid (Flo.geta ha)
  have HA2 := Lib.hid (Flo.geta hb)
  have HS1 := Lib.hid (Flo.tup ha)
  have HS2 := Lib.hid (Flo.tup hb)
  have HL1 := Lib.hid (And.intro ha.1 fa)
  have HL2 := Lib.hid (And.intro hb.1 fb)
  have HI1 : Hid ((Try.prog.info? 26).map (·.size) = some a.key.cells.length) := Lib.hid (by rw [Tup.length ha.1]; exact tup_size)
  have HI2 : Hid ((Try.prog.info? 26).map (·.size) = some b.key.cells.length) := Lib.hid (by rw [Tup.length hb.1]; exact tup_size)
  obtain ⟨R, hR⟩ : ∃ R, R = oldF a b := ⟨_, rfl⟩
  rw [← hR]
  obtain ⟨x, hx⟩ : ∃ x, x = a.no := ⟨_, rfl⟩
  obtain ⟨y, hy⟩ : ∃ y, y = b.no := ⟨_, rfl⟩
  unfold oldF at hR
  rw [← hx, ← hy] at hR
  rw [← hx] at HA1
  rw [← hy] at HA2
  clear ha hb hx hy fa fb
  go_enter Try.func16, Try.ntmps16
  by_cases hne : x = y
  · subst hne
    obtain ⟨A, hA⟩ : ∃ A, A = a.key.bytes := ⟨_, rfl⟩
    obtain ⟨B, hB⟩ : ∃ B, B = b.key.bytes := ⟨_, rfl⟩
    have lA : A.length = 38 := by rw [hA]; exact Tup.bytes_length HL1.out.1
    have lB : B.length = 38 := by rw [hB]; exact Tup.bytes_length HL2.out.1
    have HR : Hid (R = ltB A B) := Lib.hid (by rw [hR, if_neg (by simp), hA, hB])
    have EA := Lib.hid hA
    have EB := Lib.hid hB
    have LA := Lib.hid lA
    have LB := Lib.hid lB
    clear hR hA hB lA lB
    go_wp2_with (first
      | ((with_reducible refine sl 2 ?_); go_must (refine wpL_boxG rfl 28 (.tmp 0) rfl a.cells.toArray rfl ?_); intro w1 g2 he__ le_g2 lt_g2 hg__ hb__; have HG2 := Lib.hid hg__; have hE__ := cU HB bup hb__; replace HB := ck HB hE__; clear hE__; clear hg__ hb__ he__; simp only [PT])
      | ((with_reducible refine sl 3 ?_); go_must (refine wpL_boxG rfl 28 (.tmp 1) rfl b.cells.toArray rfl ?_); intro w2 g3 he__ le_g3 lt_g3 hg__ hb__; have HG3 := Lib.hid hg__; have hE__ := cU HB bup hb__; replace HB := ck HB hE__; replace HG2 := ck HG2 hE__; clear hE__; clear hg__ hb__ he__; simp only [PT])
      | ((with_reducible refine sl 9 ?_); go_must (refine wpL_loadF rfl 3 (.tmp 8) rfl g2 40 rfl (.int .i64 x) HG2.out HA1.out.2.2.2 Try.underlying3 rfl ?_); simp only [PT])
      | ((with_reducible refine sl 11 ?_); go_must (refine wpL_loadF rfl 3 (.tmp 10) rfl g3 40 rfl (.int .i64 x) HG3.out HA2.out.2.2.2 Try.underlying3 rfl ?_); simp only [PT])
      | ((with_reducible refine sl 19 ?_); go_must (refine wpL_load rfl 26 (.tmp 18) rfl g2 0 rfl a.key.cells _ (range_sub HG2.out HS1.out) Try.underlying26 rfl HI1.out ?_); simp only [PT])
      | ((with_reducible refine sl 22 ?_); go_must (refine wpL_load rfl 26 (.tmp 21) rfl g3 0 rfl b.key.cells _ (range_sub HG3.out HS2.out) Try.underlying26 rfl HI2.out ?_); simp only [PT])
      | (go_at_call 37; (with_reducible show Calls _ _ #[.agg a.key.cells.toArray] _ _); go_must (refine (refBytes38 a.key HL1.out.1 HL1.out.2 _).mono ?_); rintro e w4 ⟨ad4, c4, rfl, ho4, hb4⟩; rw [← EA.out] at ho4; have H4 := Lib.hid (Bs.of_own ho4); have hE__ := cU HB bup hb4; replace HB := ck HB hE__; replace HG3 := ck HG3 hE__; clear hE__; clear hb4 ho4)
      | (go_at_call 37; (with_reducible show Calls _ _ #[.agg b.key.cells.toArray] _ _); go_must (refine (refBytes38 b.key HL2.out.1 HL2.out.2 _).mono ?_); rintro e w5 ⟨ad5, c5, rfl, ho5, hb5⟩; rw [← EB.out] at ho5; have H5 := Lib.hid (Bs.of_own ho5); have hE__ := cU HB bup hb5; replace HB := ck HB hE__; replace H4 := ck H4 hE__; clear hE__; clear hb5 ho5))
    obtain ⟨b4, o4, had4, _, hc4⟩ := H4.out.at (j := 0) (by rw [LA.out]; omega)
    obtain ⟨b5, o5, had5, _, hc5⟩ := H5.out.at (j := 0) (by rw [LB.out]; omega)
    subst had4
    subst had5
    have HC4 := Lib.hid hc4
    have HC5 := Lib.hid hc5
    clear hc4 hc5 H4 H5
    go_loopw [7] (fun i wr => ∃ j : Nat, j ≤ 38 ∧ i = .int .i64 j ∧ Hid (R = ltB (A.drop j) (B.drop j)) ∧ Below w5.heap.size w5 wr) (fun i _ => 39 - (intOf i).toNat)
    case atStart => exact ⟨0, by omega, rfl, Lib.hid (by rw [List.drop_zero, List.drop_zero]; exact HR.out), bup⟩
    case round =>
      obtain ⟨j, hj, rfl, hrr, hb⟩ := hrel
      have HE := Lib.hid hb
      clear hb
      by_cases hlt : (j : Int) < 38
      · have hj38 : j < 38 := by omega
        have hc4 := HC4.out j (by rw [LA.out]; exact hj38)
        have hc5 := HC5.out j (by rw [LB.out]; exact hj38)
        have hs := ltB_drop (A := A) (B := B) (j := j) (by rw [LA.out]; exact hj38) (by rw [LB.out]; exact hj38)
        rw [← hrr.out] at hs
        obtain ⟨p, hp⟩ : ∃ p, p = at8 A j := ⟨_, rfl⟩
        obtain ⟨q, hq⟩ : ∃ q, q = at8 B j := ⟨_, rfl⟩
        rw [← hp] at hc4 hs
        rw [← hq] at hc5 hs
        have C4 := Lib.hid hc4
        have C5 := Lib.hid hc5
        have lt4 := World.block_lt_of_cell? w5 _ hc4
        have lt5 := World.block_lt_of_cell? w5 _ hc5
        clear hp hq hc4 hc5 hrr
        rcases Decidable.em (p = q) with he | he
        · subst he
          rw [if_pos rfl] at hs
          have HS := Lib.hid hs
          clear hs
          go_wp2_with fail
          refine wp_region_held_drew (S := fun v => v.cell? ⟨b4, o4 + j, none⟩ = some (.int .u8 (p.toNat : Int)) ∧ v.cell? ⟨b5, o5 + j, none⟩ = some (.int .u8 (p.toNat : Int))) (by kernel_rfl) ?_ (fun hHeld => ?_)
          focus (exact ⟨((HE.out.trans (Below.mono bup HE.out.size)).cell (p := ⟨b4, o4 + j, none⟩) lt4).trans C4.out, ((HE.out.trans (Below.mono bup HE.out.size)).cell (p := ⟨b5, o5 + j, none⟩) lt5).trans C5.out⟩)
          refine tk 0 (oi := ⟨some 30, _, _, _, _, _⟩) (v := ?_) rfl (by kernel_rfl) (.inl ⟨by rfl, ?_⟩) hHeld ?_; rotate_left; focus (intro w hSw; (try dsimp only at hSw); go_simp; try with_reducible rfl)
          simp only [PT]
          refine tk 1 (oi := ⟨some 31, _, _, _, _, _⟩) (v := ?_) rfl (by kernel_rfl) (.inl ⟨by rfl, ?_⟩) hHeld ?_; rotate_left; focus (intro w hSw; (try dsimp only at hSw); go_simp; try with_reducible rfl)
          simp only [PT]
          refine tk 2 (oi := ⟨some 32, _, _, _, _, _⟩) (v := ?_) rfl (by kernel_rfl) (.inl ⟨by rfl, ?_⟩) hHeld ?_; rotate_left; focus (intro w hSw; (try dsimp only at hSw); go_simp; try with_reducible rfl)
          simp only [PT]
          refine tk 3 (oi := ⟨some 33, _, _, _, _, _⟩) (v := ?_) rfl (by kernel_rfl) (.inl ⟨by rfl, ?_⟩) hHeld ?_; rotate_left; focus (intro w hSw; (try dsimp only at hSw); go_simp; try with_reducible rfl)
          simp only [PT]
          refine tk 4 (oi := ⟨some 34, _, _, _, _, _⟩) (v := ?_) rfl (by kernel_rfl) (.inl ⟨by rfl, ?_⟩) hHeld ?_; rotate_left; focus (intro w hSw; (try dsimp only at hSw); go_simp; try with_reducible rfl)
          simp only [PT]
          refine tk 5 (oi := ⟨some 35, _, _, _, _, _⟩) (v := ?_) rfl (by kernel_rfl) (.inl ⟨by rfl, ?_⟩) hHeld ?_; rotate_left; focus (intro w hSw; (try dsimp only at hSw); go_simp; try with_reducible rfl)
          simp only [PT]
          refine tk 6 (oi := ⟨some 36, _, _, _, _, _⟩) (v := ?_) rfl (by kernel_rfl) (.inl ⟨by rfl, ?_⟩) hHeld ?_; rotate_left; focus (intro w hSw; (try dsimp only at hSw); go_simp; try with_reducible rfl)
          simp only [PT]
          refine tk 7 (oi := ⟨some 37, _, _, _, _, _⟩) (v := ?_) rfl (by kernel_rfl) (.inl ⟨by rfl, ?_⟩) hHeld ?_; rotate_left; focus (intro w hSw; (try dsimp only at hSw); go_simp; try with_reducible rfl)
          simp only [PT]
          refine tk 8 (oi := ⟨some 38, _, _, _, _, _⟩) (v := ?_) rfl (by kernel_rfl) (.inl ⟨by rfl, ?_⟩) hHeld ?_; rotate_left; focus (intro w hSw; (try dsimp only at hSw); go_simp; try with_reducible rfl)
          simp only [PT]
          refine wpAnyH_done (by kernel_rfl) ?_ _
          go_wp2_with fail
          go_roundw
          case rel => exact ⟨j + 1, by omega, by go_num, HS, HE.out.trans (Below.mono bup HE.out.size)⟩
          case measure => simp [intOf]; omega
        · rw [if_neg he] at hs
          have hnn : ((p.toNat : Int) != (q.toNat : Int)) = true := by
            have : p.toNat ≠ q.toNat := fun h => he (UInt8.toNat_inj.1 h)
            simp; omega
          have hll : decide ((p.toNat : Int) < (q.toNat : Int)) = R := by
            rw [hs]
            refine decide_eq_decide.2 ?_
            rw [UInt8.lt_iff_toNat_lt]
            omega
          have HLL : Hid (decide (p.toNat < q.toNat) = R) := Lib.hid (by rw [← hll]; refine decide_eq_decide.2 ?_; omega)
          clear hs
          go_wp2_with fail
          refine wp_region_held_drew (S := fun v => v.cell? ⟨b4, o4 + j, none⟩ = some (.int .u8 (p.toNat : Int)) ∧ v.cell? ⟨b5, o5 + j, none⟩ = some (.int .u8 (q.toNat : Int))) (by kernel_rfl) ?_ (fun hHeld => ?_)
          focus (exact ⟨((HE.out.trans (Below.mono bup HE.out.size)).cell (p := ⟨b4, o4 + j, none⟩) lt4).trans C4.out, ((HE.out.trans (Below.mono bup HE.out.size)).cell (p := ⟨b5, o5 + j, none⟩) lt5).trans C5.out⟩)
          refine tk 0 (oi := ⟨some 30, _, _, _, _, _⟩) (v := ?_) rfl (by kernel_rfl) (.inl ⟨by rfl, ?_⟩) hHeld ?_; rotate_left; focus (intro w hSw; (try dsimp only at hSw); go_simp; try with_reducible rfl)
          simp only [PT]
          refine tk 1 (oi := ⟨some 31, _, _, _, _, _⟩) (v := ?_) rfl (by kernel_rfl) (.inl ⟨by rfl, ?_⟩) hHeld ?_; rotate_left; focus (intro w hSw; (try dsimp only at hSw); go_simp; try with_reducible rfl)
          simp only [PT]
          refine tk 2 (oi := ⟨some 32, _, _, _, _, _⟩) (v := ?_) rfl (by kernel_rfl) (.inl ⟨by rfl, ?_⟩) hHeld ?_; rotate_left; focus (intro w hSw; (try dsimp only at hSw); go_simp; try with_reducible rfl)
          simp only [PT]
          refine tk 3 (oi := ⟨some 33, _, _, _, _, _⟩) (v := ?_) rfl (by kernel_rfl) (.inl ⟨by rfl, ?_⟩) hHeld ?_; rotate_left; focus (intro w hSw; (try dsimp only at hSw); go_simp; try with_reducible rfl)
          simp only [PT]
          refine tk 4 (oi := ⟨some 34, _, _, _, _, _⟩) (v := ?_) rfl (by kernel_rfl) (.inl ⟨by rfl, ?_⟩) hHeld ?_; rotate_left; focus (intro w hSw; (try dsimp only at hSw); go_simp; try with_reducible rfl)
          simp only [PT]
          refine tk 5 (oi := ⟨some 35, _, _, _, _, _⟩) (v := ?_) rfl (by kernel_rfl) (.inl ⟨by rfl, ?_⟩) hHeld ?_; rotate_left; focus (intro w hSw; (try dsimp only at hSw); go_simp; try with_reducible rfl)
          simp only [PT]
          refine tk 6 (oi := ⟨some 36, _, _, _, _, _⟩) (v := ?_) rfl (by kernel_rfl) (.inl ⟨by rfl, ?_⟩) hHeld ?_; rotate_left; focus (intro w hSw; (try dsimp only at hSw); go_simp; try with_reducible rfl)
          simp only [PT]
          refine tk 7 (oi := ⟨some 37, _, _, _, _, _⟩) (v := ?_) rfl (by kernel_rfl) (.inl ⟨by rfl, ?_⟩) hHeld ?_; rotate_left; focus (intro w hSw; (try dsimp only at hSw); go_simp; try with_reducible rfl)
          simp only [PT]
          refine tk 8 (oi := ⟨some 38, _, _, _, _, _⟩) (v := ?_) rfl (by kernel_rfl) (.inl ⟨by rfl, ?_⟩) hHeld ?_; rotate_left; focus (intro w hSw; (try dsimp only at hSw); go_simp; try with_reducible rfl)
          simp only [PT]
          refine wpAnyH_done (by kernel_rfl) ?_ _
          go_wp2_with fail
          refine wp_region_held_drew (S := fun v => v.cell? ⟨b4, o4 + j, none⟩ = some (.int .u8 (p.toNat : Int)) ∧ v.cell? ⟨b5, o5 + j, none⟩ = some (.int .u8 (q.toNat : Int))) (by kernel_rfl) ?_ (fun hHeld => ?_)
          focus (exact ⟨((HE.out.trans (Below.mono bup HE.out.size)).cell (p := ⟨b4, o4 + j, none⟩) lt4).trans C4.out, ((HE.out.trans (Below.mono bup HE.out.size)).cell (p := ⟨b5, o5 + j, none⟩) lt5).trans C5.out⟩)
          refine tk 0 (oi := ⟨some 39, _, _, _, _, _⟩) (v := ?_) rfl (by kernel_rfl) (.inl ⟨by rfl, ?_⟩) hHeld ?_; rotate_left; focus (intro w hSw; (try dsimp only at hSw); go_simp; try with_reducible rfl)
          simp only [PT]
          refine tk 1 (oi := ⟨some 40, _, _, _, _, _⟩) (v := ?_) rfl (by kernel_rfl) (.inl ⟨by rfl, ?_⟩) hHeld ?_; rotate_left; focus (intro w hSw; (try dsimp only at hSw); go_simp; try with_reducible rfl)
          simp only [PT]
          refine tk 2 (oi := ⟨some 41, _, _, _, _, _⟩) (v := ?_) rfl (by kernel_rfl) (.inl ⟨by rfl, ?_⟩) hHeld ?_; rotate_left; focus (intro w hSw; (try dsimp only at hSw); go_simp; try with_reducible rfl)
          simp only [PT]
          refine tk 3 (oi := ⟨some 42, _, _, _, _, _⟩) (v := ?_) rfl (by kernel_rfl) (.inl ⟨by rfl, ?_⟩) hHeld ?_; rotate_left; focus (intro w hSw; (try dsimp only at hSw); go_simp; try with_reducible rfl)
          simp only [PT]
          refine tk 4 (oi := ⟨some 43, _, _, _, _, _⟩) (v := ?_) rfl (by kernel_rfl) (.inl ⟨by rfl, ?_⟩) hHeld ?_; rotate_left; focus (intro w hSw; (try dsimp only at hSw); go_simp; try with_reducible rfl)
          simp only [PT]
          refine tk 5 (oi := ⟨some 44, _, _, _, _, _⟩) (v := ?_) rfl (by kernel_rfl) (.inl ⟨by rfl, ?_⟩) hHeld ?_; rotate_left; focus (intro w hSw; (try dsimp only at hSw); go_simp; try with_reducible rfl)
          simp only [PT]
          refine tk 6 (oi := ⟨some 45, _, _, _, _, _⟩) (v := ?_) rfl (by kernel_rfl) (.inl ⟨by rfl, ?_⟩) hHeld ?_; rotate_left; focus (intro w hSw; (try dsimp only at hSw); go_simp; try with_reducible rfl)
          simp only [PT]
          refine tk 7 (oi := ⟨some 46, _, _, _, _, _⟩) (v := ?_) rfl (by kernel_rfl) (.inl ⟨by rfl, ?_⟩) hHeld ?_; rotate_left; focus (intro w hSw; (try dsimp only at hSw); go_simp; try with_reducible rfl)
          simp only [PT]
          refine tk 8 (oi := ⟨some 47, _, _, _, _, _⟩) (v := ?_) rfl (by kernel_rfl) (.inl ⟨by rfl, ?_⟩) hHeld ?_; rotate_left; focus (intro w hSw; (try dsimp only at hSw); go_simp; try with_reducible rfl)
          simp only [PT]
          refine tk 9 (oi := ⟨some 4, _, _, _, _, _⟩) (v := ?_) rfl (by kernel_rfl) (.inl ⟨by rfl, ?_⟩) hHeld ?_; rotate_left; focus (intro w hSw; (try dsimp only at hSw); go_simp; try with_reducible rfl)
          simp only [PT]
          refine wpAnyH_done (by kernel_rfl) ?_ _
          go_wp2_with fail
          go_ret
          exact ⟨congrArg (fun z => Ending.returned (Value.bool z)) HLL.out, HB.out.trans ((HE.out.trans (Below.mono bup HE.out.size)).mono HB.out.size)⟩
      · obtain rfl : j = 38 := by omega
        have HRR : Hid (R = false) := Lib.hid (by rw [hrr.out, List.drop_of_length_le (by rw [LA.out]; exact Nat.le_refl _)]; rfl)
        clear hrr
        rw [show ((38 : Nat) : Int) = 38 from rfl]
        clear hlt
        go_wp2_with fail
        go_ret
        rw [HRR.out]
        exact ⟨rfl, HB.out.trans (HE.out.mono HB.out.size)⟩
  · have hn : (x != y) = true := by simpa using hne
    have HR : Hid (R = decide (x < y)) := Lib.hid (by rw [hR, if_pos hne])
    clear hR hne
    go_wp2_with (first
      | ((with_reducible refine sl 2 ?_); go_must (refine wpL_boxG rfl 28 (.tmp 0) rfl a.cells.toArray rfl ?_); intro w1 g2 he__ le_g2 lt_g2 hg__ hb__; have HG2 := Lib.hid hg__; have hE__ := cU HB bup hb__; replace HB := ck HB hE__; clear hE__; clear hg__ hb__ he__; simp only [PT])
      | ((with_reducible refine sl 3 ?_); go_must (refine wpL_boxG rfl 28 (.tmp 1) rfl b.cells.toArray rfl ?_); intro w2 g3 he__ le_g3 lt_g3 hg__ hb__; have HG3 := Lib.hid hg__; have hE__ := cU HB bup hb__; replace HB := ck HB hE__; replace HG2 := ck HG2 hE__; clear hE__; clear hg__ hb__ he__; simp only [PT])
      | ((with_reducible refine sl 9 ?_); go_must (refine wpL_loadF rfl 3 (.tmp 8) rfl g2 40 rfl (.int .i64 x) HG2.out HA1.out.2.2.2 Try.underlying3 rfl ?_); simp only [PT])
      | ((with_reducible refine sl 11 ?_); go_must (refine wpL_loadF rfl 3 (.tmp 10) rfl g3 40 rfl (.int .i64 y) HG3.out HA2.out.2.2.2 Try.underlying3 rfl ?_); simp only [PT])
      | ((with_reducible refine sl 14 ?_); go_must (refine wpL_loadF rfl 3 (.tmp 13) rfl g2 40 rfl (.int .i64 x) HG2.out HA1.out.2.2.2 Try.underlying3 rfl ?_); simp only [PT])
      | ((with_reducible refine sl 16 ?_); go_must (refine wpL_loadF rfl 3 (.tmp 15) rfl g3 40 rfl (.int .i64 y) HG3.out HA2.out.2.2.2 Try.underlying3 rfl ?_); simp only [PT]))
    go_ret
    rw [HR.out]
    exact ⟨rfl, HB.out⟩
end Go.Proofs.Ytgpdlhbndoeldaa
/-
  Chapter 21: a table's slots in memory.
-/
namespace Go.Proofs.Ytgpdlhbndoeldaa
open Go.RowKit Go.Sort
set_option linter.unusedVariables false
set_option linter.unusedSimpArgs false
set_option maxRecDepth 100000

/-- a row of parts of one length -/
theorem flat_at {α β : Type} (f : α → List β) (k : Nat) (hk : ∀ x, (f x).length = k) : ∀ (l : List α) (i j : Nat) (hi : i < l.length), j < k → (l.flatMap f)[i * k + j]? = (f l[i])[j]?
  | [], i, j, hi, _ => by simp at hi
  | x :: l, 0, j, _, hj => by
    rw [List.flatMap_cons, Nat.zero_mul, Nat.zero_add, List.getElem?_append_left (by rw [hk]; exact hj)]
    rfl
  | x :: l, i + 1, j, hi, hj => by
    rw [List.flatMap_cons, List.getElem?_append_right (by rw [hk, Nat.succ_mul]; omega), hk, show (i + 1) * k + j - k = i * k + j by rw [Nat.succ_mul]; omega, flat_at f k hk l i j (by simpa using hi) hj]
    rfl
theorem flat_len {α β : Type} (f : α → List β) (k : Nat) (hk : ∀ x, (f x).length = k) (l : List α) : (l.flatMap f).length = l.length * k := by
  induction l with
  | nil => simp
  | cons x l ih => rw [List.flatMap_cons, List.length_append, hk, ih, List.length_cons, Nat.succ_mul, Nat.add_comm]

/-- a flow that may be in a table -/
structure FloW where
  v : Flo
  ok : v.ok
instance : Inhabited FloW := ⟨⟨zeroF, zeroF_ok⟩⟩
/-- a slot -/
structure Slt where
  used : Bool
  f : FloW
instance : Inhabited Slt := ⟨⟨false, default⟩⟩
def Slt.cells (s : Slt) : List Value := .bool s.used :: s.f.v.cells
theorem Slt.length (s : Slt) : s.cells.length = 42 := by simp [Slt.cells, Flo.length s.f.ok]
def rowC (S : List Slt) : List Value := S.flatMap Slt.cells
theorem rowC_length (S : List Slt) : (rowC S).length = S.length * 42 := flat_len _ _ Slt.length S
theorem rowC_at (S : List Slt) (i j : Nat) (hi : i < S.length) (hj : j < 42) : (rowC S)[i * 42 + j]? = S[i].cells[j]? := flat_at _ _ Slt.length S i j hi hj
theorem rowC_one (S : List Slt) : ∀ v ∈ rowC S, v.oneCell' = true := by
  intro v hv
  obtain ⟨s, _, hs⟩ := List.mem_flatMap.1 hv
  simp only [Slt.cells, List.mem_cons] at hs
  rcases hs with rfl | h
  · rfl
  · exact Flo.one _ h
/-- the table's own cells -/
def tabC (kb : List UInt8) (room cnt q n : Nat) : List Value := BV kb ++ [.int .i64 room, .int .i64 cnt, .slice (some ⟨q, 0, none⟩) n n]
theorem tabC_length {kb : List UInt8} (h : kb.length = 16) (room cnt q n : Nat) : (tabC kb room cnt q n).length = 19 := by simp [tabC, BV_length, h]
theorem tabC_at {kb : List UInt8} (h : kb.length = 16) (room cnt q n : Nat) : (∀ j, j < (BV kb).length → (tabC kb room cnt q n)[0 + j]? = (BV kb)[j]?) ∧ (tabC kb room cnt q n)[16]? = some (.int .i64 room) ∧ (tabC kb room cnt q n)[17]? = some (.int .i64 cnt) ∧ (tabC kb room cnt q n)[18]? = some (.slice (some ⟨q, 0, none⟩) n n) := by
  have e : (BV kb).length = 16 := by rw [BV_length, h]
  unfold tabC
  refine ⟨fun j hj => by rw [Nat.zero_add, List.getElem?_append_left hj], ?_, ?_, ?_⟩
  all_goals (rw [List.getElem?_append_right (by omega), e]; rfl)
/-- a table lies at p, its slots at q -/
structure Tb (w : World) (p q : Nat) (kb : List UInt8) (room cnt : Nat) (S : List Slt) : Prop where
  hp : w.heap[p]? = some (.cells (tabC kb room cnt q S.length).toArray 69 (0, 0))
  hq : w.heap[q]? = some (.cells (rowC S).toArray 79 (0, 0))
  hk : kb.length = 16
  h0 : 0 < S.length
  hn : S.length ≤ 8192
theorem Tb.below {w w' : World} {p q : Nat} {kb : List UInt8} {room cnt : Nat} {S : List Slt} (h : Tb w p q kb room cnt S) {B : Nat} (hb : Below B w w') (h1 : p < B) (h2 : q < B) : Tb w' p q kb room cnt S :=
  ⟨(hb.block p h1).trans h.hp, (hb.block q h2).trans h.hq, h.hk, h.h0, h.hn⟩
theorem Tb.keep {w w' : World} {p q : Nat} {kb : List UInt8} {room cnt : Nat} {S : List Slt} (h : Tb w p q kb room cnt S) (hb : Below w.heap.size w w') : Tb w' p q kb room cnt S :=
  h.below hb (lt_of_block h.hp) (lt_of_block h.hq)
instance {w w' : World} {p q : Nat} {kb : List UInt8} {room cnt : Nat} {S : List Slt} : Ck (Tb w p q kb room cnt S) w' w (Tb w' p q kb room cnt S) := ⟨fun h hE => h.keep hE⟩
theorem Tb.cells {w : World} {p q : Nat} {kb : List UInt8} {room cnt : Nat} {S : List Slt} (h : Tb w p q kb room cnt S) : w.rangeAt p 0 (BV kb) ∧ w.cell? ⟨p, 16, none⟩ = some (.int .i64 room) ∧ w.cell? ⟨p, 17, none⟩ = some (.int .i64 cnt) ∧ w.cell? ⟨p, 18, none⟩ = some (.slice (some ⟨q, 0, none⟩) S.length S.length) := by
  obtain ⟨h0, h1, h2, h3⟩ := tabC_at h.hk room cnt q S.length
  exact ⟨range_sub h.hp h0, (cells_get h.hp 16).trans h1, (cells_get h.hp 17).trans h2, (cells_get h.hp 18).trans h3⟩
theorem Tb.slot {w : World} {p q : Nat} {kb : List UInt8} {room cnt : Nat} {S : List Slt} (h : Tb w p q kb room cnt S) (i : Nat) (hi : i < S.length) : w.cell? ⟨q, i * 42, none⟩ = some (.bool S[i].used) ∧ w.rangeAt q (i * 42) S[i].cells ∧ w.rangeAt q (i * 42 + 1) S[i].f.v.cells ∧ w.rangeAt q (i * 42 + 1) S[i].f.v.key.cells := by
  have hl := Slt.length S[i]
  have hfl := Flo.length S[i].f.ok
  have hkl := Tup.length S[i].f.ok.1
  refine ⟨?_, ?_, ?_, ?_⟩
  · have := rowC_at S i 0 hi (by omega)
    rw [Nat.add_zero] at this
    rw [cells_get h.hq, this]
    rfl
  · exact range_sub h.hq fun j hj => rowC_at S i j hi (by omega)
  · refine range_sub h.hq fun j hj => ?_
    rw [Nat.add_assoc, Nat.add_comm 1 j, rowC_at S i (j + 1) hi (by omega)]
    rfl
  · refine range_sub h.hq fun j hj => ?_
    rw [Nat.add_assoc, Nat.add_comm 1 j, rowC_at S i (j + 1) hi (by omega)]
    show S[i].f.v.cells[j]? = _
    rw [← Flo.tup S[i].f.ok j hj, Nat.zero_add]
def homeN (kb : List UInt8) (k : Tup) (n : Nat) : Nat := sipN kb k.bytes % n
theorem homeN_lt {kb : List UInt8} {k : Tup} {n : Nat} (h : 0 < n) : homeN kb k n < n := Nat.mod_lt _ h
theorem arr16 : (Try.prog.info? 22).map (·.size) = some 16 := by kernel_rfl
end Go.Proofs.Ytgpdlhbndoeldaa
/-
  Chapter 21: home, find: walked.
-/
namespace Go.Proofs.Ytgpdlhbndoeldaa
open Go.RowKit Go.Sort
set_option linter.unusedVariables false
set_option linter.unusedSimpArgs false
set_option maxRecDepth 100000
set_option maxHeartbeats 8000000

theorem home_any (p q : Nat) (kb : List UInt8) (room cnt : Nat) (S : List Slt) (k : Tup) (ho : k.ok) (w : World) (ht : Tb w p q kb room cnt S) :
    Calls Try.prog 42 #[.pointer (some ⟨p, 0, none⟩), .agg k.cells.toArray] w fun e w' => e = .returned (.int .i64 (homeN kb k S.length : Nat)) ∧ Below w.heap.size w w' := by
  have HB := Lib.hid (Below.refl w.heap.size w)
  have HT := Lib.hid ht
  have HO := Lib.hid ho
  have HI1 : Hid ((Try.prog.info? 22).map (·.size) = some (BV kb).length) := Lib.hid (by rw [BV_length, ht.hk]; exact arr16)
  have HI2 : Hid ((Try.prog.info? 26).map (·.size) = some k.cells.length) := Lib.hid (by rw [Tup.length ho]; exact tup_size)
  obtain ⟨n, hn⟩ : ∃ n, n = S.length := ⟨_, rfl⟩
  have hn0 : 0 < n := by rw [hn]; exact ht.h0
  have hn1 : n ≤ 8192 := by rw [hn]; exact ht.hn
  obtain ⟨H, hH⟩ : ∃ H, H = sipN kb k.bytes := ⟨_, rfl⟩
  have HR : Hid (homeN kb k S.length = H % n) := Lib.hid (by rw [hH, hn]; rfl)
  have HH := Lib.hid hH
  have HN := Lib.hid hn
  have e1 : IntKind.u64.wrap (n : Int) = n := by rw [IntKind.wrap_u64]; omega
  have hml : H % n < n := Nat.mod_lt _ hn0
  have E7 : Hid (IntKind.i64.wrap ((H : Int).tmod (n : Int)) = ((H % n : Nat) : Int)) := Lib.hid (by rw [Int.tmod_eq_emod_of_nonneg (by omega), IntKind.wrap_i64]; omega)
  have e4 : ((n : Int) == 0) = false := by simp; omega
  have e5 : ¬ n = 0 := by omega
  clear ht ho hn hH hml
  rw [HR.out]
  go_enter Try.func42, Try.ntmps42
  go_wp2_with (first
    | ((with_reducible refine sl 3 ?_); go_must (refine wpL_boxG rfl 26 (.tmp 1) rfl k.cells.toArray rfl ?_); intro w1 g3 he__ le_g3 lt_g3 hg__ hb__; have HG3 := Lib.hid hg__; have hE__ := cU HB bup hb__; replace HB := ck HB hE__; replace HT := ck HT hE__; clear hE__; clear hg__ hb__ he__; simp only [PT]))
  have HE := Lib.hid (Below.refl w1.heap.size w1)
  have HCL := Lib.hid (Tb.cells HT.out)
  have ltp := lt_of_block HT.out.hp
  have HR3 := Lib.hid (range_block HG3.out)
  refine wp_region_held_drew (S := fun v => v.rangeAt p 0 (BV kb) ∧ v.cell? ⟨p, 18, none⟩ = some (.slice (some ⟨q, 0, none⟩) n n) ∧ v.rangeAt g3 0 k.cells) (by kernel_rfl) ?_ (fun hHeld => ?_)
  focus (have hz := HN.out; exact ⟨range_below HCL.out.1 ltp (HE.out.trans (Below.mono bup HE.out.size)), ((HE.out.trans (Below.mono bup HE.out.size)).cell (p := ⟨p, 18, none⟩) ltp).trans (by rw [hz]; exact HCL.out.2.2.2), range_below HR3.out lt_g3 (HE.out.trans (Below.mono bup HE.out.size))⟩)
  refine tk 0 (oi := ⟨some 5, _, _, _, _, _⟩) (v := ?_) rfl (by kernel_rfl) (.inl ⟨by rfl, ?_⟩) hHeld ?_; rotate_left; focus (intro w hSw; (try dsimp only at hSw); go_simp; try with_reducible rfl)
  simp only [PT]
  refine tk 1 (oi := ⟨some 6, _, _, _, _, _⟩) (v := ?_) rfl (by kernel_rfl) (.inl ⟨by rfl, ?_⟩) hHeld ?_; rotate_left; focus (intro w hSw; (try dsimp only at hSw); go_simp; try with_reducible rfl)
  simp only [PT]
  refine tk 2 (oi := ⟨some 7, _, _, _, _, _⟩) (v := ?_) rfl (by kernel_rfl) (.inl ⟨by rfl, ?_⟩) hHeld ?_; rotate_left; focus (intro w hSw; (try dsimp only at hSw); go_simp; try with_reducible rfl)
  simp only [PT]
  refine' tk 3 (oi := ⟨some 8, _, _, _, _, _⟩) (v := _) rfl (by kernel_rfl) (yieldsIf_load_mid (by rfl) _ _ rfl _ _ rfl (BV kb) _ (fun v hv => hv.1) (Try.underlying22) rfl (HI1.out)) hHeld ?_
  simp only [PT]
  refine' tk 4 (oi := ⟨some 9, _, _, _, _, _⟩) (v := _) rfl (by kernel_rfl) (yieldsIf_load_mid (by rfl) _ _ rfl _ _ rfl (k.cells) _ (fun v hv => hv.2.2) (Try.underlying26) rfl (HI2.out)) hHeld ?_
  simp only [PT]
  refine tk 6 (oi := ⟨some 11, _, _, _, _, _⟩) (v := ?_) rfl (by kernel_rfl) (.inl ⟨by rfl, ?_⟩) hHeld ?_; rotate_left; focus (intro w hSw; (try dsimp only at hSw); go_simp; try with_reducible rfl)
  simp only [PT]
  refine tk 7 (oi := ⟨some 12, _, _, _, _, _⟩) (v := ?_) rfl (by kernel_rfl) (.inl ⟨by rfl, ?_⟩) hHeld ?_; rotate_left; focus (intro w hSw; (try dsimp only at hSw); go_simp; try with_reducible rfl)
  simp only [PT]
  refine tk 8 (oi := ⟨some 13, _, _, _, _, _⟩) (v := ?_) rfl (by kernel_rfl) (.inl ⟨by rfl, ?_⟩) hHeld ?_; rotate_left; focus (intro w hSw; (try dsimp only at hSw); go_simp; try with_reducible rfl)
  simp only [PT]
  refine tk 9 (oi := ⟨some 14, _, _, _, _, _⟩) (v := ?_) rfl (by kernel_rfl) (.inl ⟨by rfl, ?_⟩) hHeld ?_; rotate_left; focus (intro w hSw; (try dsimp only at hSw); go_simp; try with_reducible rfl)
  simp only [PT]
  refine tk 10 (oi := ⟨some 15, _, _, _, _, _⟩) (v := ?_) rfl (by kernel_rfl) (.inl ⟨by rfl, ?_⟩) hHeld ?_; rotate_left; focus (intro w hSw; (try dsimp only at hSw); go_simp; try with_reducible rfl)
  simp only [PT]
  refine tk 11 (oi := ⟨some 16, _, _, _, _, _⟩) (v := ?_) rfl (by kernel_rfl) (.inl ⟨by rfl, ?_⟩) hHeld ?_; rotate_left; focus (intro w hSw; (try dsimp only at hSw); go_simp; try with_reducible rfl)
  simp only [PT]
  refine wpAnyH_ready (rs := [5]) (by kernel_rfl) (by simp) ?_
  refine (AllReadyH.cons (o := ⟨some 10, _, _, _, _, _⟩) rfl (fun K hK => ?_) AllReadyH.nil)
  focus (go_simp; go_must (refine (hash_any kb HT.out.hk k HO.out _).mono ?_); rintro e w4 ⟨rfl, hb4⟩; rw [← HH.out]; replace HE := cE0 HE bup hb4; clear hb4; go_wp2_with fail)
  refine hK.out _ _ ?_ (fun hHeld => ?_)
  focus (have hz := HN.out; exact ⟨range_below HCL.out.1 ltp (HE.out.trans (Below.mono bup HE.out.size)), ((HE.out.trans (Below.mono bup HE.out.size)).cell (p := ⟨p, 18, none⟩) ltp).trans (by rw [hz]; exact HCL.out.2.2.2), range_below HR3.out lt_g3 (HE.out.trans (Below.mono bup HE.out.size))⟩)
  clear hK K
  try simp only [PT]
  refine tk 12 (oi := ⟨some 17, _, _, _, _, _⟩) (v := ?_) rfl (by kernel_rfl) (.inl ⟨by rfl, ?_⟩) hHeld ?_; rotate_left; focus (intro w hSw; (try dsimp only at hSw); go_simp; try with_reducible rfl)
  simp only [PT]
  refine tk 13 (oi := ⟨some 18, _, _, _, _, _⟩) (v := ?_) rfl (by kernel_rfl) (.inl ⟨by rfl, ?_⟩) hHeld ?_; rotate_left; focus (intro w hSw; (try dsimp only at hSw); go_simp; try with_reducible rfl)
  simp only [PT]
  refine tk 14 (oi := ⟨some 4, _, _, _, _, _⟩) (v := ?_) rfl (by kernel_rfl) (.inl ⟨by rfl, ?_⟩) hHeld ?_; rotate_left; focus (intro w hSw; (try dsimp only at hSw); go_simp; try with_reducible rfl)
  simp only [PT]
  refine wpAnyH_done (by kernel_rfl) ?_ _
  all_goals
    go_wp2_with fail
    go_ret
    exact ⟨congrArg (fun z => Ending.returned (Value.int .i64 z)) E7.out, HB.out.trans (HE.out.mono HB.out.size)⟩
end Go.Proofs.Ytgpdlhbndoeldaa
/-
  Chapter 21: find: walked.
-/
namespace Go.Proofs.Ytgpdlhbndoeldaa
open Go.RowKit Go.Sort
set_option linter.unusedVariables false
set_option linter.unusedSimpArgs false
set_option maxRecDepth 100000
set_option maxHeartbeats 8000000

deriving instance DecidableEq for Tup
theorem yields_tup_ne {ops : Array Oper} {o : Oper} {a : Act} {S : World → Prop} (t u : Tup) (ht : t.ok) (hu : u.ok) (wt : t.wf) (wu : u.wf) (b : Bool) (hb : b = true ↔ t = u)
    (hg : Region.wanted o (yielded ops a.tmps) = true) (x y : Operand) (hop : o.op = Op.binOp BinOp.neq 26 x y 26) (hx : a.eval x = .agg t.cells.toArray) (hy : a.eval y = .agg u.cells.toArray) :
    YieldsIf Try.prog ops S o (.bool (!b)) a := by
  refine Or.inl ⟨hg, fun w _ => ?_⟩
  have hh := equal_tup t u ht hu wt wu b hb w
  have hgd := run_eqGuard_agg (P := Try.prog) w .neq 26 x y t.cells.toArray u.cells.toArray (by kernel_rfl)
  have hes := run_neq_struct (P := Try.prog) w 26 t.cells.toArray u.cells.toArray
  rw [hh] at hes
  simp only [execOp, hop, hx, hy, Sem.run_bind, hgd, hes, Result.andThen_ok, Sem.run_pure]
/-- a search ends at a slot: it is free, or of that key -/
def stopS (s : Slt) (k : Tup) : Prop := s.used = false ∨ s.f.v.key = k
/-- the search for k, that begins at h, ends d slots on, at j -/
def Probe (S : List Slt) (k : Tup) (h j : Nat) : Prop := ∃ d, d < S.length ∧ j = (h + d) % S.length ∧ (∀ s, S[j]? = some s → stopS s k) ∧ ∀ d', d' < d → ∀ s, S[(h + d') % S.length]? = some s → ¬ stopS s k
theorem step_mod {h d n : Nat} (hn : 0 < n) : ((h + d) % n + 1) % n = (h + (d + 1)) % n := by rw [Nat.mod_add_mod, Nat.add_assoc]
theorem dist_ex {h z n : Nat} (hz : z < n) (hh : h < n) : ∃ dz, dz < n ∧ (h + dz) % n = z := by
  refine ⟨(z + n - h) % n, Nat.mod_lt _ (by omega), ?_⟩
  rw [Nat.add_mod_mod, show h + (z + n - h) = z + n by omega, Nat.add_mod_right, Nat.mod_eq_of_lt hz]
theorem dist_mod {h d dz n : Nat} (hn : 0 < n) (hd : d ≤ dz) (hz : dz < n) : ((h + dz) % n + n - (h + d) % n) % n = dz - d := by
  have h1 := Nat.div_add_mod (h + dz) n
  have h2 := Nat.div_add_mod (h + d) n
  have l1 := Nat.mod_lt (h + dz) hn
  have l2 := Nat.mod_lt (h + d) hn
  obtain ⟨a, ha⟩ : ∃ a, a = (h + dz) / n := ⟨_, rfl⟩
  obtain ⟨b, hb⟩ : ∃ b, b = (h + d) / n := ⟨_, rfl⟩
  obtain ⟨x, hx⟩ : ∃ x, x = (h + dz) % n := ⟨_, rfl⟩
  obtain ⟨y, hy⟩ : ∃ y, y = (h + d) % n := ⟨_, rfl⟩
  rw [← ha, ← hx] at h1
  rw [← hb, ← hy] at h2
  rw [← hx] at l1 ⊢
  rw [← hy] at l2 ⊢
  have hab : b ≤ a := by rw [ha, hb]; exact Nat.div_le_div_right (by omega)
  have hab2 : a ≤ b + 1 := by
    rw [ha, hb]
    have : (h + dz) / n ≤ (h + d + n) / n := Nat.div_le_div_right (by omega)
    rw [Nat.add_div_right _ hn] at this
    exact this
  rcases (by omega : a = b ∨ a = b + 1) with e | e
  · rw [e] at h1
    rw [show x + n - y = (dz - d) + n by omega, Nat.add_mod_right, Nat.mod_eq_of_lt (by omega)]
  · rw [e, Nat.mul_add, Nat.mul_one] at h1
    rw [show x + n - y = dz - d by omega, Nat.mod_eq_of_lt (by omega)]
set_option maxHeartbeats 16000000 in
theorem find_any (p q : Nat) (kb : List UInt8) (room cnt : Nat) (S : List Slt) (k : Tup) (ho : k.ok) (hwf : k.wf) (w : World) (ht : Tb w p q kb room cnt S) (hfree : ∃ (z : Nat) (s : Slt), S[z]? = some s ∧ s.used = false) :
    Calls Try.prog 40 #[.pointer (some ⟨p, 0, none⟩), .agg k.cells.toArray] w fun e w' => ∃ j : Nat, e = .returned (.int .i64 (j : Int)) ∧ Probe S k (homeN kb k S.length) j ∧ Below w.heap.size w w' := by
  have HB := Lib.hid (Below.refl w.heap.size w)
  have HT := Lib.hid ht
  have HO := Lib.hid (And.intro ho hwf)
  have HI2 : Hid ((Try.prog.info? 26).map (·.size) = some k.cells.length) := Lib.hid (by rw [Tup.length ho]; exact tup_size)
  obtain ⟨n, hn⟩ : ∃ n, n = S.length := ⟨_, rfl⟩
  have hn0 : 0 < n := by rw [hn]; exact ht.h0
  have hn1 : n ≤ 8192 := by rw [hn]; exact ht.hn
  obtain ⟨h, hh⟩ : ∃ h, h = homeN kb k S.length := ⟨_, rfl⟩
  have hhl : h < n := by rw [hh, hn]; exact homeN_lt ht.h0
  obtain ⟨z, sz, hz, hzf⟩ := hfree
  have hzl : z < n := by rw [hn]; exact (List.getElem?_eq_some_iff.1 hz).1
  obtain ⟨dz, hdz, hdze⟩ := dist_ex hzl hhl
  have HZ : Hid (∃ s, S[(h + dz) % n]? = some s ∧ s.used = false) := Lib.hid (by rw [hdze]; exact ⟨sz, hz, hzf⟩)
  have HN := Lib.hid hn
  have HH := Lib.hid hh
  have HDZ := Lib.hid hdze
  rw [← hh]
  clear ht ho hwf hn hz hzf hzl hdze hh
  go_enter Try.func40, Try.ntmps40
  go_wp2_with (first
    | ((with_reducible refine sl 3 ?_); go_must (refine wpL_boxG rfl 26 (.tmp 1) rfl k.cells.toArray rfl ?_); intro w1 g3 he__ le_g3 lt_g3 hg__ hb__; have HG3 := Lib.hid hg__; have hE__ := cU HB bup hb__; replace HB := ck HB hE__; replace HT := ck HT hE__; clear hE__; clear hg__ hb__ he__; simp only [PT])
    | ((with_reducible refine sl 7 ?_); go_must (refine wpL_load rfl 26 (.tmp 3) rfl g3 0 rfl k.cells _ (range_block HG3.out) Try.underlying26 rfl HI2.out ?_); simp only [PT])
    | (go_at_call 42; go_must (refine (home_any p q kb room cnt S k HO.out.1 _ HT.out).mono ?_); rintro e w2 ⟨rfl, hb2⟩; rw [← HH.out]; have hE__ := cU HB bup hb2; replace HB := ck HB hE__; replace HT := ck HT hE__; replace HG3 := ck HG3 hE__; clear hE__; clear hb2))
  have ltp := lt_of_block HT.out.hp
  have ltq := lt_of_block HT.out.hq
  have ltg := lt_of_block HG3.out
  have HCL := Lib.hid (Tb.cells HT.out)
  have HR3 := Lib.hid (range_block HG3.out)
  have HSZ2 := Lib.hid HB.out.size
  go_loopw [5] (fun i wr => ∃ d : Nat, d ≤ dz ∧ i = .int .i64 (((h + d) % n : Nat) : Int) ∧ Hid (∀ d', d' < d → ∀ s, S[(h + d') % n]? = some s → ¬ stopS s k) ∧ Below w2.heap.size w2 wr) (fun i _ => (z + n - (intOf i).toNat) % n)
  case atStart => exact ⟨0, Nat.zero_le _, by rw [Nat.add_zero, Nat.mod_eq_of_lt hhl], Lib.hid (fun d' hd => absurd hd (Nat.not_lt_zero _)), bup⟩
  case round =>
    obtain ⟨d, hd, rfl, hpre, hb⟩ := hrel
    have HE := Lib.hid hb
    clear hb
    obtain ⟨i, hi⟩ : ∃ i, i = (h + d) % n := ⟨_, rfl⟩
    have hil : i < n := by rw [hi]; exact Nat.mod_lt _ hn0
    have hilS : i < S.length := by rw [← HN.out]; exact hil
    rw [← hi]
    obtain ⟨c0, c1, c2, c3⟩ := Tb.slot HT.out i hilS
    obtain ⟨s, hs⟩ : ∃ s, s = S[i] := ⟨_, rfl⟩
    rw [← hs] at c0 c1 c2 c3
    have HS? : Hid (S[i]? = some s) := Lib.hid (by rw [hs]; exact List.getElem?_eq_getElem hilS)
    have HI := Lib.hid hi
    have C0 := Lib.hid c0
    have C3 := Lib.hid c3
    have hi0 : (i : Int) < n := by omega
    have HIK : Hid ((Try.prog.info? 26).map (·.size) = some s.f.v.key.cells.length) := Lib.hid (by rw [Tup.length s.f.ok.1]; exact tup_size)
    clear c0 c1 c2 c3 hs hi hilS
    rcases two s.used with hu | hu
    · rcases Decidable.em (s.f.v.key = k) with hk | hk
      · have HST : Hid (stopS s k) := Lib.hid (.inr hk)
        have HBK := Lib.hid hk
        have HU := Lib.hid hu
        clear hk hu
        go_wp2_with fail
        refine wp_region_held_drew (S := fun v => v.cell? ⟨p, 18, none⟩ = some (.slice (some ⟨q, 0, none⟩) n n) ∧ v.cell? ⟨q, i * 42, none⟩ = some (.bool true) ∧ v.rangeAt q (i * 42 + 1) s.f.v.key.cells ∧ v.rangeAt g3 0 k.cells) (by kernel_rfl) ?_ (fun hHeld => ?_)
        focus (have hz := HN.out; exact ⟨((HE.out.trans (Below.mono bup HE.out.size)).cell (p := ⟨p, 18, none⟩) ltp).trans (by rw [hz]; exact HCL.out.2.2.2), ((HE.out.trans (Below.mono bup HE.out.size)).cell (p := ⟨q, i * 42, none⟩) ltq).trans (by rw [← HU.out]; exact C0.out), range_below C3.out ltq (HE.out.trans (Below.mono bup HE.out.size)), range_below HR3.out ltg (HE.out.trans (Below.mono bup HE.out.size))⟩)
        refine tk 0 (oi := ⟨some 9, _, _, _, _, _⟩) (v := ?_) rfl (by kernel_rfl) (.inl ⟨by rfl, ?_⟩) hHeld ?_; rotate_left; focus (intro w hSw; (try dsimp only at hSw); go_simp; try with_reducible rfl)
        simp only [PT]
        refine tk 1 (oi := ⟨some 10, _, _, _, _, _⟩) (v := ?_) rfl (by kernel_rfl) (.inl ⟨by rfl, ?_⟩) hHeld ?_; rotate_left; focus (intro w hSw; (try dsimp only at hSw); go_simp; try with_reducible rfl)
        simp only [PT]
        refine tk 2 (oi := ⟨some 11, _, _, _, _, _⟩) (v := ?_) rfl (by kernel_rfl) (.inl ⟨by rfl, ?_⟩) hHeld ?_; rotate_left; focus (intro w hSw; (try dsimp only at hSw); go_simp; try with_reducible rfl)
        simp only [PT]
        refine tk 3 (oi := ⟨some 12, _, _, _, _, _⟩) (v := ?_) rfl (by kernel_rfl) (.inl ⟨by rfl, ?_⟩) hHeld ?_; rotate_left; focus (intro w hSw; (try dsimp only at hSw); go_simp; try with_reducible rfl)
        simp only [PT]
        refine tk 4 (oi := ⟨some 13, _, _, _, _, _⟩) (v := ?_) rfl (by kernel_rfl) (.inl ⟨by rfl, ?_⟩) hHeld ?_; rotate_left; focus (intro w hSw; (try dsimp only at hSw); go_simp; try with_reducible rfl)
        simp only [PT]
        refine tk 5 (oi := ⟨some 14, _, _, _, _, _⟩) (v := ?_) rfl (by kernel_rfl) (.inl ⟨by rfl, ?_⟩) hHeld ?_; rotate_left; focus (intro w hSw; (try dsimp only at hSw); go_simp; try with_reducible rfl)
        simp only [PT]
        refine tk 6 (oi := ⟨some 15, _, _, _, _, _⟩) (v := ?_) rfl (by kernel_rfl) (.inl ⟨by rfl, ?_⟩) hHeld ?_; rotate_left; focus (intro w hSw; (try dsimp only at hSw); go_simp; try with_reducible rfl)
        simp only [PT]
        refine tk 7 (oi := ⟨some 16, _, _, _, _, _⟩) (v := ?_) rfl (by kernel_rfl) (.inl ⟨by rfl, ?_⟩) hHeld ?_; rotate_left; focus (intro w hSw; (try dsimp only at hSw); go_simp; try with_reducible rfl)
        simp only [PT]
        refine tk 8 (oi := ⟨some 17, _, _, _, _, _⟩) (v := ?_) rfl (by kernel_rfl) (.inl ⟨by rfl, ?_⟩) hHeld ?_; rotate_left; focus (intro w hSw; (try dsimp only at hSw); go_simp; try with_reducible rfl)
        simp only [PT]
        first | (refine tk 9 (oi := ⟨some 18, _, _, _, _, _⟩) (v := undef) rfl (by kernel_rfl) (.inr ⟨by rfl, rfl⟩) hHeld ?_) | (refine tk 9 (oi := ⟨some 18, _, _, _, _, _⟩) (v := ?_) rfl (by kernel_rfl) (.inl ⟨by rfl, ?_⟩) hHeld ?_; rotate_left; focus (intro w hSw; (try dsimp only at hSw); go_simp; try with_reducible rfl))
        simp only [PT]
        first | (refine tk 10 (oi := ⟨some 19, _, _, _, _, _⟩) (v := undef) rfl (by kernel_rfl) (.inr ⟨by rfl, rfl⟩) hHeld ?_) | (refine tk 10 (oi := ⟨some 19, _, _, _, _, _⟩) (v := ?_) rfl (by kernel_rfl) (.inl ⟨by rfl, ?_⟩) hHeld ?_; rotate_left; focus (intro w hSw; (try dsimp only at hSw); go_simp; try with_reducible rfl))
        simp only [PT]
        first | (refine tk 11 (oi := ⟨some 20, _, _, _, _, _⟩) (v := undef) rfl (by kernel_rfl) (.inr ⟨by rfl, rfl⟩) hHeld ?_) | (refine tk 11 (oi := ⟨some 20, _, _, _, _, _⟩) (v := ?_) rfl (by kernel_rfl) (.inl ⟨by rfl, ?_⟩) hHeld ?_; rotate_left; focus (intro w hSw; (try dsimp only at hSw); go_simp; try with_reducible rfl))
        simp only [PT]
        first | (refine tk 12 (oi := ⟨some 21, _, _, _, _, _⟩) (v := undef) rfl (by kernel_rfl) (.inr ⟨by rfl, rfl⟩) hHeld ?_) | (refine tk 12 (oi := ⟨some 21, _, _, _, _, _⟩) (v := ?_) rfl (by kernel_rfl) (.inl ⟨by rfl, ?_⟩) hHeld ?_; rotate_left; focus (intro w hSw; (try dsimp only at hSw); go_simp; try with_reducible rfl))
        simp only [PT]
        first | (refine tk 13 (oi := ⟨some 22, _, _, _, _, _⟩) (v := undef) rfl (by kernel_rfl) (.inr ⟨by rfl, rfl⟩) hHeld ?_) | (refine tk 13 (oi := ⟨some 22, _, _, _, _, _⟩) (v := ?_) rfl (by kernel_rfl) (.inl ⟨by rfl, ?_⟩) hHeld ?_; rotate_left; focus (intro w hSw; (try dsimp only at hSw); go_simp; try with_reducible rfl))
        simp only [PT]
        first | (refine tk 14 (oi := ⟨some 23, _, _, _, _, _⟩) (v := undef) rfl (by kernel_rfl) (.inr ⟨by rfl, rfl⟩) hHeld ?_) | (refine tk 14 (oi := ⟨some 23, _, _, _, _, _⟩) (v := ?_) rfl (by kernel_rfl) (.inl ⟨by rfl, ?_⟩) hHeld ?_; rotate_left; focus (intro w hSw; (try dsimp only at hSw); go_simp; try with_reducible rfl))
        simp only [PT]
        first | (refine tk 15 (oi := ⟨some 24, _, _, _, _, _⟩) (v := undef) rfl (by kernel_rfl) (.inr ⟨by rfl, rfl⟩) hHeld ?_) | (refine tk 15 (oi := ⟨some 24, _, _, _, _, _⟩) (v := ?_) rfl (by kernel_rfl) (.inl ⟨by rfl, ?_⟩) hHeld ?_; rotate_left; focus (intro w hSw; (try dsimp only at hSw); go_simp; try with_reducible rfl))
        simp only [PT]
        first | (refine tk 16 (oi := ⟨some 25, _, _, _, _, _⟩) (v := undef) rfl (by kernel_rfl) (.inr ⟨by rfl, rfl⟩) hHeld ?_) | (refine tk 16 (oi := ⟨some 25, _, _, _, _, _⟩) (v := ?_) rfl (by kernel_rfl) (.inl ⟨by rfl, ?_⟩) hHeld ?_; rotate_left; focus (intro w hSw; (try dsimp only at hSw); go_simp; try with_reducible rfl))
        simp only [PT]
        first | (refine tk 17 (oi := ⟨some 26, _, _, _, _, _⟩) (v := undef) rfl (by kernel_rfl) (.inr ⟨by rfl, rfl⟩) hHeld ?_) | (refine' tk 17 (oi := ⟨some 26, _, _, _, _, _⟩) (v := _) rfl (by kernel_rfl) (yieldsIf_load_mid (by rfl) _ _ rfl _ _ rfl (s.f.v.key.cells) _ (fun v hv => hv.2.2.1) (Try.underlying26) rfl (HIK.out)) hHeld ?_)
        simp only [PT]
        first | (refine tk 18 (oi := ⟨some 27, _, _, _, _, _⟩) (v := undef) rfl (by kernel_rfl) (.inr ⟨by rfl, rfl⟩) hHeld ?_) | (refine' tk 18 (oi := ⟨some 27, _, _, _, _, _⟩) (v := _) rfl (by kernel_rfl) (yieldsIf_load_mid (by rfl) _ _ rfl _ _ rfl (k.cells) _ (fun v hv => hv.2.2.2) (Try.underlying26) rfl (HI2.out)) hHeld ?_)
        simp only [PT]
        first | (refine tk 19 (oi := ⟨some 28, _, _, _, _, _⟩) (v := undef) rfl (by kernel_rfl) (.inr ⟨by rfl, rfl⟩) hHeld ?_) | (refine' tk 19 (oi := ⟨some 28, _, _, _, _, _⟩) (v := _) rfl (by kernel_rfl) (yields_tup_ne s.f.v.key k s.f.ok.1 HO.out.1 s.f.ok.2.1 HO.out.2 true ⟨fun _ => HBK.out, fun _ => rfl⟩ (by rfl) (.tmp 26) (.tmp 27) rfl rfl rfl) hHeld ?_)
        simp only [PT]
        refine tk 20 (oi := ⟨some 29, _, _, _, _, _⟩) (v := ?_) rfl (by kernel_rfl) (.inl ⟨by rfl, ?_⟩) hHeld ?_; rotate_left; focus (intro w hSw; (try dsimp only at hSw); go_simp; try with_reducible rfl)
        simp only [PT]
        refine wpAnyH_done (by kernel_rfl) ?_ _
        go_wp2_with fail
        go_ret
        exact ⟨i, rfl, ⟨d, by rw [← HN.out]; omega, by rw [← HN.out]; exact HI.out, fun s' hs' => by rw [HS?.out] at hs'; cases hs'; exact HST.out, fun d' hd' => by rw [← HN.out]; exact hpre.out d' hd'⟩, HB.out.trans ((HE.out.trans (Below.mono bup HE.out.size)).mono HSZ2.out)⟩
      · have HBK := Lib.hid hk
        have HNS : Hid (¬ stopS s k) := Lib.hid (by rintro (h1 | h1); rw [hu] at h1; cases h1; exact hk h1)
        have HU := Lib.hid hu
        clear hk hu
        have hdl : d + 1 ≤ dz := by
          rcases Nat.lt_or_ge d dz with h | h
          · exact h
          · exfalso
            obtain rfl : d = dz := by omega
            obtain ⟨s', hs', hf'⟩ := HZ.out
            rw [← HI.out, HS?.out] at hs'
            cases hs'
            exact HNS.out (.inl hf')
        go_wp2_with fail
        refine wp_region_held_drew (S := fun v => v.cell? ⟨p, 18, none⟩ = some (.slice (some ⟨q, 0, none⟩) n n) ∧ v.cell? ⟨q, i * 42, none⟩ = some (.bool true) ∧ v.rangeAt q (i * 42 + 1) s.f.v.key.cells ∧ v.rangeAt g3 0 k.cells) (by kernel_rfl) ?_ (fun hHeld => ?_)
        focus (have hz := HN.out; exact ⟨((HE.out.trans (Below.mono bup HE.out.size)).cell (p := ⟨p, 18, none⟩) ltp).trans (by rw [hz]; exact HCL.out.2.2.2), ((HE.out.trans (Below.mono bup HE.out.size)).cell (p := ⟨q, i * 42, none⟩) ltq).trans (by rw [← HU.out]; exact C0.out), range_below C3.out ltq (HE.out.trans (Below.mono bup HE.out.size)), range_below HR3.out ltg (HE.out.trans (Below.mono bup HE.out.size))⟩)
        refine tk 0 (oi := ⟨some 9, _, _, _, _, _⟩) (v := ?_) rfl (by kernel_rfl) (.inl ⟨by rfl, ?_⟩) hHeld ?_; rotate_left; focus (intro w hSw; (try dsimp only at hSw); go_simp; try with_reducible rfl)
        simp only [PT]
        refine tk 1 (oi := ⟨some 10, _, _, _, _, _⟩) (v := ?_) rfl (by kernel_rfl) (.inl ⟨by rfl, ?_⟩) hHeld ?_; rotate_left; focus (intro w hSw; (try dsimp only at hSw); go_simp; try with_reducible rfl)
        simp only [PT]
        refine tk 2 (oi := ⟨some 11, _, _, _, _, _⟩) (v := ?_) rfl (by kernel_rfl) (.inl ⟨by rfl, ?_⟩) hHeld ?_; rotate_left; focus (intro w hSw; (try dsimp only at hSw); go_simp; try with_reducible rfl)
        simp only [PT]
        refine tk 3 (oi := ⟨some 12, _, _, _, _, _⟩) (v := ?_) rfl (by kernel_rfl) (.inl ⟨by rfl, ?_⟩) hHeld ?_; rotate_left; focus (intro w hSw; (try dsimp only at hSw); go_simp; try with_reducible rfl)
        simp only [PT]
        refine tk 4 (oi := ⟨some 13, _, _, _, _, _⟩) (v := ?_) rfl (by kernel_rfl) (.inl ⟨by rfl, ?_⟩) hHeld ?_; rotate_left; focus (intro w hSw; (try dsimp only at hSw); go_simp; try with_reducible rfl)
        simp only [PT]
        refine tk 5 (oi := ⟨some 14, _, _, _, _, _⟩) (v := ?_) rfl (by kernel_rfl) (.inl ⟨by rfl, ?_⟩) hHeld ?_; rotate_left; focus (intro w hSw; (try dsimp only at hSw); go_simp; try with_reducible rfl)
        simp only [PT]
        refine tk 6 (oi := ⟨some 15, _, _, _, _, _⟩) (v := ?_) rfl (by kernel_rfl) (.inl ⟨by rfl, ?_⟩) hHeld ?_; rotate_left; focus (intro w hSw; (try dsimp only at hSw); go_simp; try with_reducible rfl)
        simp only [PT]
        refine tk 7 (oi := ⟨some 16, _, _, _, _, _⟩) (v := ?_) rfl (by kernel_rfl) (.inl ⟨by rfl, ?_⟩) hHeld ?_; rotate_left; focus (intro w hSw; (try dsimp only at hSw); go_simp; try with_reducible rfl)
        simp only [PT]
        refine tk 8 (oi := ⟨some 17, _, _, _, _, _⟩) (v := ?_) rfl (by kernel_rfl) (.inl ⟨by rfl, ?_⟩) hHeld ?_; rotate_left; focus (intro w hSw; (try dsimp only at hSw); go_simp; try with_reducible rfl)
        simp only [PT]
        first | (refine tk 9 (oi := ⟨some 18, _, _, _, _, _⟩) (v := undef) rfl (by kernel_rfl) (.inr ⟨by rfl, rfl⟩) hHeld ?_) | (refine tk 9 (oi := ⟨some 18, _, _, _, _, _⟩) (v := ?_) rfl (by kernel_rfl) (.inl ⟨by rfl, ?_⟩) hHeld ?_; rotate_left; focus (intro w hSw; (try dsimp only at hSw); go_simp; try with_reducible rfl))
        simp only [PT]
        first | (refine tk 10 (oi := ⟨some 19, _, _, _, _, _⟩) (v := undef) rfl (by kernel_rfl) (.inr ⟨by rfl, rfl⟩) hHeld ?_) | (refine tk 10 (oi := ⟨some 19, _, _, _, _, _⟩) (v := ?_) rfl (by kernel_rfl) (.inl ⟨by rfl, ?_⟩) hHeld ?_; rotate_left; focus (intro w hSw; (try dsimp only at hSw); go_simp; try with_reducible rfl))
        simp only [PT]
        first | (refine tk 11 (oi := ⟨some 20, _, _, _, _, _⟩) (v := undef) rfl (by kernel_rfl) (.inr ⟨by rfl, rfl⟩) hHeld ?_) | (refine tk 11 (oi := ⟨some 20, _, _, _, _, _⟩) (v := ?_) rfl (by kernel_rfl) (.inl ⟨by rfl, ?_⟩) hHeld ?_; rotate_left; focus (intro w hSw; (try dsimp only at hSw); go_simp; try with_reducible rfl))
        simp only [PT]
        first | (refine tk 12 (oi := ⟨some 21, _, _, _, _, _⟩) (v := undef) rfl (by kernel_rfl) (.inr ⟨by rfl, rfl⟩) hHeld ?_) | (refine tk 12 (oi := ⟨some 21, _, _, _, _, _⟩) (v := ?_) rfl (by kernel_rfl) (.inl ⟨by rfl, ?_⟩) hHeld ?_; rotate_left; focus (intro w hSw; (try dsimp only at hSw); go_simp; try with_reducible rfl))
        simp only [PT]
        first | (refine tk 13 (oi := ⟨some 22, _, _, _, _, _⟩) (v := undef) rfl (by kernel_rfl) (.inr ⟨by rfl, rfl⟩) hHeld ?_) | (refine tk 13 (oi := ⟨some 22, _, _, _, _, _⟩) (v := ?_) rfl (by kernel_rfl) (.inl ⟨by rfl, ?_⟩) hHeld ?_; rotate_left; focus (intro w hSw; (try dsimp only at hSw); go_simp; try with_reducible rfl))
        simp only [PT]
        first | (refine tk 14 (oi := ⟨some 23, _, _, _, _, _⟩) (v := undef) rfl (by kernel_rfl) (.inr ⟨by rfl, rfl⟩) hHeld ?_) | (refine tk 14 (oi := ⟨some 23, _, _, _, _, _⟩) (v := ?_) rfl (by kernel_rfl) (.inl ⟨by rfl, ?_⟩) hHeld ?_; rotate_left; focus (intro w hSw; (try dsimp only at hSw); go_simp; try with_reducible rfl))
        simp only [PT]
        first | (refine tk 15 (oi := ⟨some 24, _, _, _, _, _⟩) (v := undef) rfl (by kernel_rfl) (.inr ⟨by rfl, rfl⟩) hHeld ?_) | (refine tk 15 (oi := ⟨some 24, _, _, _, _, _⟩) (v := ?_) rfl (by kernel_rfl) (.inl ⟨by rfl, ?_⟩) hHeld ?_; rotate_left; focus (intro w hSw; (try dsimp only at hSw); go_simp; try with_reducible rfl))
        simp only [PT]
        first | (refine tk 16 (oi := ⟨some 25, _, _, _, _, _⟩) (v := undef) rfl (by kernel_rfl) (.inr ⟨by rfl, rfl⟩) hHeld ?_) | (refine tk 16 (oi := ⟨some 25, _, _, _, _, _⟩) (v := ?_) rfl (by kernel_rfl) (.inl ⟨by rfl, ?_⟩) hHeld ?_; rotate_left; focus (intro w hSw; (try dsimp only at hSw); go_simp; try with_reducible rfl))
        simp only [PT]
        first | (refine tk 17 (oi := ⟨some 26, _, _, _, _, _⟩) (v := undef) rfl (by kernel_rfl) (.inr ⟨by rfl, rfl⟩) hHeld ?_) | (refine' tk 17 (oi := ⟨some 26, _, _, _, _, _⟩) (v := _) rfl (by kernel_rfl) (yieldsIf_load_mid (by rfl) _ _ rfl _ _ rfl (s.f.v.key.cells) _ (fun v hv => hv.2.2.1) (Try.underlying26) rfl (HIK.out)) hHeld ?_)
        simp only [PT]
        first | (refine tk 18 (oi := ⟨some 27, _, _, _, _, _⟩) (v := undef) rfl (by kernel_rfl) (.inr ⟨by rfl, rfl⟩) hHeld ?_) | (refine' tk 18 (oi := ⟨some 27, _, _, _, _, _⟩) (v := _) rfl (by kernel_rfl) (yieldsIf_load_mid (by rfl) _ _ rfl _ _ rfl (k.cells) _ (fun v hv => hv.2.2.2) (Try.underlying26) rfl (HI2.out)) hHeld ?_)
        simp only [PT]
        first | (refine tk 19 (oi := ⟨some 28, _, _, _, _, _⟩) (v := undef) rfl (by kernel_rfl) (.inr ⟨by rfl, rfl⟩) hHeld ?_) | (refine' tk 19 (oi := ⟨some 28, _, _, _, _, _⟩) (v := _) rfl (by kernel_rfl) (yields_tup_ne s.f.v.key k s.f.ok.1 HO.out.1 s.f.ok.2.1 HO.out.2 false ⟨fun hc => Bool.noConfusion hc, fun hc => absurd hc HBK.out⟩ (by rfl) (.tmp 26) (.tmp 27) rfl rfl rfl) hHeld ?_)
        simp only [PT]
        refine tk 20 (oi := ⟨some 29, _, _, _, _, _⟩) (v := ?_) rfl (by kernel_rfl) (.inl ⟨by rfl, ?_⟩) hHeld ?_; rotate_left; focus (intro w hSw; (try dsimp only at hSw); go_simp; try with_reducible rfl)
        simp only [PT]
        refine wpAnyH_done (by kernel_rfl) ?_ _
        have hc18 : wr.drew.cell? ⟨p, 18, none⟩ = some (.slice (some ⟨q, 0, none⟩) n n) := ((HE.out.trans (Below.mono bup HE.out.size)).cell (p := ⟨p, 18, none⟩) ltp).trans (by rw [HN.out]; exact HCL.out.2.2.2)
        have e1 : IntKind.i64.wrap ((i : Int) + 1) = (i : Int) + 1 := by rw [IntKind.wrap_i64]; omega
        have e2 : ((i : Int) + 1) % (n : Int) = (((h + (d + 1)) % n : Nat) : Int) := by
          rw [← step_mod hn0, ← HI.out]
          push_cast
          rfl
        have e4 : ((n : Int) == 0) = false := by simp; omega
        have e5 : ¬ n = 0 := by omega
        have E2 := Lib.hid e2
        clear e2
        go_wp2_with fail
        go_roundw
        case rel => exact ⟨d + 1, hdl, congrArg (Value.int .i64) E2.out, Lib.hid (fun d' hd' s' hs' => by
          rcases Nat.lt_or_ge d' d with h1 | h1
          · exact hpre.out d' h1 s' hs'
          · obtain rfl : d' = d := by omega
            rw [← HI.out, HS?.out] at hs'
            cases hs'
            exact HNS.out), HE.out.trans (Below.mono bup HE.out.size)⟩
        case measure =>
          have m1 := dist_mod (h := h) hn0 hdl hdz
          have m2 := dist_mod (h := h) hn0 hd hdz
          rw [HDZ.out] at m1 m2
          rw [← HI.out] at m2
          have E3 := E2.out
          simp only [intOf, E3, Int.toNat_natCast, m1, m2]
          omega
    · have HST : Hid (stopS s k) := Lib.hid (.inl hu)
      have HU := Lib.hid hu
      clear hu
      go_wp2_with fail
      refine wp_region_held_drew (S := fun v => v.cell? ⟨p, 18, none⟩ = some (.slice (some ⟨q, 0, none⟩) n n) ∧ v.cell? ⟨q, i * 42, none⟩ = some (.bool false)) (by kernel_rfl) ?_ (fun hHeld => ?_)
      focus (have hz := HN.out; exact ⟨((HE.out.trans (Below.mono bup HE.out.size)).cell (p := ⟨p, 18, none⟩) ltp).trans (by rw [hz]; exact HCL.out.2.2.2), ((HE.out.trans (Below.mono bup HE.out.size)).cell (p := ⟨q, i * 42, none⟩) ltq).trans (by rw [← HU.out]; exact C0.out)⟩)
      refine tk 0 (oi := ⟨some 9, _, _, _, _, _⟩) (v := ?_) rfl (by kernel_rfl) (.inl ⟨by rfl, ?_⟩) hHeld ?_; rotate_left; focus (intro w hSw; (try dsimp only at hSw); go_simp; try with_reducible rfl)
      simp only [PT]
      refine tk 1 (oi := ⟨some 10, _, _, _, _, _⟩) (v := ?_) rfl (by kernel_rfl) (.inl ⟨by rfl, ?_⟩) hHeld ?_; rotate_left; focus (intro w hSw; (try dsimp only at hSw); go_simp; try with_reducible rfl)
      simp only [PT]
      refine tk 2 (oi := ⟨some 11, _, _, _, _, _⟩) (v := ?_) rfl (by kernel_rfl) (.inl ⟨by rfl, ?_⟩) hHeld ?_; rotate_left; focus (intro w hSw; (try dsimp only at hSw); go_simp; try with_reducible rfl)
      simp only [PT]
      refine tk 3 (oi := ⟨some 12, _, _, _, _, _⟩) (v := ?_) rfl (by kernel_rfl) (.inl ⟨by rfl, ?_⟩) hHeld ?_; rotate_left; focus (intro w hSw; (try dsimp only at hSw); go_simp; try with_reducible rfl)
      simp only [PT]
      refine tk 4 (oi := ⟨some 13, _, _, _, _, _⟩) (v := ?_) rfl (by kernel_rfl) (.inl ⟨by rfl, ?_⟩) hHeld ?_; rotate_left; focus (intro w hSw; (try dsimp only at hSw); go_simp; try with_reducible rfl)
      simp only [PT]
      refine tk 5 (oi := ⟨some 14, _, _, _, _, _⟩) (v := ?_) rfl (by kernel_rfl) (.inl ⟨by rfl, ?_⟩) hHeld ?_; rotate_left; focus (intro w hSw; (try dsimp only at hSw); go_simp; try with_reducible rfl)
      simp only [PT]
      refine tk 6 (oi := ⟨some 15, _, _, _, _, _⟩) (v := ?_) rfl (by kernel_rfl) (.inl ⟨by rfl, ?_⟩) hHeld ?_; rotate_left; focus (intro w hSw; (try dsimp only at hSw); go_simp; try with_reducible rfl)
      simp only [PT]
      refine tk 7 (oi := ⟨some 16, _, _, _, _, _⟩) (v := ?_) rfl (by kernel_rfl) (.inl ⟨by rfl, ?_⟩) hHeld ?_; rotate_left; focus (intro w hSw; (try dsimp only at hSw); go_simp; try with_reducible rfl)
      simp only [PT]
      refine tk 8 (oi := ⟨some 17, _, _, _, _, _⟩) (v := ?_) rfl (by kernel_rfl) (.inl ⟨by rfl, ?_⟩) hHeld ?_; rotate_left; focus (intro w hSw; (try dsimp only at hSw); go_simp; try with_reducible rfl)
      simp only [PT]
      first | (refine tk 9 (oi := ⟨some 18, _, _, _, _, _⟩) (v := undef) rfl (by kernel_rfl) (.inr ⟨by rfl, rfl⟩) hHeld ?_) | (refine tk 9 (oi := ⟨some 18, _, _, _, _, _⟩) (v := ?_) rfl (by kernel_rfl) (.inl ⟨by rfl, ?_⟩) hHeld ?_; rotate_left; focus (intro w hSw; (try dsimp only at hSw); go_simp; try with_reducible rfl))
      simp only [PT]
      first | (refine tk 10 (oi := ⟨some 19, _, _, _, _, _⟩) (v := undef) rfl (by kernel_rfl) (.inr ⟨by rfl, rfl⟩) hHeld ?_) | (refine tk 10 (oi := ⟨some 19, _, _, _, _, _⟩) (v := ?_) rfl (by kernel_rfl) (.inl ⟨by rfl, ?_⟩) hHeld ?_; rotate_left; focus (intro w hSw; (try dsimp only at hSw); go_simp; try with_reducible rfl))
      simp only [PT]
      first | (refine tk 11 (oi := ⟨some 20, _, _, _, _, _⟩) (v := undef) rfl (by kernel_rfl) (.inr ⟨by rfl, rfl⟩) hHeld ?_) | (refine tk 11 (oi := ⟨some 20, _, _, _, _, _⟩) (v := ?_) rfl (by kernel_rfl) (.inl ⟨by rfl, ?_⟩) hHeld ?_; rotate_left; focus (intro w hSw; (try dsimp only at hSw); go_simp; try with_reducible rfl))
      simp only [PT]
      first | (refine tk 12 (oi := ⟨some 21, _, _, _, _, _⟩) (v := undef) rfl (by kernel_rfl) (.inr ⟨by rfl, rfl⟩) hHeld ?_) | (refine tk 12 (oi := ⟨some 21, _, _, _, _, _⟩) (v := ?_) rfl (by kernel_rfl) (.inl ⟨by rfl, ?_⟩) hHeld ?_; rotate_left; focus (intro w hSw; (try dsimp only at hSw); go_simp; try with_reducible rfl))
      simp only [PT]
      first | (refine tk 13 (oi := ⟨some 22, _, _, _, _, _⟩) (v := undef) rfl (by kernel_rfl) (.inr ⟨by rfl, rfl⟩) hHeld ?_) | (refine tk 13 (oi := ⟨some 22, _, _, _, _, _⟩) (v := ?_) rfl (by kernel_rfl) (.inl ⟨by rfl, ?_⟩) hHeld ?_; rotate_left; focus (intro w hSw; (try dsimp only at hSw); go_simp; try with_reducible rfl))
      simp only [PT]
      first | (refine tk 14 (oi := ⟨some 23, _, _, _, _, _⟩) (v := undef) rfl (by kernel_rfl) (.inr ⟨by rfl, rfl⟩) hHeld ?_) | (refine tk 14 (oi := ⟨some 23, _, _, _, _, _⟩) (v := ?_) rfl (by kernel_rfl) (.inl ⟨by rfl, ?_⟩) hHeld ?_; rotate_left; focus (intro w hSw; (try dsimp only at hSw); go_simp; try with_reducible rfl))
      simp only [PT]
      first | (refine tk 15 (oi := ⟨some 24, _, _, _, _, _⟩) (v := undef) rfl (by kernel_rfl) (.inr ⟨by rfl, rfl⟩) hHeld ?_) | (refine tk 15 (oi := ⟨some 24, _, _, _, _, _⟩) (v := ?_) rfl (by kernel_rfl) (.inl ⟨by rfl, ?_⟩) hHeld ?_; rotate_left; focus (intro w hSw; (try dsimp only at hSw); go_simp; try with_reducible rfl))
      simp only [PT]
      first | (refine tk 16 (oi := ⟨some 25, _, _, _, _, _⟩) (v := undef) rfl (by kernel_rfl) (.inr ⟨by rfl, rfl⟩) hHeld ?_) | (refine tk 16 (oi := ⟨some 25, _, _, _, _, _⟩) (v := ?_) rfl (by kernel_rfl) (.inl ⟨by rfl, ?_⟩) hHeld ?_; rotate_left; focus (intro w hSw; (try dsimp only at hSw); go_simp; try with_reducible rfl))
      simp only [PT]
      first | (refine tk 17 (oi := ⟨some 26, _, _, _, _, _⟩) (v := undef) rfl (by kernel_rfl) (.inr ⟨by rfl, rfl⟩) hHeld ?_) | (refine tk 17 (oi := ⟨some 26, _, _, _, _, _⟩) (v := ?_) rfl (by kernel_rfl) (.inl ⟨by rfl, ?_⟩) hHeld ?_; rotate_left; focus (intro w hSw; (try dsimp only at hSw); go_simp; try with_reducible rfl))
      simp only [PT]
      first | (refine tk 18 (oi := ⟨some 27, _, _, _, _, _⟩) (v := undef) rfl (by kernel_rfl) (.inr ⟨by rfl, rfl⟩) hHeld ?_) | (refine tk 18 (oi := ⟨some 27, _, _, _, _, _⟩) (v := ?_) rfl (by kernel_rfl) (.inl ⟨by rfl, ?_⟩) hHeld ?_; rotate_left; focus (intro w hSw; (try dsimp only at hSw); go_simp; try with_reducible rfl))
      simp only [PT]
      first | (refine tk 19 (oi := ⟨some 28, _, _, _, _, _⟩) (v := undef) rfl (by kernel_rfl) (.inr ⟨by rfl, rfl⟩) hHeld ?_) | (refine tk 19 (oi := ⟨some 28, _, _, _, _, _⟩) (v := ?_) rfl (by kernel_rfl) (.inl ⟨by rfl, ?_⟩) hHeld ?_; rotate_left; focus (intro w hSw; (try dsimp only at hSw); go_simp; try with_reducible rfl))
      simp only [PT]
      refine tk 20 (oi := ⟨some 29, _, _, _, _, _⟩) (v := ?_) rfl (by kernel_rfl) (.inl ⟨by rfl, ?_⟩) hHeld ?_; rotate_left; focus (intro w hSw; (try dsimp only at hSw); go_simp; try with_reducible rfl)
      simp only [PT]
      refine wpAnyH_done (by kernel_rfl) ?_ _
      go_wp2_with fail
      go_ret
      exact ⟨i, rfl, ⟨d, by rw [← HN.out]; omega, by rw [← HN.out]; exact HI.out, fun s' hs' => by rw [HS?.out] at hs'; cases hs'; exact HST.out, fun d' hd' => by rw [← HN.out]; exact hpre.out d' hd'⟩, HB.out.trans ((HE.out.trans (Below.mono bup HE.out.size)).mono HSZ2.out)⟩
end Go.Proofs.Ytgpdlhbndoeldaa
/-
  A struct built out of parts: laws. Over any program.
-/
namespace Go.Proofs.Ytgpdlhbndoeldaa
open Go.RowKit Go.Sort
set_option linter.unusedVariables false
set_option linter.unusedSimpArgs false

theorem fold_set : ∀ (vs : List Value) (off k : Nat) (cells : List Value), off + k + vs.length ≤ cells.length →
    (vs.zipIdx k).foldl (fun (cs : Array Value) (x : Value × Nat) => cs.setIfInBounds (off + x.2) x.1) cells.toArray = (cells.take (off + k) ++ (vs ++ cells.drop (off + k + vs.length))).toArray
  | [], off, k, cells, _ => by simp
  | v :: vs, off, k, cells, h => by
    rw [List.zipIdx_cons, List.foldl_cons]
    simp only [List.setIfInBounds_toArray]
    rw [fold_set vs off (k + 1) (cells.set (off + k) v) (by simp at h ⊢; omega)]
    congr 1
    simp only [List.length_cons] at h
    rw [← Nat.add_assoc, List.take_succ_eq_append_getElem (by simp; omega)]
    simp only [List.getElem_set_self, List.append_assoc, List.singleton_append, List.cons_append]
    rw [List.take_set_of_le (Nat.le_refl _), List.drop_set_of_lt (by omega)]
    rw [List.length_cons, show off + k + 1 + vs.length = off + k + (vs.length + 1) by omega]
    rfl
theorem fill_one (place : Nat → Option (Nat × Nat)) (cells : List Value) (i off n : Nat) (v : Value) (vs : List Value) (rest : List (Nat × Value)) (hp : place i = some (off, n)) (hv : v.cells = vs.toArray) (hn : vs.length = n) (hle : off + n ≤ cells.length) :
    Instr.fill place cells.toArray ((i, v) :: rest) = Instr.fill place (cells.take off ++ (vs ++ cells.drop (off + n))).toArray rest := by
  subst hn
  unfold Instr.fill
  rw [hp]
  have h1 : ¬ (off + v.cells.size > cells.toArray.size) := by rw [hv]; simp; omega
  have h2 : v.cells.size = vs.length := by rw [hv]; simp
  simp only [h2, ne_eq, not_true, decide_false, Bool.false_or]
  rw [h2] at h1
  rw [if_neg (by simpa using h1), hv]
  have e := fold_set vs off 0 cells (by omega)
  rw [Nat.add_zero] at e
  rw [← e]
  rw [Instr.fill.eq_def place _ rest]
  simp [← Array.foldl_toList]
theorem fill_nil (place : Nat → Option (Nat × Nat)) (cells : Array Value) : Instr.fill place cells [] = some cells := rfl
theorem wpL_build {P : Program} {ops : Array Oper} {rest : List Oper} {o : Oper} {a : Act} {w : World} {Q : Exit → Act → World → Prop} (hgd : Region.wanted o (yielded ops a.tmps) = true) (T : TypeId) (parts : Array (Nat × Operand)) (ho : o.op = .build T parts)
    (ps : List (Nat × Value)) (hps : (parts.toList.map fun x => (x.1, a.eval x.2)) = ps) (cs : Array Value) (hb : P.built T ps = some cs) (h : wpList P ops Q rest (a.put o.dst (.agg cs)) w) : wpList P ops Q (o :: rest) a w := by
  refine wpL_run hgd ?_ h
  have hb' : P.built T (parts.map fun x => (x.1, a.eval x.2)).toList = some cs := by rw [Array.toList_map, hps]; exact hb
  unfold execOp
  simp only [ho, Sem.run_bind, run_build (P := P) w T _ cs hb', Result.andThen_ok, Sem.run_pure]
theorem yields_build {P : Program} {ops : Array Oper} {S : World → Prop} {o : Oper} {a : Act} (hgd : Region.wanted o (yielded ops a.tmps) = true) (T : TypeId) (parts : Array (Nat × Operand)) (ho : o.op = .build T parts)
    (ps : List (Nat × Value)) (hps : (parts.toList.map fun x => (x.1, a.eval x.2)) = ps) (cs : Array Value) (hb : P.built T ps = some cs) : YieldsIf P ops S o (.agg cs) a :=
  .inl ⟨hgd, fun w _ => by
    have hb' : P.built T (parts.map fun x => (x.1, a.eval x.2)).toList = some cs := by rw [Array.toList_map, hps]; exact hb
    unfold execOp
    simp only [ho, Sem.run_bind, run_build (P := P) w T _ cs hb', Result.andThen_ok, Sem.run_pure]⟩
end Go.Proofs.Ytgpdlhbndoeldaa
/-
  Chapter 21: New, Len, Get: walked.
-/
namespace Go.Proofs.Ytgpdlhbndoeldaa
open Go.RowKit Go.Sort
set_option linter.unusedVariables false
set_option linter.unusedSimpArgs false
set_option maxRecDepth 100000
set_option maxHeartbeats 8000000

def zeroS : Slt := ⟨false, ⟨zeroF, zeroF_ok⟩⟩
theorem slt_info : (Try.prog.info? 79).map (fun i => (i.zero, i.size)) = some (some (.agg zeroS.cells.toArray), 42) := by kernel_rfl
theorem slt_size : (Try.prog.info? 79).map (·.size) = some 42 := by kernel_rfl
theorem elS : Elem Try.prog 67 79 42 112 (.agg zeroS.cells.toArray) := ⟨Try.underlying67, by kernel_rfl, rfl, by omega⟩
theorem made_get (z : Array Value) (n i : Nat) (h : i < (madeCells z n).size) : (madeCells z n)[i] = z[i % z.size]! := by simp [madeCells]
theorem made_rows (n : Nat) : madeCells (Value.agg zeroS.cells.toArray).cells (n * 42) = (rowC (List.replicate n zeroS)).toArray := by
  apply Array.ext
  · rw [size_madeCells, List.size_toArray, rowC_length, List.length_replicate]
  · intro i h1 h2
    have h1' := h1
    rw [size_madeCells] at h1'
    have hm : i % 42 < 42 := Nat.mod_lt _ (by omega)
    have hd : i / 42 < n := by omega
    have e := rowC_at (List.replicate n zeroS) (i / 42) (i % 42) (by simpa using hd) hm
    rw [show i / 42 * 42 + i % 42 = i by omega, List.getElem_replicate] at e
    rw [List.getElem?_eq_getElem (by simpa using h2), List.getElem?_eq_getElem (by rw [Slt.length]; exact hm)] at e
    rw [made_get]
    refine Eq.trans ?_ (Option.some.inj e).symm
    show zeroS.cells.toArray[i % 42]! = _
    rw [getElem!_pos zeroS.cells.toArray (i % 42) hm]
    rfl
theorem built_tab {kb : List UInt8} (hk : kb.length = 16) (m x q : Nat) : Try.prog.built 69 [(0, .agg (BV kb).toArray), (1, .int .i64 (m : Int)), (3, .slice (some ⟨q, 0, none⟩) x x)] = some (tabC kb m 0 q x).toArray := by
  have e : ∀ ps, Try.prog.built 69 ps = Instr.fill ((#[(0, 16), (16, 1), (17, 1), (18, 1)] : Array (Nat × Nat))[·]?) (List.replicate 16 (Value.int .u8 0) ++ [Value.int .i64 0, Value.int .i64 0, Value.slice none 0 0]).toArray ps := fun ps => by kernel_rfl
  have l1 : (BV kb).length = 16 := by rw [BV_length, hk]
  rw [e, fill_one _ _ _ 0 16 _ (BV kb) _ rfl rfl l1 (by simp), fill_one _ _ _ 16 1 _ [.int .i64 (m : Int)] _ rfl rfl rfl (by simp [l1]), fill_one _ _ _ 18 1 _ [.slice (some ⟨q, 0, none⟩) x x] _ rfl rfl rfl (by simp [l1]), fill_nil]
  have t1 : (BV kb).take 18 = BV kb := List.take_of_length_le (by omega)
  have t2 : (BV kb).drop 17 = [] := List.drop_of_length_le (by omega)
  have t3 : (BV kb).drop 19 = [] := List.drop_of_length_le (by omega)
  have t4 : (BV kb).take 16 = BV kb := List.take_of_length_le (by omega)
  simp [tabC, List.take_append, List.drop_append, l1, t1, t2, t3, t4]
theorem len_any (p q : Nat) (kb : List UInt8) (room cnt : Nat) (S : List Slt) (w : World) (ht : Tb w p q kb room cnt S) :
    Calls Try.prog 12 #[.pointer (some ⟨p, 0, none⟩)] w fun e w' => e = .returned (.int .i64 (cnt : Int)) ∧ Below w.heap.size w w' := by
  have hc := (Tb.cells ht).2.2.1
  have HT := Lib.hid ht
  have HC := Lib.hid hc
  have ltp := lt_of_block ht.hp
  clear ht
  go_enter Try.func12, Try.ntmps12
  go_wp2_with fail
  go_ret
  exact ⟨rfl, bup⟩
/-- a new table -/
theorem new_any (kb : List UInt8) (hkb : kb.length = 16) (room : Int) (w : World) :
    Calls Try.prog 11 #[.agg (BV kb).toArray, .int .i64 room] w fun e w' =>
      ((room < 1 ∨ 4096 < room) ∧ e = .returned (.tuple #[.pointer none, .int .i64 1]) ∨
       (1 ≤ room ∧ room ≤ 4096 ∧ ∃ p q n, e = .returned (.tuple #[.pointer (some ⟨p, 0, none⟩), .int .i64 0]) ∧ Tb w' p q kb room.toNat 0 (List.replicate n zeroS) ∧ 2 * room.toNat ≤ n ∧ w.heap.size ≤ q ∧ q < p)) ∧ Below w.heap.size w w' := by
  have HB := Lib.hid (Below.refl w.heap.size w)
  have HK := Lib.hid hkb
  have HI1 : Hid ((Try.prog.info? 22).map (·.size) = some (BV kb).length) := Lib.hid (by rw [BV_length, hkb]; exact arr16)
  have u1 := Try.underlying22
  clear hkb
  go_enter Try.func11, Try.ntmps11
  by_cases h1 : room < 1
  · go_wp2_with (first
      | ((with_reducible refine sl 2 ?_); go_must (refine wpL_boxG rfl 22 (.tmp 0) rfl (BV kb).toArray rfl ?_); intro w1 g2 he__ le_g2 lt_g2 hg__ hb__; have HG2 := Lib.hid hg__; have hE__ := cU HB bup hb__; replace HB := ck HB hE__; clear hE__; clear hg__ hb__ he__; simp only [PT]))
    go_ret2
    exact ⟨.inl ⟨.inl h1, rfl⟩, HB.out⟩
  · by_cases h2 : 4096 < room
    · have d1 : decide (room < 1) = false := by simp; omega
      have HH := Lib.hid h2
      clear h1
      go_wp2_with (first
        | ((with_reducible refine sl 2 ?_); go_must (refine wpL_boxG rfl 22 (.tmp 0) rfl (BV kb).toArray rfl ?_); intro w1 g2 he__ le_g2 lt_g2 hg__ hb__; have HG2 := Lib.hid hg__; have hE__ := cU HB bup hb__; replace HB := ck HB hE__; clear hE__; clear hg__ hb__ he__; simp only [PT]))
      go_ret2
      exact ⟨.inl ⟨.inr HH.out, rfl⟩, HB.out⟩
    · have d1 : decide (room < 1) = false := by simp; omega
      have d2 : decide (4096 < room) = false := by simp; omega
      obtain ⟨m, rfl⟩ : ∃ m : Nat, room = (m : Int) := ⟨room.toNat, by omega⟩
      have HM : Hid (1 ≤ m ∧ m ≤ 4096) := Lib.hid (by omega)
      have e2 : IntKind.i64.wrap (2 * (m : Int)) = 2 * (m : Int) := by rw [IntKind.wrap_i64]; omega
      clear h1 h2
      go_wp2_with (first
        | ((with_reducible refine sl 2 ?_); go_must (refine wpL_boxG rfl 22 (.tmp 0) rfl (BV kb).toArray rfl ?_); intro w1 g2 he__ le_g2 lt_g2 hg__ hb__; have HG2 := Lib.hid hg__; have hE__ := cU HB bup hb__; replace HB := ck HB hE__; clear hE__; clear hg__ hb__ he__; simp only [PT]))
      clear d1 d2
      go_loop [6] (fun i => ∃ k : Nat, k ≤ 13 ∧ i = .int .i64 ((2 ^ k : Nat) : Int)) (fun i => 8193 - (intOf i).toNat)
      case atStart => exact ⟨0, by omega, rfl⟩
      case round =>
        obtain ⟨k, hk, rfl⟩ := hrel
        obtain ⟨x, hx⟩ : ∃ x, x = 2 ^ k := ⟨_, rfl⟩
        have hx13 : x ≤ 8192 := by rw [hx]; exact Nat.pow_le_pow_right (by omega) hk
        have hx0 : 0 < x := by rw [hx]; exact Nat.two_pow_pos k
        rw [← hx]
        have HX := Lib.hid hx
        have e3 : IntKind.i64.wrap ((x : Int) * 2) = (x : Int) * 2 := by rw [IntKind.wrap_i64]; omega
        clear hx
        by_cases hlt : (x : Int) < 2 * (m : Int)
        · have hk12 : k + 1 ≤ 13 := by
            rcases Nat.lt_or_ge k 13 with h | h
            · exact h
            · exfalso
              have hm := HM.out
              obtain rfl : k = 13 := by omega
              have := HX.out
              omega
          go_wp2_with fail
          go_round
          case rel => exact ⟨k + 1, hk12, congrArg (Value.int .i64) (by rw [Nat.pow_succ, ← HX.out]; push_cast; rfl)⟩
          case measure => simp [intOf]; omega
        · have hge : 2 * m ≤ x := by omega
          have HGE := Lib.hid hge
          have HX2 := Lib.hid (And.intro hx0 hx13)
          have dd : decide ((x : Int) < 2 * (m : Int)) = false := by simp; omega
          clear hlt hge
          go_wp2_with fail
          clear dd
          have HE := Lib.hid (Below.refl w1.heap.size w1)
          have HR2 := Lib.hid (range_block HG2.out)
          refine wp_region_held_drew (S := fun v => v.rangeAt g2 0 (BV kb)) (by kernel_rfl) ?_ (fun hHeld => ?_)
          focus (exact range_below HR2.out lt_g2 (HE.out.trans (Below.mono bup HE.out.size)))
          refine' tk 0 (oi := ⟨some 19, _, _, _, _, _⟩) (v := _) rfl (by kernel_rfl) (yieldsIf_load_mid (by rfl) _ _ rfl _ _ rfl (BV kb) _ (fun v hv => hv) (Try.underlying22) rfl (HI1.out)) hHeld ?_
          simp only [PT]
          refine tk 1 (oi := ⟨some 20, _, _, _, _, _⟩) (v := ?_) rfl (by kernel_rfl) (.inl ⟨by rfl, ?_⟩) hHeld ?_; rotate_left; focus (intro w hSw; (try dsimp only at hSw); go_simp; try with_reducible rfl)
          simp only [PT]
          refine tk 2 (oi := ⟨some 21, _, _, _, _, _⟩) (v := ?_) rfl (by kernel_rfl) (.inl ⟨by rfl, ?_⟩) hHeld ?_; rotate_left; focus (intro w hSw; (try dsimp only at hSw); go_simp; try with_reducible rfl)
          simp only [PT]
          refine wpAnyH_ready (rs := [3]) (by kernel_rfl) (by simp) ?_
          refine (AllReadyH.cons (o := ⟨some 22, _, _, _, _, _⟩) rfl (fun K hK => ?_) AllReadyH.nil)
          (go_must (refine step_makeG elS rfl (.tmp 21) (.tmp 21) rfl x rfl rfl (by omega) (by omega) ?_); intro w4 q le_q lt_q hg__ hb__; rw [made_rows] at hg__; have HQ := Lib.hid hg__; have LQ := Lib.hid (show w1.heap.size ≤ q from Nat.le_trans HE.out.size (Nat.le_trans (bsz bup) le_q)); replace HE := cE0 HE bup hb__; clear hg__ hb__ le_q)
          refine hK.out _ _ ?_ (fun hHeld => ?_)
          focus (exact range_below HR2.out lt_g2 (HE.out.trans (Below.mono bup HE.out.size)))
          clear hK K
          try simp only [PT]
          refine' tk 4 (oi := ⟨some 23, _, _, _, _, _⟩) (v := _) rfl (by kernel_rfl) (yields_build (by rfl) 69 _ rfl [(0, .agg (BV kb).toArray), (1, .int .i64 (m : Int)), (3, .slice (some ⟨q, 0, none⟩) x x)] rfl (tabC kb m 0 q x).toArray (built_tab HK.out m x q)) hHeld ?_
          simp only [PT]
          refine wpAnyH_ready (rs := [5]) (by kernel_rfl) (by simp) ?_
          refine (AllReadyH.cons (o := ⟨some 24, _, _, _, _, _⟩) rfl (fun K hK => ?_) AllReadyH.nil)
          (go_must (refine step_boxG rfl 69 (.tmp 23) rfl (tabC kb m 0 q x).toArray rfl ?_); intro w5 p le_p lt_p hg__ hb__; have HP := Lib.hid hg__; have LP := Lib.hid (show q < p from Nat.lt_of_lt_of_le lt_q (Nat.le_trans (bsz bup) le_p)); replace HQ := ckk HQ bup hb__; replace HE := cE0 HE bup hb__; clear hg__ hb__ le_p)
          refine hK.out _ _ ?_ (fun hHeld => ?_)
          focus (exact range_below HR2.out lt_g2 (HE.out.trans (Below.mono bup HE.out.size)))
          clear hK K
          try simp only [PT]
          refine tk 6 (oi := ⟨some 4, _, _, _, _, _⟩) (v := ?_) rfl (by kernel_rfl) (.inl ⟨by rfl, ?_⟩) hHeld ?_; rotate_left; focus (intro w hSw; (try dsimp only at hSw); go_simp; try with_reducible rfl)
          simp only [PT]
          refine tk 7 (oi := ⟨some 5, _, _, _, _, _⟩) (v := ?_) rfl (by kernel_rfl) (.inl ⟨by rfl, ?_⟩) hHeld ?_; rotate_left; focus (intro w hSw; (try dsimp only at hSw); go_simp; try with_reducible rfl)
          simp only [PT]
          refine wpAnyH_done (by kernel_rfl) ?_ _
          go_wp2_with fail
          have T5 : Tb w5 p q kb m 0 (List.replicate x zeroS) := ⟨by rw [List.length_replicate]; exact HP.out, HQ.out, HK.out, by rw [List.length_replicate]; exact HX2.out.1, by rw [List.length_replicate]; exact HX2.out.2⟩
          have HT5 := Lib.hid T5
          clear T5
          go_ret2
          exact ⟨.inr ⟨by have := HM.out; omega, by have := HM.out; omega, p, q, x, rfl, by rw [Int.toNat_natCast]; exact HT5.out.keep bup, by rw [Int.toNat_natCast]; exact HGE.out, Nat.le_trans HB.out.size LQ.out, LP.out⟩, HB.out.trans ((HE.out.trans (Below.mono bup HE.out.size)).mono HB.out.size)⟩
theorem Probe.lt {S : List Slt} {k : Tup} {h j : Nat} (hp : Probe S k h j) : j < S.length := by
  obtain ⟨d, hd, rfl, _⟩ := hp
  exact Nat.mod_lt _ (by omega)
theorem slot_sub {v : World} {q : Nat} {S : List Slt} (h : v.rangeAt q 0 (rowC S)) (j : Nat) (hj : j < S.length) : v.rangeAt q (j * 42) S[j].cells := fun i u hi => by
  have hi42 : i < 42 := by have := (List.getElem?_eq_some_iff.1 hi).1; rw [Slt.length] at this; exact this
  have := h (j * 42 + i) u (by rw [rowC_at S j i hj hi42]; exact hi)
  rwa [Nat.zero_add] at this
theorem slot_flo (s : Slt) : ∀ j, j < s.f.v.cells.length → s.cells[1 + j]? = s.f.v.cells[j]? := by
  intro j hj
  rw [Nat.add_comm]
  rfl
theorem slot_one (s : Slt) : s.cells.toArray.all (·.oneCell') = true := by
  rw [Array.all_eq_true_iff_forall_mem]
  intro v hv
  have hv : v ∈ s.cells := by simpa using hv
  simp only [Slt.cells, List.mem_cons] at hv
  rcases hv with rfl | h
  · rfl
  · exact Flo.one _ h
theorem flo_one (f : Flo) : f.cells.toArray.all (·.oneCell') = true := by
  rw [Array.all_eq_true_iff_forall_mem]
  intro v hv
  exact Flo.one _ (by simpa using hv)
/-- what Get answers -/
theorem get_tab (p q : Nat) (kb : List UInt8) (room cnt : Nat) (S : List Slt) (k : Tup) (ho : k.ok) (hwf : k.wf) (w : World) (ht : Tb w p q kb room cnt S) (hfree : ∃ (z : Nat) (s : Slt), S[z]? = some s ∧ s.used = false) :
    Calls Try.prog 20 #[.pointer (some ⟨p, 0, none⟩), .agg k.cells.toArray] w fun e w' =>
      ((knownT k = false ∧ e = .returned (.tuple #[.agg zeroF.cells.toArray, .bool false])) ∨
       (knownT k = true ∧ ∃ j, ∃ hj : j < S.length, Probe S k (homeN kb k S.length) j ∧ e = .returned (.tuple #[.agg S[j].f.v.cells.toArray, .bool S[j].used]))) ∧ Below w.heap.size w w' := by
  have HB := Lib.hid (Below.refl w.heap.size w)
  have HT := Lib.hid ht
  have HO := Lib.hid (And.intro ho hwf)
  have HFR := Lib.hid hfree
  have HI1 : Hid ((Try.prog.info? 26).map (·.size) = some k.cells.length) := Lib.hid (by rw [Tup.length ho]; exact tup_size)
  have HIF := Lib.hid flo_info
  have HZ0 : Hid (Try.prog.built 28 [] = some zeroF.cells.toArray) := Lib.hid (by kernel_rfl)
  obtain ⟨n, hn⟩ : ∃ n, n = S.length := ⟨_, rfl⟩
  have HN := Lib.hid hn
  clear ht ho hwf hn hfree
  go_enter Try.func20, Try.ntmps20
  rcases two (knownT k) with hk | hk
  · have HKN := Lib.hid hk
    clear hk
    go_wp2_with (first
      | ((with_reducible refine sl 3 ?_); go_must (refine wpL_boxG rfl 26 (.tmp 1) rfl k.cells.toArray rfl ?_); intro w1 g3 he__ le_g3 lt_g3 hg__ hb__; have HG3 := Lib.hid hg__; have hE__ := cU HB bup hb__; replace HB := ck HB hE__; replace HT := ck HT hE__; clear hE__; clear hg__ hb__ he__; simp only [PT])
      | ((with_reducible refine sl 4 ?_); go_must (refine wpL_allocG rfl 28 rfl _ zeroF.cells.toArray 41 HIF.out rfl ?_); intro w2 g4 he__ le_g4 lt_g4 hg__ hb__; have HG4 := Lib.hid hg__; have L4 : Hid (w.heap.size ≤ g4) := Lib.hid (Nat.le_trans HB.out.size le_g4); have hE__ := cU HB bup hb__; replace HB := ck HB hE__; replace HT := ck HT hE__; replace HG3 := ck HG3 hE__; clear hE__; clear hg__ hb__ he__; simp only [PT])
      | ((with_reducible refine sl 7 ?_); go_must (refine wpL_load rfl 26 (.tmp 3) rfl g3 0 rfl k.cells _ (range_block HG3.out) Try.underlying26 rfl HI1.out ?_); simp only [PT])
      | (go_at_call 32; go_must (refine (known_any k HO.out.1 _).mono ?_); rw [HKN.out]; rintro e w3 ⟨rfl, hb3⟩; have hE__ := cU HB bup hb3; replace HB := ck HB hE__; replace HT := ck HT hE__; replace HG3 := ck HG3 hE__; replace HG4 := ck HG4 hE__; clear hE__; clear hb3))
    have HE := Lib.hid (Below.refl w3.heap.size w3)
    have HQR := Lib.hid (range_block HT.out.hq)
    have HR3 := Lib.hid (range_block HG3.out)
    have HCL := Lib.hid (Tb.cells HT.out)
    have ltp := lt_of_block HT.out.hp
    have ltq := lt_of_block HT.out.hq
    have lt3 := lt_of_block HG3.out
    refine wp_region_held_drew (S := fun v => v.cell? ⟨p, 18, none⟩ = some (.slice (some ⟨q, 0, none⟩) n n) ∧ v.rangeAt q 0 (rowC S) ∧ v.rangeAt g3 0 k.cells) (by kernel_rfl) ?_ (fun hHeld => ?_)
    focus (have hz := HN.out; exact ⟨((HE.out.trans (Below.mono bup HE.out.size)).cell (p := ⟨p, 18, none⟩) ltp).trans (by rw [hz]; exact HCL.out.2.2.2), range_below HQR.out ltq (HE.out.trans (Below.mono bup HE.out.size)), range_below HR3.out lt3 (HE.out.trans (Below.mono bup HE.out.size))⟩)
    refine tk 0 (oi := ⟨some 11, _, _, _, _, _⟩) (v := ?_) rfl (by kernel_rfl) (.inl ⟨by rfl, ?_⟩) hHeld ?_; rotate_left; focus (intro w hSw; (try dsimp only at hSw); go_simp; try with_reducible rfl)
    simp only [PT]
    refine tk 1 (oi := ⟨some 12, _, _, _, _, _⟩) (v := ?_) rfl (by kernel_rfl) (.inl ⟨by rfl, ?_⟩) hHeld ?_; rotate_left; focus (intro w hSw; (try dsimp only at hSw); go_simp; try with_reducible rfl)
    simp only [PT]
    refine tk 2 (oi := ⟨some 13, _, _, _, _, _⟩) (v := ?_) rfl (by kernel_rfl) (.inl ⟨by rfl, ?_⟩) hHeld ?_; rotate_left; focus (intro w hSw; (try dsimp only at hSw); go_simp; try with_reducible rfl)
    simp only [PT]
    refine tk 3 (oi := ⟨some 14, _, _, _, _, _⟩) (v := ?_) rfl (by kernel_rfl) (.inl ⟨by rfl, ?_⟩) hHeld ?_; rotate_left; focus (intro w hSw; (try dsimp only at hSw); go_simp; try with_reducible rfl)
    simp only [PT]
    refine tk 4 (oi := ⟨some 15, _, _, _, _, _⟩) (v := ?_) rfl (by kernel_rfl) (.inl ⟨by rfl, ?_⟩) hHeld ?_; rotate_left; focus (intro w hSw; (try dsimp only at hSw); go_simp; try with_reducible rfl)
    simp only [PT]
    refine' tk 5 (oi := ⟨some 16, _, _, _, _, _⟩) (v := _) rfl (by kernel_rfl) (yieldsIf_load_mid (by rfl) _ _ rfl _ _ rfl (k.cells) _ (fun v hv => hv.2.2) (Try.underlying26) rfl (HI1.out)) hHeld ?_
    simp only [PT]
    refine wpAnyH_ready (rs := [6, 9]) (by kernel_rfl) (by simp) ?_
    refine (AllReadyH.cons (o := ⟨some 17, _, _, _, _, _⟩) rfl (fun K hK => ?_) (AllReadyH.cons (o := ⟨some 6, _, _, _, _, _⟩) rfl (fun K hK => ?_) AllReadyH.nil))
    focus (go_simp; go_must (refine (find_any p q kb room cnt S k HO.out.1 HO.out.2 _ (HT.out.keep (HE.out.trans (Below.mono bup HE.out.size))) HFR.out).mono ?_); rintro e w4 ⟨j, rfl, hpr, hb4⟩; have HPR := Lib.hid hpr; have hjS := hpr.lt; obtain ⟨s, hs⟩ : ∃ s, s = S[j] := ⟨_, rfl⟩; have HS := Lib.hid hs; have hjn : (j : Int) < n := (by rw [HN.out]; omega); have HI4 : Hid ((Try.prog.info? 79).map (·.size) = some s.cells.length) := Lib.hid (by rw [Slt.length]; exact slt_size); clear hs hpr; (try replace H6 := ckk H6 bup hb4); replace HE := cE0 HE bup hb4; clear hb4; go_wp2_with fail)
    refine hK.out _ _ ?_ (fun hHeld => ?_)
    focus (have hz := HN.out; exact ⟨((HE.out.trans (Below.mono bup HE.out.size)).cell (p := ⟨p, 18, none⟩) ltp).trans (by rw [hz]; exact HCL.out.2.2.2), range_below HQR.out ltq (HE.out.trans (Below.mono bup HE.out.size)), range_below HR3.out lt3 (HE.out.trans (Below.mono bup HE.out.size))⟩)
    clear hK K
    try simp only [PT]
    refine tk 7 (oi := ⟨some 18, _, _, _, _, _⟩) (v := ?_) rfl (by kernel_rfl) (.inl ⟨by rfl, ?_⟩) hHeld ?_; rotate_left; focus (intro w hSw; (try dsimp only at hSw); go_simp; try with_reducible rfl)
    simp only [PT]
    refine' tk 8 (oi := ⟨some 19, _, _, _, _, _⟩) (v := _) rfl (by kernel_rfl) (yieldsIf_load_mid (by rfl) _ _ rfl _ _ rfl (s.cells) _ (fun v hv => by rw [HS.out]; exact slot_sub hv.2.1 j hjS) (Try.underlying79) rfl (HI4.out)) hHeld ?_
    simp only [PT]
    refine wpAnyH_ready (rs := [9]) (by kernel_rfl) (by simp) ?_
    refine (AllReadyH.cons (o := ⟨some 6, _, _, _, _, _⟩) rfl (fun K hK => ?_) AllReadyH.nil)
    (go_must (refine step_allocG rfl 79 rfl _ zeroS.cells.toArray 42 slt_info rfl ?_); intro w5 g6 le_g6 lt_g6 hg__ hb__; have H6 := Lib.hid hg__; have LG6 := Lib.hid (show w3.heap.size ≤ g6 from Nat.le_trans HE.out.size (Nat.le_trans (bsz bup) le_g6)); replace HE := cE0 HE bup hb__; clear hg__ hb__ le_g6)
    refine hK.out _ _ ?_ (fun hHeld => ?_)
    focus (have hz := HN.out; exact ⟨((HE.out.trans (Below.mono bup HE.out.size)).cell (p := ⟨p, 18, none⟩) ltp).trans (by rw [hz]; exact HCL.out.2.2.2), range_below HQR.out ltq (HE.out.trans (Below.mono bup HE.out.size)), range_below HR3.out lt3 (HE.out.trans (Below.mono bup HE.out.size))⟩)
    clear hK K
    try simp only [PT]
    refine wpAnyH_ready (rs := [10]) (by kernel_rfl) (by simp) ?_
    refine (AllReadyH.cons (o := ⟨none, _, _, _, _, _⟩) rfl (fun K hK => ?_) AllReadyH.nil)
    (go_must (refine step_storeR rfl 79 (.tmp 6) (.tmp 19) rfl g6 s.cells.toArray rfl rfl H6.out (by rw [List.size_toArray]; exact HI4.out) (by simp [Slt.length]) (slot_one s) ?_); intro w6 hs__ hr__; replace HE := cEa HE bup hr__ (fun k e => by cases e; exact LG6.out); clear H6; have H6 := Lib.hid hs__; clear hs__ hr__)
    refine hK.out _ _ ?_ (fun hHeld => ?_)
    focus (have hz := HN.out; exact ⟨((HE.out.trans (Below.mono bup HE.out.size)).cell (p := ⟨p, 18, none⟩) ltp).trans (by rw [hz]; exact HCL.out.2.2.2), range_below HQR.out ltq (HE.out.trans (Below.mono bup HE.out.size)), range_below HR3.out lt3 (HE.out.trans (Below.mono bup HE.out.size))⟩)
    clear hK K
    try simp only [PT]
    refine wpAnyH_done (by kernel_rfl) ?_ _
    rotate_left
    (go_must (refine step_allocG rfl 79 rfl _ zeroS.cells.toArray 42 slt_info rfl ?_); intro w5 g6 le_g6 lt_g6 hg__ hb__; have H6 := Lib.hid hg__; have LG6 := Lib.hid (show w3.heap.size ≤ g6 from Nat.le_trans HE.out.size (Nat.le_trans (bsz bup) le_g6)); replace HE := cE0 HE bup hb__; clear hg__ hb__ le_g6)
    refine hK.out _ _ ?_ (fun hHeld => ?_)
    focus (have hz := HN.out; exact ⟨((HE.out.trans (Below.mono bup HE.out.size)).cell (p := ⟨p, 18, none⟩) ltp).trans (by rw [hz]; exact HCL.out.2.2.2), range_below HQR.out ltq (HE.out.trans (Below.mono bup HE.out.size)), range_below HR3.out lt3 (HE.out.trans (Below.mono bup HE.out.size))⟩)
    clear hK K
    try simp only [PT]
    refine wpAnyH_ready (rs := [6]) (by kernel_rfl) (by simp) ?_
    refine (AllReadyH.cons (o := ⟨some 17, _, _, _, _, _⟩) rfl (fun K hK => ?_) AllReadyH.nil)
    focus (go_simp; go_must (refine (find_any p q kb room cnt S k HO.out.1 HO.out.2 _ (HT.out.keep (HE.out.trans (Below.mono bup HE.out.size))) HFR.out).mono ?_); rintro e w4 ⟨j, rfl, hpr, hb4⟩; have HPR := Lib.hid hpr; have hjS := hpr.lt; obtain ⟨s, hs⟩ : ∃ s, s = S[j] := ⟨_, rfl⟩; have HS := Lib.hid hs; have hjn : (j : Int) < n := (by rw [HN.out]; omega); have HI4 : Hid ((Try.prog.info? 79).map (·.size) = some s.cells.length) := Lib.hid (by rw [Slt.length]; exact slt_size); clear hs hpr; (try replace H6 := ckk H6 bup hb4); replace HE := cE0 HE bup hb4; clear hb4; go_wp2_with fail)
    refine hK.out _ _ ?_ (fun hHeld => ?_)
    focus (have hz := HN.out; exact ⟨((HE.out.trans (Below.mono bup HE.out.size)).cell (p := ⟨p, 18, none⟩) ltp).trans (by rw [hz]; exact HCL.out.2.2.2), range_below HQR.out ltq (HE.out.trans (Below.mono bup HE.out.size)), range_below HR3.out lt3 (HE.out.trans (Below.mono bup HE.out.size))⟩)
    clear hK K
    try simp only [PT]
    refine tk 7 (oi := ⟨some 18, _, _, _, _, _⟩) (v := ?_) rfl (by kernel_rfl) (.inl ⟨by rfl, ?_⟩) hHeld ?_; rotate_left; focus (intro w hSw; (try dsimp only at hSw); go_simp; try with_reducible rfl)
    simp only [PT]
    refine' tk 8 (oi := ⟨some 19, _, _, _, _, _⟩) (v := _) rfl (by kernel_rfl) (yieldsIf_load_mid (by rfl) _ _ rfl _ _ rfl (s.cells) _ (fun v hv => by rw [HS.out]; exact slot_sub hv.2.1 j hjS) (Try.underlying79) rfl (HI4.out)) hHeld ?_
    simp only [PT]
    refine wpAnyH_ready (rs := [10]) (by kernel_rfl) (by simp) ?_
    refine (AllReadyH.cons (o := ⟨none, _, _, _, _, _⟩) rfl (fun K hK => ?_) AllReadyH.nil)
    (go_must (refine step_storeR rfl 79 (.tmp 6) (.tmp 19) rfl g6 s.cells.toArray rfl rfl H6.out (by rw [List.size_toArray]; exact HI4.out) (by simp [Slt.length]) (slot_one s) ?_); intro w6 hs__ hr__; replace HE := cEa HE bup hr__ (fun k e => by cases e; exact LG6.out); clear H6; have H6 := Lib.hid hs__; clear hs__ hr__)
    refine hK.out _ _ ?_ (fun hHeld => ?_)
    focus (have hz := HN.out; exact ⟨((HE.out.trans (Below.mono bup HE.out.size)).cell (p := ⟨p, 18, none⟩) ltp).trans (by rw [hz]; exact HCL.out.2.2.2), range_below HQR.out ltq (HE.out.trans (Below.mono bup HE.out.size)), range_below HR3.out lt3 (HE.out.trans (Below.mono bup HE.out.size))⟩)
    clear hK K
    try simp only [PT]
    refine wpAnyH_done (by kernel_rfl) ?_ _
    rotate_left
    all_goals
      go_wp2_with fail
      have HG4b := Lib.hid ((HE.out.block g4 (lt_of_block HG4.out)).trans HG4.out)
      have ne46 : g6 ≠ g4 := (by have := LG6.out; have := lt_of_block HG4.out; omega)
      have l4b := L4.out
      have HBb := Lib.hid (HB.out.trans (HE.out.mono HB.out.size))
      have HR6 := Lib.hid (range_sub H6.out (slot_flo s))
      have C6 := Lib.hid (show w6.cell? ⟨g6, 0, none⟩ = some (.bool s.used) from cells_get H6.out 0)
      have l6 := lt_of_block H6.out
      have HIF4 : Hid ((Try.prog.info? 28).map (·.size) = some s.f.v.cells.length) := Lib.hid (by rw [Flo.length s.f.ok]; exact flo_size)
      clear HG4 HG3 HT HE HR3 HCL HQR HB
      refine wp_region_held_drew (S := fun v => v.rangeAt g6 1 s.f.v.cells ∧ v.cell? ⟨g6, 0, none⟩ = some (.bool s.used)) (by kernel_rfl) ?_ (fun hHeld => ?_)
      focus (first | exact ⟨range_below HR6.out l6 bup, ((show Below w6.heap.size w6 _ from bup).cell (p := ⟨g6, 0, none⟩) l6).trans C6.out⟩ | exact ⟨range_below HR7.out l7 bup, ((show Below w7.heap.size w7 _ from bup).cell (p := ⟨g6, 0, none⟩) l7).trans C7.out⟩)
      refine tk 0 (oi := ⟨some 20, _, _, _, _, _⟩) (v := ?_) rfl (by kernel_rfl) (.inl ⟨by rfl, ?_⟩) hHeld ?_; rotate_left; focus (intro w hSw; (try dsimp only at hSw); go_simp; try with_reducible rfl)
      simp only [PT]
      refine' tk 1 (oi := ⟨some 21, _, _, _, _, _⟩) (v := _) rfl (by kernel_rfl) (yieldsIf_load_mid (by rfl) _ _ rfl _ _ rfl (s.f.v.cells) _ (fun v hv => hv.1) (Try.underlying28) rfl (HIF4.out)) hHeld ?_
      simp only [PT]
      refine tk 2 (oi := ⟨some 22, _, _, _, _, _⟩) (v := ?_) rfl (by kernel_rfl) (.inl ⟨by rfl, ?_⟩) hHeld ?_; rotate_left; focus (intro w hSw; (try dsimp only at hSw); go_simp; try with_reducible rfl)
      simp only [PT]
      refine tk 3 (oi := ⟨some 23, _, _, _, _, _⟩) (v := ?_) rfl (by kernel_rfl) (.inl ⟨by rfl, ?_⟩) hHeld ?_; rotate_left; focus (intro w hSw; (try dsimp only at hSw); go_simp; try with_reducible rfl)
      simp only [PT]
      refine wpAnyH_ready (rs := [4]) (by kernel_rfl) (by simp) ?_
      refine (AllReadyH.cons (o := ⟨none, _, _, _, _, _⟩) rfl (fun K hK => ?_) AllReadyH.nil)
      (go_must (refine step_storeR rfl 28 (.tmp 4) (.tmp 21) rfl g4 s.f.v.cells.toArray rfl rfl ((ckk HG4b bup (Below.refl _ _)).out) (by rw [List.size_toArray]; exact HIF4.out) (by rw [List.size_toArray, List.size_toArray, Flo.length zeroF_ok, Flo.length s.f.ok]) (flo_one _) ?_); intro w7 hs__ hr__; replace HBb := cg HBb bup hr__ l4b; replace H6 := cg H6 bup hr__ ne46; clear HG4b; have HG4c := Lib.hid hs__; have l7 := lt_of_block H6.out; have HR7 := Lib.hid (range_sub H6.out (slot_flo s)); have C7 := Lib.hid (show w7.cell? ⟨g6, 0, none⟩ = some (.bool s.used) from cells_get H6.out 0); clear hs__ hr__)
      refine hK.out _ _ ?_ (fun hHeld => ?_)
      focus (first | exact ⟨range_below HR6.out l6 bup, ((show Below w6.heap.size w6 _ from bup).cell (p := ⟨g6, 0, none⟩) l6).trans C6.out⟩ | exact ⟨range_below HR7.out l7 bup, ((show Below w7.heap.size w7 _ from bup).cell (p := ⟨g6, 0, none⟩) l7).trans C7.out⟩)
      clear hK K
      try simp only [PT]
      refine tk 5 (oi := ⟨some 5, _, _, _, _, _⟩) (v := ?_) rfl (by kernel_rfl) (.inl ⟨by rfl, ?_⟩) hHeld ?_; rotate_left; focus (intro w hSw; (try dsimp only at hSw); go_simp; try with_reducible rfl)
      simp only [PT]
      refine wpAnyH_done (by kernel_rfl) ?_ _
      go_wp2_with fail
      refine bodyPost_cellx1 (cs := s.f.v.cells) rfl rfl (range_block ((ckk HG4c bup (Below.refl _ _)).out)) Try.underlying28 rfl HIF4.out rfl ?_
      exact ⟨.inr ⟨HKN.out, j, hjS, HPR.out, by rw [← HS.out]; rfl⟩, HBb.out.trans (Below.mono bup HBb.out.size)⟩
  · have HKN := Lib.hid hk
    clear hk
    go_wp2_with (first
      | ((with_reducible refine sl 3 ?_); go_must (refine wpL_boxG rfl 26 (.tmp 1) rfl k.cells.toArray rfl ?_); intro w1 g3 he__ le_g3 lt_g3 hg__ hb__; have HG3 := Lib.hid hg__; have hE__ := cU HB bup hb__; replace HB := ck HB hE__; replace HT := ck HT hE__; clear hE__; clear hg__ hb__ he__; simp only [PT])
      | ((with_reducible refine sl 4 ?_); go_must (refine wpL_allocG rfl 28 rfl _ zeroF.cells.toArray 41 HIF.out rfl ?_); intro w2 g4 he__ le_g4 lt_g4 hg__ hb__; have HG4 := Lib.hid hg__; have L4 : Hid (w.heap.size ≤ g4) := Lib.hid (Nat.le_trans HB.out.size le_g4); have hE__ := cU HB bup hb__; replace HB := ck HB hE__; replace HT := ck HT hE__; replace HG3 := ck HG3 hE__; clear hE__; clear hg__ hb__ he__; simp only [PT])
      | ((with_reducible refine sl 7 ?_); go_must (refine wpL_load rfl 26 (.tmp 3) rfl g3 0 rfl k.cells _ (range_block HG3.out) Try.underlying26 rfl HI1.out ?_); simp only [PT])
      | ((with_reducible refine sl 10 ?_); go_must (refine wpL_build rfl 28 #[] rfl [] rfl zeroF.cells.toArray HZ0.out ?_); simp only [PT])
      | (go_at_call 32; go_must (refine (known_any k HO.out.1 _).mono ?_); rw [HKN.out]; rintro e w3 ⟨rfl, hb3⟩; have hE__ := cU HB bup hb3; replace HB := ck HB hE__; replace HT := ck HT hE__; replace HG3 := ck HG3 hE__; replace HG4 := ck HG4 hE__; clear hE__; clear hb3)
      | ((with_reducible show wpList _ _ _ (⟨none, .store _ (.tmp 4) _, _, _, _, _⟩ :: _) _ _); go_must (refine wpL_storeRow rfl 28 (.tmp 4) (.tmp 10) rfl g4 zeroF.cells.toArray rfl rfl HG4.out flo_size rfl (flo_one _) ?_); intro w99 hs__ hr__; replace HB := cg HB bup hr__ L4.out; clear HG4; have HG4 := Lib.hid hs__; clear hs__ hr__; simp only [PT]))
    refine bodyPost_cellx1 (cs := zeroF.cells) rfl rfl (range_block HG4.out) Try.underlying28 rfl flo_size rfl ?_
    exact ⟨.inl ⟨HKN.out, rfl⟩, HB.out⟩
end Go.Proofs.Ytgpdlhbndoeldaa
/-
  A range over an iterator that has variables of its own in memory, and may write them between two rounds; the loop's body always goes on. Over any program.
-/
namespace Go.Proofs.Ytgpdlhbndoeldaa
open Go.RowKit Go.Sort Go.Shelf
set_option linter.unusedVariables false
set_option linter.unusedSimpArgs false

/-- What the iterator owes, to a loop whose body always goes on. St n A B: a step that the iterator may take between two rounds, having begun where the heap had n blocks. Kp: what a round keeps. S: what has come in all, and what lies in the end. -/
def SeqAll {α : Type} (F : Fence) (n : Nat) (P : Program) (g : Nat) (lb : Array Value) (encs : α → Array Value) (Kp : World → World → Prop) (St : Nat → World → World → Prop) (S : List α → World → Prop) (Pa : α → World → Prop) (N : Nat) (w : World) : Prop :=
  ∀ (l : Nat) (J : List α → World → Prop) (W : World), Below w.heap.size w W → (∀ s A B, J s A → St W.heap.size A B → J s B) →
    (∀ pre x W1, J pre W1 → Pa x W1 → pre.length < N → YieldAt F (n - 1) P l (encs x) W1 fun e W' => e = .returned (.bool true) ∧ J (pre ++ [x]) W' ∧ Kp W1 W') →
    J [] W →
    CallsIn F n P g (#[.func (.yield l) #[] #[]] ++ lb) W fun e W' => (∃ v, e = .returned v) ∧ ∃ xs, S xs W' ∧ J xs W'

/-- how a round ends -/
def goesOn {α : Type} (B : Nat) (Kp : World → World → Prop) (I : List α → World → Prop) (xs : List α) (W : World) : Exit → Act → World → Prop
  | .normal, _, W' => KeepsFrom B W W' ∧ Kp W W' ∧ I xs W'
  | _, _, _ => False

variable {F : Fence} {n : Nat} {P : Program}
theorem wpIn_rangeFunc_all {α : Type} {g : Operand} {ps : Array Tmp} {assign body : Code} {Q : Exit → Act → World → Prop} {a : Act} {w : World}
    (hro : F.round = none) (h1 : 1 ≤ n) {gf : Nat} {lb : Array Value} (hg : a.eval g = .func (.func gf) #[] lb) (hFg : F.fn gf) (eg : ∀ args w, (callFunc gf args).run P w = .ok (.enter gf args) w)
    {encs : α → Array Value} {Kp : World → World → Prop} {St : Nat → World → World → Prop} {S : List α → World → Prop} {Pa : α → World → Prop} {N : Nat} {w0 : World} (hseq : SeqAll F (n - 1) P gf lb encs Kp St S Pa N w0)
    (hKt : ∀ {A B C : World}, Kp A B → Kp B C → Kp A C) (hKb : ∀ (W : World) (l : Nat) (o o' : Obj), w.heap.size ≤ l → W.heap[l]? = some o → o.isCells = false → o.isWalk = false → Kp W (W.putObj l o')) (hb0 : Below w0.heap.size w0 w) (hps : ∀ x, (encs x).size = ps.size)
    (hSt : ∀ m A B k ob, St m A B → w.heap.size ≤ k → k < m → ob.isCells = false → A.heap[k]? = some ob → B.heap[k]? = some ob)
    (I : List α → World → Prop) (hI : OwnFrom w.heap.size I) (hIS : ∀ s A B m, w.heap.size ≤ m → I s A → St m A B → I s B) (hS : OwnFrom w.heap.size S) (h0 : I [] w)
    (Ax : α → Act → World → Prop) (hAx : ∀ x a', OwnFrom w.heap.size (fun (_ : Unit) W => Ax x a' W))
    (hassign : ∀ (l : Nat) (pre : List α) (x : α) (W : World) (K : Act → World → Prop), I pre W → Pa x W → (∀ a' W', KeepsFrom w.heap.size W W' → Kp W W' → I pre W' → Ax x a' W' → K a' W') →
      assign.wpIn (F.inRound l) (n - 1 - 1) P (Exit.then K (fun _ _ _ => False)) { tmps := (ps.zip (encs x)).foldl (fun t (p, v) => t.setIfInBounds p v) a.tmps, defers := [] } W)
    (hbody : ∀ (l : Nat) (pre : List α) (x : α) (a' : Act) (W : World), w.heap.size ≤ l → I pre W → Ax x a' W → pre.length < N → body.wpIn (F.inRound l) (n - 1 - 1) P (goesOn w.heap.size Kp I (pre ++ [x]) W) a' W)
    (hdone : ∀ (D : Nat) (xs : List α) (W : World), w.heap.size ≤ D → S xs W → I xs W → W.heap[D]? = some (.deferred (some [])) → Q .normal { a with defers := { target := .collected D, args := #[] } :: a.defers } W) :
    (Code.rangeFunc g ps assign body).wpIn F n P Q a w := by
  refine wpIn_rangeFunc fun fn hfn => ?_
  rw [hro]
  -- the loop's record, by its state
  obtain ⟨rc, hrc⟩ : ∃ rc : LoopState → Loop, rc = fun st => { state := st, pending := none, fn, tmps := a.tmps, params := ps, assign, body, defers := w.heap.size } := ⟨_, rfl⟩
  obtain ⟨V, hV⟩ : ∃ V, V = (w.alloc (.deferred (some []))).alloc (.loop (rc .ready)) := ⟨_, rfl⟩
  have hVs : V.heap.size = w.heap.size + 1 + 1 := by rw [hV]; simp
  have hl0 : V.heap[w.heap.size + 1]? = some (.loop (rc .ready)) := by
    have h := World.alloc_heap_new (w.alloc (.deferred (some []))) (.loop (rc .ready))
    rw [World.size_alloc] at h
    rw [hV]
    exact h
  have hd0 : V.heap[w.heap.size]? = some (.deferred (some [])) := by
    rw [hV]
    exact (Below.heap_alloc _ _ _ (by simp)).trans (World.alloc_heap_new w _)
  refine ⟨w.heap.size + 1, [{ target := .collected w.heap.size, args := #[] }], V, { target := .fn (.func gf) lb, args := #[.func (.yield (w.heap.size + 1)) #[] #[]] }, V, gf,
    #[.func (.yield (w.heap.size + 1)) #[] #[]] ++ lb, V, ?_, ?_, ?_, ?_, fun _ => h1, ?_⟩
  · rw [hV, hrc]
    exact run_enterLoop_outer _ _ _ _ _
  · simp only [resolve, hg]
    simp [go_sem]
  · intro f' hf'
    simp [Target.leads] at hf'
    subst hf'
    exact hFg
  · simp [invoke, go_sem, eg]
  have hbV : Below w0.heap.size w0 V := by
    rw [hV]
    exact hb0.trans ((((Below.refl _ w).alloc (Nat.le_refl _) _).alloc (by simp) _).mono hb0.size)
  have hIV : I [] V := by rw [hV]; exact hI.alloc _ (hI.alloc _ h0)
  refine (hseq (w.heap.size + 1) (fun pre W => I pre W ∧ W.heap[w.heap.size + 1]? = some (.loop (rc .ready)) ∧ W.heap[w.heap.size]? = some (.deferred (some []))) V hbV
    (fun s A B h st => ⟨hIS s A B _ (by omega) h.1 st, hSt _ A B _ _ st (by omega) (by omega) rfl h.2.1, hSt _ A B _ _ st (Nat.le_refl _) (by omega) rfl h.2.2⟩) ?_ ⟨hIV, hl0, hd0⟩).mono ?_
  · -- a round
    rintro pre x W ⟨hi, hl, hd⟩ hpa hlen
    have hy := run_yield (P := P) (args := encs x) hl (by rw [hrc]; exact hps x)
    rw [hrc] at hy
    refine ⟨fn, _, assign, body, hy, roundIn_of_wpIn hfn (hassign _ pre x W _ hi hpa fun a' Wa hkf hkp hia hax => ?_)⟩
    have hla := hkf.same _ _ (by omega) hl rfl
    have hda := hkf.same _ _ (Nat.le_refl _) hd rfl
    refine ⟨_, run_beginRound hla (by rw [hrc]), ?_⟩
    obtain ⟨Wb, hWb⟩ : ∃ Wb, Wb = Wa.putObj (w.heap.size + 1) (.loop { rc .ready with state := .busy }) := ⟨_, rfl⟩
    have hlb : Wb.heap[w.heap.size + 1]? = some (.loop { rc .ready with state := .busy }) := by rw [hWb]; exact World.putObj_heap_same (lt_of_block hla)
    have hdb : Wb.heap[w.heap.size]? = some (.deferred (some [])) := by rw [hWb]; exact (World.putObj_heap_other (by omega)).trans hda
    have hkb : Kp Wa Wb := by rw [hWb]; exact hKb _ _ _ _ (by omega) hla rfl rfl
    have hib : I pre Wb := by rw [hWb]; exact hI.putObj _ hia (by omega) hla rfl
    have hab : Ax x a' Wb := by rw [hWb]; exact (hAx x a').putObj (s := ()) _ hax (by omega) hla rfl
    rw [← hWb]
    refine wpIn_mono (hbody _ pre x a' Wb (by omega) hib hab hlen) ?_
    rintro e a3 W3 hp
    cases e with
    | normal =>
      obtain ⟨hk3, hkp3, hi3⟩ := hp
      have hl3 := hk3.same _ _ (by omega) hlb rfl
      have hd3 := hk3.same _ _ (Nat.le_refl _) hdb rfl
      have hr := run_endRound (P := P) none hl3
      rw [hrc] at hr hl3
      have hr' : (Instr.endRound (w.heap.size + 1) none).run P W3 = .ok (.bool (none : Option Code).isNone) (W3.putObj (w.heap.size + 1) (.loop (rc .ready))) := by rw [hrc]; exact hr
      refine ⟨_, _, hr', rfl, ⟨hI.putObj _ hi3 (by omega) hl3 rfl, World.putObj_heap_same (lt_of_block hl3), (World.putObj_heap_other (by omega)).trans hd3⟩, ?_⟩
      exact hKt hkp (hKt (hKt hkb hkp3) (hKb _ _ _ _ (by omega) hl3 rfl rfl))
    | ret => exact hp.elim
    | exit id => exact hp.elim
    | goto t => exact hp.elim
    | panic ch => exact hp.elim
    | outgrown => exact hp.elim
  · -- behind it
    rintro e W2 ⟨⟨v, rfl⟩, xs, hs, hi, hl, hd⟩
    refine ⟨none, _, by have := run_endLoop (P := P) hl (by rw [hrc]; simp); rw [hrc] at this; exact this, ?_⟩
    rw [hrc] at hl
    exact hdone _ xs _ (Nat.le_refl _) (hS.putObj _ hs (by omega) hl rfl) (hI.putObj _ hi (by omega) hl rfl) ((World.putObj_heap_other (by omega)).trans hd)
end Go.Proofs.Ytgpdlhbndoeldaa
/-
  Laws of single operations within a fence (an iterator, a loop's round). Over any program. (As RngIn, over Fk.)
-/
namespace Go.Proofs.Ytgpdlhbndoeldaa
open Go.RowKit Go.Sort Go.Shelf
set_option linter.unusedVariables false
set_option linter.unusedSimpArgs false

section
variable {F : Fence} {n : Nat} {P : Program} {ops : Array Oper} {Q : Exit → Act → World → Prop} {a : Act} {w w' : World} {rest : List Oper} {o : Oper}
theorem slI {op : Op} {ty : TypeId} {pos : String} {af : Array Edge} {gd : Option (Nat × Bool)} (k : Nat) (h : wpListIn F n P ops Q (⟨some k, op, ty, pos, af, gd⟩ :: rest) a w) : wpListIn F n P ops Q (⟨some k, op, ty, pos, af, gd⟩ :: rest) a w := h
theorem slS {op : Op} {ty : TypeId} {x y : Operand} {pos : String} {af : Array Edge} {gd : Option (Nat × Bool)} (k : Nat) {t2 : TypeId} (h : wpListIn F n P ops Q (⟨none, .store t2 (.tmp k) y, ty, pos, af, gd⟩ :: rest) a w) : wpListIn F n P ops Q (⟨none, .store t2 (.tmp k) y, ty, pos, af, gd⟩ :: rest) a w := h
theorem wpLI_run (hF : ∀ f, F.fn f) (hgd : Region.wanted o (yielded ops a.tmps) = true) {v : Value} (hnd : ∀ c, o.op ≠ .defer c) (hrun : (execOp a.eval o).run P w = .ok (.value v) w') (h : wpListIn F n P ops Q rest (a.put o.dst v) w') : wpListIn F n P ops Q (o :: rest) a w := by
  refine wpListIn_step fun K hK => ?_
  rw [if_pos hgd]
  refine ⟨fun f _ => hF f, ?_⟩
  rw [Oper.semAt_eq _ _ _ hnd, hrun]
  exact hK _ _ h
theorem wpLI_skip (hF : ∀ f, F.fn f) (hgd : Region.wanted o (yielded ops a.tmps) = true) (hnd : ∀ c, o.op ≠ .defer c) (hrun : (execOp a.eval o).run P w = .ok .skip w') (h : wpListIn F n P ops Q rest (a.put o.dst undef) w') : wpListIn F n P ops Q (o :: rest) a w := by
  refine wpListIn_step fun K hK => ?_
  rw [if_pos hgd]
  refine ⟨fun f _ => hF f, ?_⟩
  rw [Oper.semAt_eq _ _ _ hnd, hrun]
  exact hK _ _ h
theorem wpLI_load (hF : ∀ f, F.fn f) (hgd : Region.wanted o (yielded ops a.tmps) = true) (ty : TypeId) (x : Operand) (ho : o.op = .load ty x)
    (b off : Nat) (hx : a.eval x = .pointer (some ⟨b, off, none⟩)) (cs : List Value) (d : TypeDesc) (hc : w.rangeAt b off cs)
    (hu : P.underlying ty = some d) (hd : d.isRow = true) (hi : (P.info? ty).map (·.size) = some cs.length)
    (h : wpListIn F n P ops Q rest (a.put o.dst (.agg cs.toArray)) w) : wpListIn F n P ops Q (o :: rest) a w := by
  refine wpLI_run hF hgd (by rw [ho]; intro c e; cases e) ?_ h
  unfold execOp
  simp only [ho, hx, Instr.loadAt, Instr.sureAddr, Sem.run_bind, Sem.run_pure, Result.andThen_ok, run_loadVar_mid w b off ty cs d hc hu hd hi]
theorem wpLI_loadF (hF : ∀ f, F.fn f) (hgd : Region.wanted o (yielded ops a.tmps) = true) (ty : TypeId) (x : Operand) (ho : o.op = .load ty x)
    (g k : Nat) (hx : a.eval x = .pointer (some ⟨g, k, none⟩)) (v : Value) {cs : Array Value} {T : TypeId} {fz : Nat × Nat} (hg : w.heap[g]? = some (.cells cs T fz)) (hk : cs[k]? = some v) {d : TypeDesc} (hu : P.underlying ty = some d) (hd : d.isRow = false)
    (h : wpListIn F n P ops Q rest (a.put o.dst v) w) : wpListIn F n P ops Q (o :: rest) a w := by
  refine wpLI_run hF hgd (by rw [ho]; intro c e; cases e) ?_ h
  unfold execOp
  simp only [ho, hx, Instr.loadAt, Instr.sureAddr, Sem.run_bind, Sem.run_pure, Result.andThen_ok, run_loadF (P := P) hg hk hu hd]
theorem run_storeR {ty : TypeId} {x y : Operand} (ho : o.op = .store ty x y) (g : Nat) (cs : Array Value) (hx : a.eval x = .pointer (some ⟨g, 0, none⟩)) (hy : a.eval y = .agg cs) {T : TypeId} {old : Array Value} (hg : w.heap[g]? = some (.cells old T (0, 0))) (hi : (P.info? ty).map (·.size) = some cs.size) (hl : old.size = cs.size) (h1 : cs.all (·.oneCell') = true) :
    (execOp a.eval o).run P w = .ok .skip (w.setRow g cs) := by
  unfold execOp
  simp only [ho, hx, hy, Instr.storeAt, Instr.sureAddr, Sem.run_bind, Sem.run_pure, Result.andThen_ok, run_storeVar_row w g T ty old cs hg hi hl h1]
theorem wpLI_storeRow (hF : ∀ f, F.fn f) (hgd : o.guard = none) (ty : TypeId) (x y : Operand) (ho : o.op = .store ty x y)
    (g : Nat) (cs : Array Value) (hx : a.eval x = .pointer (some ⟨g, 0, none⟩)) (hy : a.eval y = .agg cs) {T : TypeId} {old : Array Value} (hg : w.heap[g]? = some (.cells old T (0, 0))) (hi : (P.info? ty).map (·.size) = some cs.size) (hl : old.size = cs.size) (h1 : cs.all (·.oneCell') = true)
    (h : ∀ w1, w1.heap[g]? = some (.cells cs T (0, 0)) → w.grownBy w1 (some g) → wpListIn F n P ops Q rest (a.put o.dst undef) w1) : wpListIn F n P ops Q (o :: rest) a w :=
  wpLI_skip hF (by simp [Region.wanted, hgd]) (by rw [ho]; intro c e; cases e) (run_storeR ho g cs hx hy hg hi hl h1)
    (h _ (setRow_heap w g _ _ T _ hg) ⟨rfl, rfl, rfl, by simp [World.setRow], fun k _ hk => setRow_other w g k _ (fun e => hk (by rw [e]))⟩)
theorem wpLI_storeF (hF : ∀ f, F.fn f) (hgd : o.guard = none) (ty : TypeId) (x y : Operand) (ho : o.op = .store ty x y)
    (g k : Nat) (v : Value) (hx : a.eval x = .pointer (some ⟨g, k, none⟩)) (hy : a.eval y = v) (h1 : v.oneCell' = true) {cs : Array Value} {T : TypeId} (hg : w.heap[g]? = some (.cells cs T (0, 0))) (hk : k < cs.size) (hi : (P.info? ty).map (·.size) = some 1)
    (cs' : Array Value) (he : cs.setIfInBounds k v = cs')
    (h : ∀ w1, w1.heap[g]? = some (.cells cs' T (0, 0)) → w.grownBy w1 (some g) → wpListIn F n P ops Q rest (a.put o.dst undef) w1) : wpListIn F n P ops Q (o :: rest) a w :=
  wpLI_skip hF (by simp [Region.wanted, hgd]) (by rw [ho]; intro c e; cases e) (by
    unfold execOp
    simp only [ho, hx, hy, Sem.run_bind, Sem.run_pure, Result.andThen_ok, run_storeF (P := P) hg hk h1 hi])
    (h _ (by rw [block_set hg, he]) (set_grown w g k v))
theorem wpLI_newN {o1 o2 : Oper} (hF : ∀ f, F.fn f) (hg1 : o1.guard = none) (hg2 : o2.guard = none) (T : TypeId) (ho1 : o1.op = .alloc T) (x y : Operand) (ho2 : o2.op = .store T x y)
    (cs zs : Array Value) (hi : (P.info? T).map (fun i => (i.zero, i.size)) = some (some (.agg zs), cs.size)) (hz : zs.size = cs.size) (h1 : cs.all (·.oneCell') = true)
    (hx : ∀ p, (a.put o1.dst p).eval x = p) (hy : ∀ p, (a.put o1.dst p).eval y = .agg cs)
    (h : ∀ w1 g, w.heap.size ≤ g → g < w1.heap.size → w1.heap[g]? = some (.cells cs T (0, 0)) → Below w.heap.size w w1 → wpListIn F n P ops Q rest ((a.put o1.dst (.pointer (some ⟨g, 0, none⟩))).put o2.dst undef) w1) :
    wpListIn F n P ops Q (o1 :: o2 :: rest) a w := by
  obtain ⟨hz0, hsz⟩ := zero_of_info hi
  refine wpLI_run hF (v := .pointer (some ⟨w.heap.size, 0, none⟩)) (w' := w.alloc (.cells zs T)) (by simp [Region.wanted, hg1]) (by rw [ho1]; intro c e; cases e) ?_ ?_
  · simp [execOp, ho1, Instr.alloc, hz0, newVar, newRow, Value.cells]
  · refine wpLI_skip hF (by simp [Region.wanted, hg2]) (by rw [ho2]; intro c e; cases e) (run_storeR ho2 w.heap.size cs (hx _) (hy _) (heap_alloc_last w _) hsz hz h1) ?_
    rw [World.setRow_alloc_new]
    exact h _ _ (Nat.le_refl _) (by simp) (heap_alloc_last w _) ((Below.refl _ _).alloc (Nat.le_refl _) _)
end
end Go.Proofs.Ytgpdlhbndoeldaa
/-
  Chapter 21: all, which hands out the flows slot by slot: walked.
-/
namespace Go.Proofs.Ytgpdlhbndoeldaa
open Go.RowKit Go.Sort Go.Shelf
set_option linter.unusedVariables false
set_option linter.unusedSimpArgs false
set_option maxRecDepth 100000
set_option maxHeartbeats 8000000
attribute [local go_sem] Oper.semAt_some

/-- the flows, slot by slot -/
def flowsS (S : List Slt) : List FloW := (S.filter (·.used)).map (·.f)
theorem flowsS_take (S : List Slt) (k : Nat) (hk : k < S.length) : flowsS (S.take (k + 1)) = flowsS (S.take k) ++ if S[k].used then [S[k].f] else [] := by
  unfold flowsS
  rw [← List.take_append_getElem hk, List.filter_append, List.map_append]
  congr 1
  rcases two S[k].used with h | h <;> simp [h]
theorem flowsS_len (S : List Slt) : (flowsS S).length ≤ S.length := by
  unfold flowsS
  rw [List.length_map]
  exact List.length_filter_le _ _
theorem flowsS_mem {S : List Slt} {k : Nat} (hk : k < S.length) (h : S[k].used = true) : S[k].f ∈ flowsS S :=
  List.mem_map.2 ⟨S[k], List.mem_filter.2 ⟨List.getElem_mem hk, h⟩, rfl⟩
def encF (x : FloW) : Array Value := #[.agg x.v.cells.toArray]
theorem all1_in (n : Nat) (hn : 3 ≤ n) (l B p q : Nat) (kb : List UInt8) (room cnt : Nat) (S : List Slt) (w0 : World) (hT : Tb w0 p q kb room cnt S)
    (J : List FloW → World → Prop) (W : World) (hw0 : Below w0.heap.size w0 W)
    (hBB : W.heap[B]? = some (.cells #[.pointer (some ⟨p, 0, none⟩)] 30 (0, 0)))
    (hJ : ∀ s A A', J s A → Below A.heap.size A A' → J s A')
    (hY : ∀ pre x W1, J pre W1 → x ∈ flowsS S → pre.length < S.length → YieldAt Fence.wide (n - 1) Try.prog l (encF x) W1 fun e W' => e = .returned (.bool true) ∧ J (pre ++ [x]) W' ∧ Below w0.heap.size W1 W')
    (h0 : J [] W) :
    CallsIn Fence.wide n Try.prog 52 (#[.func (.yield l) #[] #[]] ++ #[.pointer (some ⟨B, 0, none⟩)]) W fun e W' => (∃ v, e = .returned v) ∧ ∃ xs, xs = flowsS S ∧ J xs W' := by
  have HT := Lib.hid hT
  have HJ := Lib.hid hJ
  have HY := Lib.hid hY
  have HJ0 := Lib.hid h0
  have HBB := Lib.hid hBB
  have HW0 := Lib.hid hw0
  obtain ⟨N, hN⟩ : ∃ N, N = S.length := ⟨_, rfl⟩
  have HN := Lib.hid hN
  have hN1 : N ≤ 8192 := by rw [hN]; exact hT.hn
  have hc18 : W.cell? ⟨p, 18, none⟩ = some (.slice (some ⟨q, 0, none⟩) N N) := by
    rw [hN]; exact (hw0.cell (p := ⟨p, 18, none⟩) (lt_of_block hT.hp)).trans (Tb.cells hT).2.2.2
  have HSI := Lib.hid slt_info
  have HFI := Lib.hid flo_size
  have hF : ∀ f, Fence.wide.fn f := fun _ => trivial
  have h1n : 1 ≤ n := by omega
  clear hT hJ hY h0 hBB hw0 hN
  refine callsIn_of_wp Try.func52 rfl trivial ?_ rfl
  simp only [Try.ntmps52, List.size_toArray, List.length_cons, List.length_nil, Nat.reduceAdd, Nat.reduceSub, Array.replicate_succ, Array.replicate_zero, List.push_toArray, List.append_toArray, List.nil_append, List.cons_append]
  gi_wp2_with (first
    | ((with_reducible refine slI 5 ?_); go_must (refine wpLI_loadF hF rfl 30 (.tmp 1) rfl B 0 rfl (.pointer (some ⟨p, 0, none⟩)) HBB.out rfl Try.underlying30 rfl ?_); simp only [PT]))
  clear hc18 HBB
  gi_loopw [10] (fun i wr => ∃ (k : Nat) (xs : List FloW), k ≤ N ∧ i = .int .i64 k ∧ Hid (xs = flowsS (S.take k)) ∧ Hid (J xs wr) ∧ Hid (Below w0.heap.size w0 wr)) (fun i _ => N + 1 - (intOf i).toNat)
  case atStart => exact ⟨0, [], Nat.zero_le _, rfl, Lib.hid rfl, HJ0, HW0⟩
  case round =>
    obtain ⟨k, xs, hk, rfl, HXS, HJx, HW⟩ := hrel
    clear HJ0 HW0
    by_cases hlt : (k : Int) < N
    · have hkN : k < N := by omega
      have hkS : k < S.length := by rw [← HN.out]; exact hkN
      obtain ⟨s, hs⟩ : ∃ s, s = S[k] := ⟨_, rfl⟩
      have HS := Lib.hid hs
      obtain ⟨c0, c1, c2, _⟩ := Tb.slot HT.out k hkS
      rw [← hs] at c0 c1 c2
      have ltq := lt_of_block HT.out.hq
      have HR := Lib.hid (range_below c1 ltq HW.out)
      have HI4 : Hid ((Try.prog.info? 79).map (·.size) = some s.cells.length) := Lib.hid (by rw [Slt.length]; exact slt_size)
      have HIS : Hid ((Try.prog.info? 79).map (fun i => (i.zero, i.size)) = some (some (.agg zeroS.cells.toArray), s.cells.toArray.size)) := Lib.hid (by rw [List.size_toArray, Slt.length]; exact slt_info)
      have HIF4 : Hid ((Try.prog.info? 28).map (·.size) = some s.f.v.cells.length) := Lib.hid (by rw [Flo.length s.f.ok]; exact flo_size)
      have HTK := Lib.hid (flowsS_take S k hkS)
      have HMEM : Hid (s.used = true → s.f ∈ flowsS S) := Lib.hid (fun h => by rw [hs] at h ⊢; exact flowsS_mem hkS h)
      have HLEN : Hid (xs.length ≤ k) := Lib.hid (by rw [HXS.out]; exact Nat.le_trans (flowsS_len _) (by rw [List.length_take]; omega))
      clear c0 c1 c2 hs
      rcases two s.used with hu | hu
      · have HU := Lib.hid hu
        clear hu
        gi_wp2_with (first
          | ((with_reducible refine slI 13 ?_); go_must (refine wpLI_load hF rfl 79 (.tmp 12) rfl q (k * 42) rfl s.cells _ HR.out Try.underlying79 rfl HI4.out ?_); simp only [PT])
          | ((with_reducible refine slI 4 ?_); go_must (refine wpLI_newN hF rfl rfl 79 rfl (.tmp 4) (.tmp 13) rfl s.cells.toArray _ HIS.out (by rw [List.size_toArray, List.size_toArray, Slt.length, Slt.length]) (slot_one s) (fun _ => rfl) (fun _ => rfl) ?_); intro w4 g4 le_g4 lt_g4 hg__ hb__; have HG4 := Lib.hid hg__; replace HJx := Lib.hid (HJ.out _ _ _ HJx.out hb__); replace HW := Lib.hid (HW.out.trans (hb__.mono HW.out.size)); clear hg__ hb__; obtain ⟨fn, tmps, assign, body, hy, hR⟩ := HY.out xs s.f w4 HJx.out (HMEM.out HU.out) (by have := HLEN.out; rw [← HN.out]; omega); simp only [encF] at hy; simp only [PT])
          | ((with_reducible refine slI 15 ?_); go_must (refine wpLI_loadF hF rfl 4 (.tmp 14) rfl g4 0 rfl (.bool true) HG4.out (by rw [← HU.out]; rfl) Try.underlying4 rfl ?_); simp only [PT])
          | ((with_reducible refine slI 19 ?_); refine wpLI_load hF rfl 28 (.tmp 18) rfl g4 1 rfl s.f.v.cells _ (range_sub HG4.out (slot_flo s)) Try.underlying28 rfl HIF4.out ?_; simp only [PT]))
        refine hR.mono ?_
        rintro e W3 ⟨rfl, hJ3, hk3⟩
        have HJc := Lib.hid hJ3
        have HWc := Lib.hid (HW.out.trans hk3)
        clear hJ3 hk3 hR hy HG4 HW HJx HR
        gi_wp2
        go_roundw
        case rel => exact ⟨k + 1, xs ++ [s.f], by omega, by go_num, Lib.hid (by rw [HTK.out, ← HS.out, HU.out, HXS.out]; rfl), HJc, HWc⟩
        case measure => first | (simp [intOf]; done) | (simp [intOf]; omega)
      · have HU := Lib.hid hu
        clear hu
        gi_wp2_with (first
          | ((with_reducible refine slI 13 ?_); go_must (refine wpLI_load hF rfl 79 (.tmp 12) rfl q (k * 42) rfl s.cells _ HR.out Try.underlying79 rfl HI4.out ?_); simp only [PT])
          | ((with_reducible refine slI 4 ?_); go_must (refine wpLI_newN hF rfl rfl 79 rfl (.tmp 4) (.tmp 13) rfl s.cells.toArray _ HIS.out (by rw [List.size_toArray, List.size_toArray, Slt.length, Slt.length]) (slot_one s) (fun _ => rfl) (fun _ => rfl) ?_); intro w4 g4 le_g4 lt_g4 hg__ hb__; have HG4 := Lib.hid hg__; replace HJx := Lib.hid (HJ.out _ _ _ HJx.out hb__); replace HW := Lib.hid (HW.out.trans (hb__.mono HW.out.size)); clear hg__ hb__; simp only [PT])
          | ((with_reducible refine slI 15 ?_); go_must (refine wpLI_loadF hF rfl 4 (.tmp 14) rfl g4 0 rfl (.bool false) HG4.out (by rw [← HU.out]; rfl) Try.underlying4 rfl ?_); simp only [PT]))
        go_roundw
        case rel => exact ⟨k + 1, xs, by omega, by go_num, Lib.hid (by rw [HTK.out, ← HS.out, HU.out, HXS.out]; simp), HJx, HW⟩
        case measure => first | (simp [intOf]; done) | (simp [intOf]; omega)
    · obtain rfl : k = N := by omega
      have HALL : Hid (xs = flowsS S) := Lib.hid (by rw [HXS.out, List.take_of_length_le (by rw [← HN.out]; exact Nat.le_refl _)])
      gi_wp2
      go_end0
      rw [← HALL.out]
      exact ⟨⟨_, rfl⟩, HJx.out⟩
theorem all_any (p : Nat) (w : World) :
    Calls Try.prog 39 #[.pointer (some ⟨p, 0, none⟩)] w fun e w' => ∃ B, e = .returned (.func (.func 52) #[] #[.pointer (some ⟨B, 0, none⟩)]) ∧ w'.heap[B]? = some (.cells #[.pointer (some ⟨p, 0, none⟩)] 30 (0, 0)) ∧ w.heap.size ≤ B ∧ Below w.heap.size w w' := by
  have HB := Lib.hid (Below.refl w.heap.size w)
  go_enter Try.func39, Try.ntmps39
  go_wp2_with (first
    | ((with_reducible refine sl 1 ?_); go_must (refine wpL_boxG rfl 30 (.tmp 0) rfl #[.pointer (some ⟨p, 0, none⟩)] rfl ?_); intro w1 g1 he__ le_g1 lt_g1 hg__ hb__; have HG1 := Lib.hid hg__; have hE__ := cU HB bup hb__; replace HB := ck HB hE__; clear hE__; clear hg__ hb__ he__; simp only [PT]))
  go_ret
  exact ⟨g1, rfl, HG1.out, le_g1, HB.out⟩
theorem all_seq (m : Nat) (hm : 3 ≤ m) (B p q : Nat) (kb : List UInt8) (room cnt : Nat) (S : List Slt) (w0 w1 : World) (hT : Tb w0 p q kb room cnt S) (hw0 : Below w0.heap.size w0 w1)
    (hB : w1.heap[B]? = some (.cells #[.pointer (some ⟨p, 0, none⟩)] 30 (0, 0))) :
    SeqAll Fence.wide m Try.prog 52 #[.pointer (some ⟨B, 0, none⟩)] encF (Below w0.heap.size) (fun _ A A' => Below A.heap.size A A') (fun xs _ => xs = flowsS S) (fun x _ => x ∈ flowsS S) S.length w1 := fun l J W hW hJ hY h0 =>
  all1_in m hm l B p q kb room cnt S w0 hT J W (hw0.trans (hW.mono hw0.size)) ((hW.block _ (lt_of_block hB)).trans hB) hJ hY h0
end Go.Proofs.Ytgpdlhbndoeldaa
