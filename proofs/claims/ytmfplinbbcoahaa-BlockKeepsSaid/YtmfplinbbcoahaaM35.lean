/-
  Joined by program (merge.py): LawE.
-/
import Derived.RegionTactic
import Derived.BigRegion
import Derived.Test.YtmfplinbbcoahaaM18
import Derived.Test.YtmfplinbbcoahaaM22
import Derived.Test.YtmfplinbbcoahaaM28
/-
  Chapter 26: the law BlockKeeps, walked.
-/
namespace Go.Proofs.Ytmfplinbbcoahaa
open Go.RowKit Go.Sort
set_option linter.unusedVariables false
set_option linter.unusedSimpArgs false

theorem u8_next (b : UInt8) : IntKind.u8.wrap ((b.toNat : Int) + 1) = ((b + 1).toNat : Int) := by
  rw [IntKind.wrap_u8, UInt8.toNat_add]
  show ((b.toNat : Int) + 1) % 256 = (((b.toNat + 1) % 256 : Nat) : Int)
  omega
theorem Bs.grown {w w' : World} {row : Option Nat} {ad : Option Addr} {n c : Nat} {l : List UInt8} (h : Bs w ad n c l) (hg : w.grownBy w' row) (hne : ∀ x, ad = some x → row ≠ some x.block) : Bs w' ad n c l := Sl.grown h hg hne
theorem own_grown {w w' : World} {base : Nat} {e : TypeId} {size : Nat} {row : Option Nat} {ad : Option Addr} {n c : Nat} {xs : List Value} (h : w.ownsRow base e size (.slice ad n c) n xs) (hg : w.grownBy w' row) (hb : ∀ k, row = some k → k < base) : w'.ownsRow base e size (.slice ad n c) n xs := by
  refine h.kept hg ?_
  rcases own_form h with ⟨h0, _⟩ | ⟨g', h1, h2, _⟩
  · rw [h0]; exact .inl rfl
  · rw [h1]
    refine .inr fun e => ?_
    have := hb g' e.symm
    omega
theorem blk_grown {w w' : World} {base : Nat} {row : Option Nat} {v : BlkV} (h : OwnBlk base w v) (hg : w.grownBy w' row) (hb : ∀ k, row = some k → k < base) : OwnBlk base w' v := by
  obtain ⟨h1, h2, h3⟩ := h
  have ho : ∀ {a n c os}, OwnOps 90 base w a n c os → OwnOps 90 base w' a n c os := fun h => ⟨own_grown h.1 hg hb, fun o ho => ⟨Sl.grown (h.2 o ho).1 hg (fun x hx e => by have h5 := hb _ e; have h6 := ((h.2 o ho).2 x hx).1; omega), fun x hx => ⟨((h.2 o ho).2 x hx).1, Nat.lt_of_lt_of_le ((h.2 o ho).2 x hx).2.1 hg.size, ((h.2 o ho).2 x hx).2.2⟩⟩⟩
  exact ⟨own_grown h1 hg hb, ho h2, ho h3⟩
theorem heap_grown {w w' : World} {row : Option Nat} {g : Nat} {ob : Obj} (h : w.heap[g]? = some ob) (hg : w.grownBy w' row) (hne : row ≠ some g) : w'.heap[g]? = some ob := (hg.block g (lt_of_block h) (fun e => hne e.symm)).trans h

theorem ownlt {w : World} {base : Nat} {e : TypeId} {size : Nat} {ad : Option Addr} {n c : Nat} {xs : List Value} (h : w.ownsRow base e size (.slice ad n c) n xs) : ∀ k, Value.ownBlock (.slice ad n c) = some k → k < w.heap.size := by
  intro k hk
  rcases own_form h with ⟨h0, _⟩ | ⟨g, h1, _, h3⟩
  · rw [h0] at hk; cases hk
  · rw [h1] at hk; simp [Value.ownBlock] at hk; omega

set_option maxRecDepth 100000 in
set_option maxHeartbeats 16000000 in
theorem keeps26_walk (ad : Option Addr) (n c : Nat) (l : List UInt8) (big : Bool) (w : World) (hs : Bs w ad n c l) :
    Calls Try.prog 9 #[.slice ad n c, .bool big] w fun e w' => e = .returned (.bool true) ∧ Below w.heap.size w w' := by
  have HB := Lib.hid (Below.refl w.heap.size w)
  have HBI := Lib.hid blk_info
  have HZI := Lib.hid zero_info
  have HL := Lib.hid hs
  have hln := hs.len
  subst hln
  clear hs
  by_cases hn : 70000 < l.length
  · have hi : (70000 : Int) < (l.length : Int) := by omega
    go_enter Try.func9, Try.ntmps9
    go_wp2_with (first
      | (go_at_call 17; go_must (refine (blkAwake_any _).mono ?_); intro e wc1 hr; obtain ⟨rfl, hb__⟩ := hr; have hE__ := cU HB bup hb__; replace HB := ck HB hE__; replace HL := ck HL hE__; clear hE__; clear hb__))
    go_ret
    exact ⟨rfl, HB.out⟩
  have hi : ¬ (70000 : Int) < (l.length : Int) := by omega
  obtain ⟨P, hP⟩ : ∃ P, P = getP big l := ⟨_, rfl⟩
  obtain ⟨X, N, E⟩ := P
  by_cases hE : E = 0
  rotate_left
  · obtain ⟨e1, e2, e3, e4⟩ := get_err big l (by rw [← hP]; exact hE)
    rw [← hP] at e1 e2 e3 e4
    simp only at e1 e2 e3 e4
    subst e2
    have HX := Lib.hid hP.symm
    have HL0 := HL
    have hE4 : E = 1 ∨ E = 2 ∨ E = 3 ∨ E = 4 := by omega
    clear hP e1 hE e3 e4
    rcases hE4 with rfl | rfl | rfl | rfl
    all_goals
      go_enter Try.func9, Try.ntmps9
      go_wp2_with (first
        | (go_at_call 17; go_must (refine (blkAwake_any _).mono ?_); intro e wc1 hr; obtain ⟨rfl, hb__⟩ := hr; have hE__ := cU HB bup hb__; replace HB := ck HB hE__; replace HL := ck HL hE__; clear hE__; clear hb__)
        | ((with_reducible refine sl 24 ?_); go_must (refine wpL_lit0 rfl rfl ?_); intro wl gl le_ hown__ hb__; have HE := Lib.hid hb__; have HQ := Lib.hid hown__; clear hb__ hown__ le_; simp only [PT])
        | ((with_reducible refine sl 26 ?_); go_must (refine wpL_appL elB rfl (.tmp 24) (.tmp 25) rfl _ (L := []) rfl (own_keep HQ.out bup) rfl (HL.out.below (HE.out.trans (Below.mono bup HE.out.size))) (l) (by rfl) (by omega) (Nat.le_trans HE.out.size (bsz bup)) ?_); intro adq cq wa26 hown__ hb__; replace HE := cEb HE bup hb__; clear HQ; have HQ := Lib.hid (own_base hown__ HB.out.size); clear hown__ hb__; have hb__ := HE.out; have hE__ := cU HB bup hb__; replace HB := ck HB hE__; replace HL := ck HL hE__; clear hE__; clear hb__ HE; simp only [PT])
        | (go_at_call 26; (with_reducible show Calls _ _ #[Value.slice adq _ _, _] _ _); go_must (refine (blkGet_at X 0 _ adq l.length cq l big HX.out _ (Bs.of_own (own_keep HQ.out bup)) (by omega)).mono ?_); intro e wc2 hr; obtain ⟨v1, rfl, hv__, ho__, hb__⟩ := hr; obtain ⟨B1, ho1, hlt1, hB1, hB0⟩ : ∃ B, OwnBlk B _ v1 ∧ (∀ k, Value.ownBlock (.slice adq l.length cq) = some k → k < B) ∧ B ≤ _ ∧ w.heap.size ≤ B := ⟨_, ho__, ownlt (own_keep HQ.out bup), hb__.size, Nat.le_trans HB.out.size (bsz bup)⟩; have HX1 := Lib.hid ho1; have HV1 := Lib.hid hv__; have HLT := Lib.hid hlt1; clear ho__ hv__ ho1 hlt1; have hE__ := cU HB bup hb__; replace HB := ck HB hE__; replace HL := ck HL hE__; replace HQ := ck HQ hE__; clear hE__; clear hb__)
        | ((with_reducible refine sl 6 ?_); go_must (refine wpL_newN rfl rfl 27 rfl (.tmp 6) (.tmp 31) rfl (v1.cells).toArray _ HZI.out rfl (bcells_all _) (fun _ => rfl) (fun _ => rfl) ?_); intro wn6 g6 le_g6 lt_g6 hg__ hb__; have HG6 := Lib.hid hg__; have hg6 : B1 ≤ g6 := Nat.le_trans hB1 (Nat.le_trans (bsz bup) le_g6); have HAP := Lib.hid ((HX1.out.keep bup).apart_lt le_g6); have hE__ := cU HB bup hb__; replace HB := ck HB hE__; replace HL := ck HL hE__; replace HQ := ck HQ hE__; replace HX1 := ck HX1 hE__; clear hE__; clear hg__ hb__; simp only [PT])
        | ((with_reducible refine sl 35 ?_); go_must (refine wpL_str elB.1 (by kernel_rfl) (by kernel_rfl) rfl (.tmp 34) rfl rfl ((Bs.of_own HQ.out).below bup) ?_); simp only [PT])
        | ((with_reducible refine sl 37 ?_); go_must (refine wpL_str elB.1 (by kernel_rfl) (by kernel_rfl) rfl (.tmp 36) rfl rfl (HL.out.below bup) ?_); simp only [PT]))
      obtain ⟨wz, hwz, HB, HL, HQ, HX1, HG6⟩ : ∃ wz, wz = wn6 ∧ Hid (Below w.heap.size w wz) ∧ Hid (Bs wz ad l.length c l) ∧ Hid (wz.ownsRow w.heap.size 5 1 (.slice adq l.length cq) l.length (BV l)) ∧ Hid (OwnBlk B1 wz v1) ∧ Hid (wz.heap[g6]? = some (.cells v1.cells.toArray 27 (0, 0))) := ⟨wn6, rfl, HB, HL, HQ, HX1, HG6⟩
      subst hwz
      go_loopw [9] (fun i wr => ∃ (k : Nat) (M : List UInt8), k ≤ l.length ∧ i = .int .i64 k ∧ wr.ownsRow w.heap.size 5 1 (.slice adq l.length cq) l.length (BV M) ∧ wz.grownBy wr (Value.ownBlock (.slice adq l.length cq))) (fun i _ => l.length - (intOf i).toNat)
      case atStart => exact ⟨0, l, Nat.zero_le _, rfl, HQ.out, World.grownBy.refl _ _⟩
      case round =>
        obtain ⟨k, M, hk, rfl, hown, hg⟩ := hrel
        by_cases hlt : k < l.length
        · obtain ⟨g, rfl, _, _⟩ := own_some hown (by omega)
          have cc := own_cell hown hlt
          have ff := hown.frozenAt k
          have hwr := u8_next (at8 M k)
          obtain ⟨o2, g2⟩ := own_store hown k (at8 M k + 1)
          have HO2 := Lib.hid o2
          have HG2 := Lib.hid (hg.trans g2)
          clear o2 g2 hown hg
          go_wp2_with fail
          go_roundw
          case rel => exact ⟨k + 1, _, by omega, by go_num, HO2.out, HG2.out⟩
          case measure => first | (simp [intOf]; done) | (simp [intOf]; omega)
        · have hgw : ∀ k, Value.ownBlock (.slice adq l.length cq) = some k → w.heap.size ≤ k := fun k hk => ownBlock_ge HQ.out k hk
          have HB' := Lib.hid (HB.out.grown hg HB.out.size hgw)
          have HL' := Lib.hid (HL0.out.below HB'.out)
          have HX1' := Lib.hid (blk_grown HX1.out hg HLT.out)
          have HG6' := Lib.hid (heap_grown HG6.out hg (fun e => by have := HLT.out _ e; omega))
          clear hown hg hgw HB HL HX1 HG6 HQ
          have HB := HB'
          have HL := HL'
          have HX1 := HX1'
          have HG6 := HG6'
          clear HB' HL' HX1' HG6'
          go_wp2_with (first
            | (go_at_call 27; (with_reducible show Calls _ _ #[Value.slice ad _ _, _] _ _); go_must (refine (refGetB_at X 0 _ ad l.length c l big HX.out _ (HL.out.below bup) (by omega)).mono ?_); intro e wc1 hr; obtain ⟨v2, rfl, hv__, ho__, hb__⟩ := hr; clear ho__ hv__; have hE__ := cU HB bup hb__; replace HB := ck HB hE__; replace HL := ck HL hE__; clear hE__; clear hb__)
            | ((with_reducible refine sl 10 ?_); go_must (refine wpL_newN rfl rfl 27 rfl (.tmp 10) (.tmp 57) rfl (v2.cells).toArray _ HZI.out rfl (bcells_all _) (fun _ => rfl) (fun _ => rfl) ?_); intro wn10 g10 le_g10 lt_g10 hg__ hb__; have HG10 := Lib.hid hg__; have hE__ := cU HB bup hb__; replace HB := ck HB hE__; replace HL := ck HL hE__; clear hE__; clear hg__ hb__; simp only [PT]))
          go_ret
          exact ⟨by simp, HB.out⟩
  subst hE
  obtain ⟨hm, hw, hz, hN, _, _⟩ := get_ok big l (by rw [← hP])
  rw [← hP] at hm hw hz hN
  simp only at hm hw hz hN
  have HX := Lib.hid hP.symm
  have HL0 := HL
  have HM := Lib.hid hm
  have HWF := Lib.hid hw
  obtain ⟨S, hS⟩ : ∃ S, S = sizeB X := ⟨_, rfl⟩
  have hsz : S ≤ 70016 := by rw [hS]; omega
  have hz2 : sizeB X ≤ 1048576 := by omega
  have HSZ : Hid (sizeB X ≤ 70420) := Lib.hid (by omega)
  have HR : Hid (rightP X = true) := Lib.hid (by simp [rightP, hm]; omega)
  obtain ⟨LC, hLC⟩ : ∃ L, L = bytesB big X := ⟨_, rfl⟩
  have HLC := Lib.hid hLC
  have HLCS : Hid (LC.length = S) := Lib.hid (by rw [hLC, bytesB_length, hS])
  clear hP hm hw hz hN hS hz2 hLC
  go_enter Try.func9, Try.ntmps9
  go_wp2_with (first
    | (go_at_call 17; go_must (refine (blkAwake_any _).mono ?_); intro e wc1 hr; obtain ⟨rfl, hb__⟩ := hr; have hE__ := cU HB bup hb__; replace HB := ck HB hE__; replace HL := ck HL hE__; clear hE__; clear hb__)
    | ((with_reducible refine sl 24 ?_); go_must (refine wpL_lit0 rfl rfl ?_); intro wl gl le_ hown__ hb__; have HE := Lib.hid hb__; have HQ := Lib.hid hown__; clear hb__ hown__ le_; simp only [PT])
    | ((with_reducible refine sl 26 ?_); go_must (refine wpL_appL elB rfl (.tmp 24) (.tmp 25) rfl _ (L := []) rfl (own_keep HQ.out bup) rfl (HL.out.below (HE.out.trans (Below.mono bup HE.out.size))) (l) (by rfl) (by omega) (Nat.le_trans HE.out.size (bsz bup)) ?_); intro adq cq wa26 hown__ hb__; replace HE := cEb HE bup hb__; clear HQ; have HQ := Lib.hid (own_base hown__ HB.out.size); clear hown__ hb__; have hb__ := HE.out; have hE__ := cU HB bup hb__; replace HB := ck HB hE__; replace HL := ck HL hE__; clear hE__; clear hb__ HE; simp only [PT])
    | (go_at_call 26; (with_reducible show Calls _ _ #[Value.slice adq _ _, _] _ _); go_must (refine (blkGet_at X N 0 adq l.length cq l big HX.out _ (Bs.of_own (own_keep HQ.out bup)) (by omega)).mono ?_); intro e wc2 hr; obtain ⟨v1, rfl, hv__, ho__, hb__⟩ := hr; obtain ⟨B1, ho1, hlt1, hB1, hB0⟩ : ∃ B, OwnBlk B _ v1 ∧ (∀ k, Value.ownBlock (.slice adq l.length cq) = some k → k < B) ∧ B ≤ _ ∧ w.heap.size ≤ B := ⟨_, ho__, ownlt (own_keep HQ.out bup), hb__.size, Nat.le_trans HB.out.size (bsz bup)⟩; have HX1 := Lib.hid ho1; have HV1 := Lib.hid hv__; have HLT := Lib.hid hlt1; clear ho__ hv__ ho1 hlt1; have hE__ := cU HB bup hb__; replace HB := ck HB hE__; replace HL := ck HL hE__; replace HQ := ck HQ hE__; clear hE__; clear hb__)
    | ((with_reducible refine sl 6 ?_); go_must (refine wpL_newN rfl rfl 27 rfl (.tmp 6) (.tmp 31) rfl (v1.cells).toArray _ HZI.out rfl (bcells_all _) (fun _ => rfl) (fun _ => rfl) ?_); intro wn6 g6 le_g6 lt_g6 hg__ hb__; have HG6 := Lib.hid hg__; have hg6 : B1 ≤ g6 := Nat.le_trans hB1 (Nat.le_trans (bsz bup) le_g6); have HAP := Lib.hid ((HX1.out.keep bup).apart_lt le_g6); have hE__ := cU HB bup hb__; replace HB := ck HB hE__; replace HL := ck HL hE__; replace HQ := ck HQ hE__; replace HX1 := ck HX1 hE__; clear hE__; clear hg__ hb__; simp only [PT])
    | ((with_reducible refine sl 35 ?_); go_must (refine wpL_str elB.1 (by kernel_rfl) (by kernel_rfl) rfl (.tmp 34) rfl rfl ((Bs.of_own HQ.out).below bup) ?_); simp only [PT])
    | ((with_reducible refine sl 37 ?_); go_must (refine wpL_str elB.1 (by kernel_rfl) (by kernel_rfl) rfl (.tmp 36) rfl rfl (HL.out.below bup) ?_); simp only [PT]))
  obtain ⟨wz, hwz, HB, HL, HQ, HX1, HG6⟩ : ∃ wz, wz = wn6 ∧ Hid (Below w.heap.size w wz) ∧ Hid (Bs wz ad l.length c l) ∧ Hid (wz.ownsRow w.heap.size 5 1 (.slice adq l.length cq) l.length (BV l)) ∧ Hid (OwnBlk B1 wz v1) ∧ Hid (wz.heap[g6]? = some (.cells v1.cells.toArray 27 (0, 0))) := ⟨wn6, rfl, HB, HL, HQ, HX1, HG6⟩
  subst hwz
  go_loopw [9] (fun i wr => ∃ (k : Nat) (M : List UInt8), k ≤ l.length ∧ i = .int .i64 k ∧ wr.ownsRow w.heap.size 5 1 (.slice adq l.length cq) l.length (BV M) ∧ wz.grownBy wr (Value.ownBlock (.slice adq l.length cq))) (fun i _ => l.length - (intOf i).toNat)
  case atStart => exact ⟨0, l, Nat.zero_le _, rfl, HQ.out, World.grownBy.refl _ _⟩
  case round =>
    obtain ⟨k, M, hk, rfl, hown, hg⟩ := hrel
    by_cases hlt : k < l.length
    · obtain ⟨g, rfl, _, _⟩ := own_some hown (by omega)
      have cc := own_cell hown hlt
      have ff := hown.frozenAt k
      have hwr := u8_next (at8 M k)
      obtain ⟨o2, g2⟩ := own_store hown k (at8 M k + 1)
      have HO2 := Lib.hid o2
      have HG2 := Lib.hid (hg.trans g2)
      clear o2 g2 hown hg
      go_wp2_with fail
      go_roundw
      case rel => exact ⟨k + 1, _, by omega, by go_num, HO2.out, HG2.out⟩
      case measure => first | (simp [intOf]; done) | (simp [intOf]; omega)
    · have hgw : ∀ k, Value.ownBlock (.slice adq l.length cq) = some k → w.heap.size ≤ k := fun k hk => ownBlock_ge HQ.out k hk
      have HB' := Lib.hid (HB.out.grown hg HB.out.size hgw)
      have HL' := Lib.hid (HL0.out.below HB'.out)
      have HX1' := Lib.hid (blk_grown HX1.out hg HLT.out)
      have HG6' := Lib.hid (heap_grown HG6.out hg (fun e => by have := HLT.out _ e; omega))
      clear hown hg hgw HB HL HX1 HG6 HQ
      have HB := HB'
      have HL := HL'
      have HX1 := HX1'
      have HG6 := HG6'
      clear HB' HL' HX1' HG6'
      go_wp2_with (first
        | (go_at_call 22; have t1__ := H13; clear t1__; go_must (refine (refBSame_at true v1 v2 (by rw [HV1.out, HV2.out]; exact sameP_self _) _ (HX1.out.keep bup).blk (HX2.out.keep bup).blk).mono ?_); intro e wc4 hr; obtain ⟨rfl, hb__⟩ := hr; have hE__ := cU HB bup hb__; replace HB := ck HB hE__; replace HX1 := ck HX1 hE__; replace HG6 := ck HG6 hE__; replace HX2 := ck HX2 hE__; replace HG10 := ck HG10 hE__; replace H13 := ck H13 hE__; clear hE__; clear hb__)
        | (go_at_call 27; (with_reducible show Calls _ _ #[Value.slice ad _ _, _] _ _); go_must (refine (refGetB_at X N 0 ad l.length c l big HX.out _ (HL.out.below bup) (by omega)).mono ?_); intro e wc1 hr; obtain ⟨v2, rfl, hv__, ho__, hb__⟩ := hr; obtain ⟨B2, ho2, hlt2, hB2⟩ : ∃ B, OwnBlk B _ v2 ∧ (∀ k, Value.ownBlock (.slice v1.dad v1.dn v1.dc) = some k → k < B) ∧ B ≤ _ := ⟨_, ho__, ownlt (HX1.out.keep bup).1, hb__.size⟩; have HX2 := Lib.hid ho2; have HV2 := Lib.hid hv__; have HLT2 := Lib.hid hlt2; clear ho__ hv__ ho2 hlt2; have hE__ := cU HB bup hb__; replace HB := ck HB hE__; replace HX1 := ck HX1 hE__; replace HG6 := ck HG6 hE__; clear hE__; clear hb__)
        | ((with_reducible refine sl 10 ?_); go_must (refine wpL_newN rfl rfl 27 rfl (.tmp 10) (.tmp 57) rfl (v2.cells).toArray _ HZI.out rfl (bcells_all _) (fun _ => rfl) (fun _ => rfl) ?_); intro wn10 g10 le_g10 lt_g10 hg__ hb__; have HG10 := Lib.hid hg__; have hg10 : B2 ≤ g10 := Nat.le_trans hB2 (Nat.le_trans (bsz bup) le_g10); have hE__ := cU HB bup hb__; replace HB := ck HB hE__; replace HX1 := ck HX1 hE__; replace HG6 := ck HG6 hE__; replace HX2 := ck HX2 hE__; clear hE__; clear hg__ hb__; simp only [PT])
        | ((with_reducible refine sl 63 ?_); go_must (refine wpL_load rfl 27 (.tmp 6) rfl g6 0 rfl (v1.cells) _ (range_block HG6.out) Try.underlying27 rfl HBI.out ?_); simp only [PT])
        | ((with_reducible refine sl 64 ?_); go_must (refine wpL_load rfl 27 (.tmp 10) rfl g10 0 rfl (v2.cells) _ (range_block HG10.out) Try.underlying27 rfl HBI.out ?_); simp only [PT])
        | (go_at_call 22; go_must (refine (refBSame_at true v1 v2 (by rw [HV1.out, HV2.out]; exact sameP_self _) _ (HX1.out.keep bup).blk (HX2.out.keep bup).blk).mono ?_); intro e wc2 hr; obtain ⟨rfl, hb__⟩ := hr; have hE__ := cU HB bup hb__; replace HB := ck HB hE__; replace HX1 := ck HX1 hE__; replace HG6 := ck HG6 hE__; replace HX2 := ck HX2 hE__; replace HG10 := ck HG10 hE__; clear hE__; clear hb__)
        | ((with_reducible refine sl 71 ?_); go_must (refine wpL_load rfl 27 (.tmp 6) rfl g6 0 rfl (v1.cells) _ (range_block HG6.out) Try.underlying27 rfl HBI.out ?_); simp only [PT])
        | (go_at_call 23; go_must (refine (blkPut_rightS LC S v1 big (by rw [HV1.out]; exact HLC.out) HLCS.out (by rw [HV1.out]; exact HR.out) _ (HX1.out.keep bup).blk (SmB.of_size HX1.out.blk (by rw [HV1.out]; exact HM.out) (by rw [HV1.out]; exact HSZ.out)) (by rw [HV1.out]; exact HWF.out)).mono ?_); intro e wc3 hr; obtain ⟨ad13, c13, rfl, ho__, hb__⟩ := hr; obtain ⟨B3, ho3, hlt3⟩ : ∃ B, World.ownsRow _ B 5 1 (.slice ad13 S c13) S (BV LC) ∧ (∀ k, Value.ownBlock (.slice v1.dad v1.dn v1.dc) = some k → k < B) := ⟨_, ho__, ownlt (HX1.out.keep bup).1⟩; have H13 := Lib.hid ho3; have HLT3 := Lib.hid hlt3; clear ho__ ho3 hlt3; have hE__ := cU HB bup hb__; replace HB := ck HB hE__; replace HX1 := ck HX1 hE__; replace HG6 := ck HG6 hE__; replace HX2 := ck HX2 hE__; replace HG10 := ck HG10 hE__; clear hE__; clear hb__)
        | ((with_reducible refine sl 76 ?_); go_must (refine wpL_load rfl 27 (.tmp 6) rfl g6 0 rfl (v1.cells) _ (range_block HG6.out) Try.underlying27 rfl HBI.out ?_); simp only [PT])
        | ((with_reducible refine sl 77 ?_); go_must (refine wpL_load rfl 27 (.tmp 10) rfl g10 0 rfl (v2.cells) _ (range_block HG10.out) Try.underlying27 rfl HBI.out ?_); simp only [PT]))
      obtain ⟨wy, HWY, HB, HX1, HG6, HX2, HG10, H13⟩ : ∃ wy, Hid (wy = wc4) ∧ Hid (Below w.heap.size w wy) ∧ Hid (OwnBlk B1 wy v1) ∧ Hid (wy.heap[g6]? = some (.cells v1.cells.toArray 27 (0, 0))) ∧ Hid (OwnBlk B2 wy v2) ∧ Hid (wy.heap[g10]? = some (.cells v2.cells.toArray 27 (0, 0))) ∧ Hid (wy.ownsRow B3 5 1 (.slice ad13 S c13) S (BV LC)) := ⟨wc4, Lib.hid rfl, HB, HX1, HG6, HX2, HG10, H13⟩
      try rw [← HWY.out]
      have HNE : Hid (∀ k, Value.ownBlock (.slice v1.dad v1.dn v1.dc) = some k → B1 ≤ k ∧ k ≠ g6) := Lib.hid (fun k hk => by
        rcases own_form HX1.out.1 with ⟨h0, _⟩ | ⟨g, h1, h2, h3⟩
        · rw [h0] at hk; cases hk
        · have ha := HAP.out.1 _ h1
          rw [h1] at hk
          simp [Value.ownBlock] at hk
          subst hk
          exact ⟨h2, ha⟩)
      go_loopw [15] (fun i wr => ∃ (k : Nat) (M : List UInt8), k ≤ v1.dn ∧ i = .int .i64 k ∧ wr.ownsRow B1 5 1 (.slice v1.dad v1.dn v1.dc) v1.dn (BV M) ∧ wy.grownBy wr (Value.ownBlock (.slice v1.dad v1.dn v1.dc))) (fun i _ => v1.dn - (intOf i).toNat)
      case atStart => exact ⟨0, v1.dl, Nat.zero_le _, rfl, HX1.out.1, World.grownBy.refl _ _⟩
      case round =>
        obtain ⟨k, M, hk, rfl, hown, hg⟩ := hrel
        have hg6r := heap_grown HG6.out hg (fun e => (HNE.out _ e).2 rfl)
        have c8 : wr.cell? ⟨g6, 8, none⟩ = some (.slice v1.dad v1.dn v1.dc) := by rw [cells_get hg6r]; rfl
        clear hg6r
        by_cases hlt : k < v1.dn
        · obtain ⟨g, hga, _, _⟩ := own_some hown (by omega)
          rw [hga] at hown c8
          have cc := own_cell hown hlt
          have ff := hown.frozenAt k
          have hcap := (Bs.of_own hown).le
          have hwr := u8_next (at8 M k)
          obtain ⟨o2, g2⟩ := own_store hown k (at8 M k + 1)
          have HO2 := Lib.hid o2
          have eDS : (Value.ownBlock (.slice v1.dad v1.dn v1.dc)) = some g := by rw [hga]; rfl
          rw [eDS] at hg
          have hg2 := hg.trans g2
          rw [← eDS] at hg2
          have HG2 := Lib.hid hg2
          clear eDS hg2
          have HGA := Lib.hid hga
          generalize at8 M k = bj at *
          generalize hbj : bj + 1 = bk at *
          clear o2 g2 hown hg hga hbj
          go_wp2_with fail
          go_region
          all_goals
            go_wp2_with fail
            go_roundw
            case rel => exact ⟨k + 1, _, by omega, by go_num, by rw [HGA.out]; exact own_keep HO2.out (Below.refl _ _).drew, HG2.out.trans (grown_drew _ _)⟩
            case measure => first | (simp [intOf]; done) | (simp [intOf]; omega)
        · have HB' := Lib.hid (HB.out.grown hg HB.out.size (fun q hq => Nat.le_trans hB0 (HNE.out _ hq).1))
          have H13' := Lib.hid (Bs.of_own (own_grown H13.out hg HLT3.out))
          have HX2' := Lib.hid (blk_grown HX2.out hg HLT2.out)
          have HG10' := Lib.hid (heap_grown HG10.out hg (fun e => by have := HLT2.out _ e; omega))
          clear hown hg HB H13 HX2 HG10 HX1 HG6
          have HB := HB'
          have H13 := H13'
          have HX2 := HX2'
          have HG10 := HG10'
          clear HB' H13' HX2' HG10'
          go_wp2_with fail
          refine wp_region_held_drew (S := fun u__ => u__.heap[g10]? = some (.cells v2.cells.toArray 27 (0, 0)) ∧ Bs u__ ad13 S c13 LC) (by kernel_rfl) ?_ (fun hHeld => ?_)
          focus (exact ⟨HG10.out, (H13.out.below bup)⟩)
          refine tk 0 (oi := ⟨some 97, _, _, _, _, _⟩) (v := ?_) rfl (by kernel_rfl) (.inl ⟨by rfl, ?_⟩) hHeld ?_; rotate_left; focus (intro w hSw; (try dsimp only at hSw); go_simp; try with_reducible rfl)
          simp only [PT]
          refine' tk 1 (oi := ⟨some 98, _, _, _, _, _⟩) (v := _) rfl (by kernel_rfl) (yields_str elB.1 (by kernel_rfl) (by kernel_rfl) (by rfl) _ rfl rfl (fun v h => h.2)) hHeld ?_
          simp only [PT]
          refine' tk 2 (oi := ⟨some 99, _, _, _, _, _⟩) (v := _) rfl (by kernel_rfl) (yieldsIf_load_mid (by rfl) _ _ rfl _ _ rfl (v2.cells) _ (fun _ h => range_block h.1) (Try.underlying27) rfl (HBI.out)) hHeld ?_
          simp only [PT]
          refine tk 3 (oi := ⟨some 100, _, _, _, _, _⟩) (v := ?_) rfl (by kernel_rfl) (.inl ⟨by rfl, ?_⟩) hHeld ?_; rotate_left; focus (intro w hSw; (try dsimp only at hSw); go_simp; try with_reducible rfl)
          simp only [PT]
          refine wpAnyH_ready (rs := [4]) (by kernel_rfl) (by simp) ?_
          refine (AllReadyH.cons (o := ⟨some 101, _, _, _, _, _⟩) rfl (fun K hK => ?_) AllReadyH.nil)
          focus (go_simp; go_must (refine (refBytes_right LC v2 big (by rw [HV2.out]; exact HLC.out) (by rw [HV2.out]; exact HM.out) _ (HX2.out.keep bup).blk (SmB.of_size HX2.out.blk (by rw [HV2.out]; exact HM.out) (by rw [HV2.out]; exact HSZ.out)) (by rw [HV2.out]; exact HWF.out)).mono ?_); intro e wq hr; obtain ⟨ad6, c6, rfl, ho__, hb__⟩ := hr; have hE__ := cU HB bup hb__; replace HB := ck HB hE__; replace HG10 := ck HG10 hE__; replace H13 := ck H13 hE__; clear hE__; have H6 := Lib.hid (Bs.of_own ho__); clear hb__ ho__; go_wp2_with fail)
          refine hK.out _ _ ?_ (fun hHeld => ?_)
          focus (exact ⟨HG10.out, (H13.out.below bup)⟩)
          clear hK K
          try simp only [PT]
          refine wpAnyH_ready (rs := [5]) (by kernel_rfl) (by simp) ?_
          refine (AllReadyH.cons (o := ⟨some 102, _, _, _, _, _⟩) rfl (fun K hK => ?_) AllReadyH.nil)
          (go_must (refine step_str elB.1 (by kernel_rfl) (by kernel_rfl) rfl (.tmp 101) rfl rfl (H6.out.below bup) ?_))
          refine hK.out _ _ ?_ (fun hHeld => ?_)
          focus (exact ⟨HG10.out, (H13.out.below bup)⟩)
          clear hK K
          try simp only [PT]
          refine tk 6 (oi := ⟨some 103, _, _, _, _, _⟩) (v := ?_) rfl (by kernel_rfl) (.inl ⟨by rfl, ?_⟩) hHeld ?_; rotate_left; focus (intro w hSw; (try dsimp only at hSw); go_simp; try with_reducible rfl)
          simp only [PT]
          refine tk 7 (oi := ⟨some 4, _, _, _, _, _⟩) (v := ?_) rfl (by kernel_rfl) (.inl ⟨by rfl, ?_⟩) hHeld ?_; rotate_left; focus (intro w hSw; (try dsimp only at hSw); go_simp; try with_reducible rfl)
          simp only [PT]
          refine wpAnyH_done (by kernel_rfl) ?_ _
          all_goals
            go_wp2_with fail
            go_ret
            exact ⟨by simp, HB.out⟩
end Go.Proofs.Ytmfplinbbcoahaa
