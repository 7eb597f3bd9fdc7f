/-
  Joined by program (merge.py): RefPc4, RefBlk1, RB3, Awake26, PcAwake.
-/
import Derived.RegionTactic
import Derived.BigRegion
import Derived.Test.YtmfplinbbcoahaaR1
import Derived.Test.YtmfplinbbcoahaaR2
import Derived.Test.YtmfplinbbcoahaaR4
import Derived.Test.YtmfplinbbcoahaaR5
import Derived.Test.YtmfplinbbcoahaaR6
import Derived.Test.YtmfplinbbcoahaaR9
import Derived.Test.YtmfplinbbcoahaaR10
set_option linter.unusedVariables false
set_option linter.unusedSimpArgs false
set_option maxRecDepth 100000
set_option maxHeartbeats 16000000
namespace Go.Proofs.Ytmfplinbbcoahaa
open Go.RowKit Go.Sort
theorem refSameC_true (ad : Option Addr) (n c : Nat) (vs : List BlkV) (ad2 : Option Addr) (n2 c2 : Nat) (us : List BlkV) (he : bvals vs = bvals us) (w : World) (hv : Blks w ad n c vs) (hu : Blks w ad2 n2 c2 us) (hn : n ≤ 1000000000) :
    Calls Try.prog 36 #[.slice ad n c, .slice ad2 n2 c2] w fun e w' => e = .returned (.bool true) ∧ Below w.heap.size w w' := by
  have HV := Hd hv
  have HU := Hd hu
  have hln := hv.len
  have hlm := hu.len
  have hll : vs.length = us.length := by rw [← z2k, he, z2k]
  have hnn : n2 = n := by omega
  have HLN := Hd hln
  have HLM := Hd (hln.trans hll)
  have HBI := Hd z0d
  have HEQ := Hd he
  clear hv hu hln hlm hll he
  subst hnn
  go_enter Try.func36, Try.ntmps36
  go_wp2
  go_loopw [5] (fun i wr => ∃ (k : Nat), k ≤ n2 ∧ i = .int .i64 (k : Int) ∧ Hid (Below w.heap.size w wr)) (fun i _ => n2 - (intOf i).toNat)
  case atStart => exact ⟨0, by omega, rfl, Hd (Below.refl _ _)⟩
  case round =>
    obtain ⟨k, hk, rfl, HB⟩ := hrel
    by_cases hend : k = n2
    · subst hend
      go_wp2
      go_ret
      exact ⟨rfl, HB.out⟩
    · have hlt : k < n2 := by omega
      obtain ⟨x, hx⟩ : ∃ x, x = vs[k]'(by have := HLN.out; omega) := ⟨_, rfl⟩
      obtain ⟨y, hy⟩ : ∃ y, y = us[k]'(by have := HLM.out; omega) := ⟨_, rfl⟩
      have HXB := Hd (HV.out.2 x (by rw [hx]; exact List.getElem_mem _))
      have HYB := Hd (HU.out.2 y (by rw [hy]; exact List.getElem_mem _))
      have HXY : Hid (sameP x.val y.val = true) := Hd ((sameP_iff _ _).2 (by
        have h := congrArg (fun l => l[k]?) HEQ.out
        simp only [bvals, List.getElem?_map, List.getElem?_eq_getElem (show k < vs.length by have := HLN.out; omega), List.getElem?_eq_getElem (show k < us.length by have := HLM.out; omega), Option.map_some, Option.some.injEq] at h
        rw [hx, hy]
        exact h))
      obtain ⟨b, off, rfl, hbl, hat⟩ := (HV.out.below HB.out).at (by have := HLN.out; omega)
      have HR := Hd (show wr.rangeAt b (off + k * 11) x.cells by rw [hx]; exact hat k (by have := HLN.out; omega))
      obtain ⟨b2, off2, rfl, hbl2, hat2⟩ := (HU.out.below HB.out).at (by have := HLM.out; omega)
      have HR2 := Hd (show wr.rangeAt b2 (off2 + k * 11) y.cells by rw [hy]; exact hat2 k (by have := HLM.out; omega))
      clear hx hy hat hat2
      go_wp2_with fail
      refine wp_region_held_drew (S := fun u__ => u__.rangeAt b (off + k * 11) x.cells ∧ u__.rangeAt b2 (off2 + k * 11) y.cells) (by kernel_rfl) ?_ (fun hHeld => ?_); (focus (exact ⟨z3n HR.out bup, z3n HR2.out bup⟩)); (refine tk 0 (oi := ⟨some 17, _, _, _, _, _⟩) (v := ?_) rfl (by kernel_rfl) (.inl ⟨by rfl, ?_⟩) hHeld ?_; rotate_left; focus (intro w hSw; (try dsimp only at hSw); go_simp; try with_reducible rfl)); simp only [PT]; (refine tk 1 (oi := ⟨some 18, _, _, _, _, _⟩) (v := ?_) rfl (by kernel_rfl) (.inl ⟨by rfl, ?_⟩) hHeld ?_; rotate_left; focus (intro w hSw; (try dsimp only at hSw); go_simp; try with_reducible rfl)); simp only [PT]; (refine tk 2 (oi := ⟨some 19, _, _, _, _, _⟩) (v := ?_) rfl (by kernel_rfl) (.inl ⟨by rfl, ?_⟩) hHeld ?_; rotate_left; focus (intro w hSw; (try dsimp only at hSw); go_simp; try with_reducible rfl)); simp only [PT]; refine' tk 3 (oi := ⟨some 20, _, _, _, _, _⟩) (v := _) rfl (by kernel_rfl) (yieldsIf_load_mid (by rfl) _ _ rfl _ _ rfl (x.cells) _ (fun _ h => h.1) (Try.underlying27) rfl (HBI.out)) hHeld ?_; simp only [PT]; (refine tk 4 (oi := ⟨some 21, _, _, _, _, _⟩) (v := ?_) rfl (by kernel_rfl) (.inl ⟨by rfl, ?_⟩) hHeld ?_; rotate_left; focus (intro w hSw; (try dsimp only at hSw); go_simp; try with_reducible rfl)); simp only [PT]; (refine tk 5 (oi := ⟨some 22, _, _, _, _, _⟩) (v := ?_) rfl (by kernel_rfl) (.inl ⟨by rfl, ?_⟩) hHeld ?_; rotate_left; focus (intro w hSw; (try dsimp only at hSw); go_simp; try with_reducible rfl)); simp only [PT]; (refine tk 6 (oi := ⟨some 23, _, _, _, _, _⟩) (v := ?_) rfl (by kernel_rfl) (.inl ⟨by rfl, ?_⟩) hHeld ?_; rotate_left; focus (intro w hSw; (try dsimp only at hSw); go_simp; try with_reducible rfl)); simp only [PT]; refine' tk 7 (oi := ⟨some 24, _, _, _, _, _⟩) (v := _) rfl (by kernel_rfl) (yieldsIf_load_mid (by rfl) _ _ rfl _ _ rfl (y.cells) _ (fun _ h => h.2) (Try.underlying27) rfl (HBI.out)) hHeld ?_; simp only [PT]; refine wpAnyH_ready (rs := [8]) (by kernel_rfl) (by simp) ?_; refine (AllReadyH.cons (o := ⟨some 25, _, _, _, _, _⟩) rfl (fun K hK => ?_) AllReadyH.nil); (go_simp; (refine (refBSame_at true x y HXY.out _ (HXB.out.below (HB.out.trans (Below.mono bup HB.out.size))) (HYB.out.below (HB.out.trans (Below.mono bup HB.out.size)))).mono ?_); intro e w6 hr; obtain ⟨rfl, hb__⟩ := hr; have hE__ := cU HB bup hb__; replace HB := ck HB hE__; replace HR := ck HR hE__; replace HR2 := ck HR2 hE__; clear hE__; clear hb__); refine hK.out _ _ ?_ (fun hHeld => ?_); (focus (exact ⟨z3n HR.out bup, z3n HR2.out bup⟩)); clear hK K; (try simp only [PT]); (refine tk 9 (oi := ⟨some 26, _, _, _, _, _⟩) (v := ?_) rfl (by kernel_rfl) (.inl ⟨by rfl, ?_⟩) hHeld ?_; rotate_left; focus (intro w hSw; (try dsimp only at hSw); go_simp; try with_reducible rfl)); simp only [PT]; refine wpAnyH_done (by kernel_rfl) ?_ _
      all_goals
        go_wp2_with fail
        go_roundw
        case rel => exact ⟨k + 1, by omega, by go_num, HB⟩
        case measure => first | (simp [intOf]; done) | (simp [intOf]; omega)
def Frs (w : World) (ad : Option Addr) (n c : Nat) (fs : List FrV) : Prop := Sl w ad n c 5 (fcells fs) ∧ ∀ v ∈ fs, Bs w v.ad v.n v.c v.l
theorem fcells_length (vs : List FrV) : (fcells vs).length = vs.length * 5 := by
  induction vs with
  | nil => rfl
  | cons v vs ih =>
    have e : fcells (v :: vs) = v.cells ++ fcells vs := rfl
    rw [e, List.length_append, ih, List.length_cons]
    show 5 + _ = _
    omega
theorem fcells_get : ∀ (vs : List FrV) (i j : Nat) (hi : i < vs.length) (hj : j < 5), (fcells vs)[i * 5 + j]? = vs[i].cells[j]?
  | v :: vs, 0, j, _, hj => by
    have e : fcells (v :: vs) = v.cells ++ fcells vs := rfl
    rw [e, Nat.zero_mul, Nat.zero_add, List.getElem?_append_left (by show j < 5; exact hj)]
    rfl
  | v :: vs, i + 1, j, hi, hj => by
    have e : fcells (v :: vs) = v.cells ++ fcells vs := rfl
    have hl : v.cells.length = 5 := rfl
    rw [e, List.getElem?_append_right (by rw [hl]; omega), hl, show (i + 1) * 5 + j - 5 = i * 5 + j by omega]
    exact fcells_get vs i j (by simpa using hi) hj
theorem Frs.len {w : World} {ad : Option Addr} {n c : Nat} {vs : List FrV} (h : Frs w ad n c vs) : n = vs.length := by have := h.1.len; rw [fcells_length] at this; omega
theorem Frs.below {w w' : World} {ad : Option Addr} {n c : Nat} {vs : List FrV} (h : Frs w ad n c vs) (hb : Below w.heap.size w w') : Frs w' ad n c vs := ⟨h.1.below hb, fun v hv => (h.2 v hv).below hb⟩
instance {w w' : World} {ad : Option Addr} {n c : Nat} {vs : List FrV} : Ck (Frs w ad n c vs) w' w (Frs w' ad n c vs) := ⟨fun h hE => h.below hE⟩
theorem Frs.at {w : World} {ad : Option Addr} {n c : Nat} {vs : List FrV} (h : Frs w ad n c vs) (h0 : 0 < vs.length) :
    ∃ b off, ad = some ⟨b, off, none⟩ ∧ b < w.heap.size ∧ ∀ i (hi : i < vs.length), w.rangeAt b (off + i * 5) vs[i].cells := by
  obtain ⟨b, off, ha, hb, hc⟩ := Sl.at h.1 (j := 0) (by rw [fcells_length]; omega)
  refine ⟨b, off, ha, hb, fun i hi j u hj => ?_⟩
  have hj5 : j < 5 := by have := (List.getElem?_eq_some_iff.1 hj).1; exact this
  have hg := fcells_get vs i j hi hj5
  rw [hj] at hg
  obtain ⟨hl, he⟩ := List.getElem?_eq_some_iff.1 hg
  have := hc (i * 5 + j) hl
  rw [he] at this
  rw [Nat.add_assoc]
  exact this
theorem four_any (base : Nat) (ad : Option Addr) (c : Nat) (l : List UInt8) (N : Nat) (big : Bool) (w : World) (hN : N ≤ 18446744073709551615) (hl : l.length ≤ 4000000) (ho : w.ownsRow base 5 1 (.slice ad l.length c) l.length (BV l)) (hb : base ≤ w.heap.size) :
    Calls Try.prog 52 #[.slice ad l.length c, .int .u64 N, .bool big] w fun e w' => (∃ ad' c', e = .returned (.slice ad' (l ++ putL N 4 big).length c') ∧ w'.ownsRow base 5 1 (.slice ad' (l ++ putL N 4 big).length c') (l ++ putL N 4 big).length (BV (l ++ putL N 4 big))) ∧ Below base w w' := by
  have HO := Hd ho
  obtain ⟨P, hP⟩ : ∃ P, P = putL N 4 big := ⟨_, rfl⟩
  rw [← hP]
  have hPl : P.length ≤ 4 := by rw [hP, z06]; omega
  have HP := Hd hP
  clear ho hP
  go_enter Try.func52, Try.ntmps52
  go_wp2_with (first
 | (go_at_call 53; (refine (refPut_any N 4 big _ (by omega)).mono ?_); intro e w3 hr; rw [← HP.out] at hr; unfold RetB at hr; obtain ⟨ad3, c3, rfl, ho3, hb3⟩ := hr; (have H3 := Hd (Bs.of_own ho3)); have HB3 := Hd hb3; (have HO3 := Hd (z08 HO.out hb3)); clear ho3 hb3)
 | ((with_reducible refine sl 11 ?_); (refine z0k elB rfl (.tmp 7) (.tmp 10) rfl base rfl HO3.out rfl H3.out (z11 _) (by unfold maxLen; omega) (by omega) (Nat.le_trans hb HB3.out.size) ?_); intro ad4 c4 w4 hown hgr _ _; have HB4 := Hd ((HB3.out.mono hb).grown hgr (Nat.le_trans hb HB3.out.size) (z07 HO3.out)); rw [← z0i] at hown; have HO4 := Hd hown; clear hown hgr; simp only [PT]))
  go_ret
  refine ⟨⟨ad4, c4, ?_, ?_⟩, HB4.out⟩
  · rw [List.length_append]
    rfl
  · rw [List.length_append]
    exact HO4.out
theorem z3d (base : Nat) (ad : Option Addr) (n c : Nat) (l : List UInt8) (z : Int) (N : Nat) (hz : z = (N : Int)) (big : Bool) (w : World) (hN : N ≤ 18446744073709551615) (hl : l.length ≤ 4000000) (hn : n = l.length) (ho : w.ownsRow base 5 1 (.slice ad l.length c) l.length (BV l)) (hb : base ≤ w.heap.size) :
    Calls Try.prog 52 #[.slice ad n c, .int .u64 z, .bool big] w fun e w' => (∃ ad' c', e = .returned (.slice ad' (l ++ putL N 4 big).length c') ∧ w'.ownsRow base 5 1 (.slice ad' (l ++ putL N 4 big).length c') (l ++ putL N 4 big).length (BV (l ++ putL N 4 big))) ∧ Below base w w' := by
  subst hz
  subst hn
  exact four_any base ad c l N big w hN hl ho hb
theorem refTime_any (base : Nat) (ad : Option Addr) (c : Nat) (l : List UInt8) (N : Nat) (big : Bool) (w : World) (hN : N ≤ 18446744073709551615) (hl : l.length ≤ 3000000) (ho : w.ownsRow base 5 1 (.slice ad l.length c) l.length (BV l)) (hb : base ≤ w.heap.size) :
    Calls Try.prog 54 #[.slice ad l.length c, .int .u64 N, .bool big] w fun e w' => (∃ ad' c', e = .returned (.slice ad' (l ++ timeB big N).length c') ∧ w'.ownsRow base 5 1 (.slice ad' (l ++ timeB big N).length c') (l ++ timeB big N).length (BV (l ++ timeB big N))) ∧ Below base w w' := by
  have HO := Hd ho
  obtain ⟨L1, hL1⟩ : ∃ L, L = l ++ putL (N / 4294967296) 4 big := ⟨_, rfl⟩
  have hn1 : L1.length ≤ l.length + 4 := by rw [hL1, List.length_append, z06]; exact Nat.le_refl _
  have HL1 := Hd hL1
  have HE : Hid (l ++ timeB big N = L1 ++ putL (N % 4294967296) 4 big) := Hd (by rw [hL1]; unfold timeB; rw [List.append_assoc])
  clear ho hL1
  go_enter Try.func54, Try.ntmps54
  go_wp2_with (first
 | (go_at_call 52; (with_reducible show Calls _ _ #[Value.slice ad l.length c, _, _] _ _); (refine (z3d base ad l.length c l _ (N / 4294967296) (by simp <;> omega) big _ (by omega) (by omega) rfl HO.out hb).mono ?_); intro e w3 hr; rw [← HL1.out] at hr; obtain ⟨⟨ad3, c3, rfl, ho3⟩, hb3⟩ := hr; have HO3 := Hd ho3; have HB3 := Hd hb3; have HD := Hd (Nat.le_trans hb hb3.size); clear ho3 hb3 HO)
 | (go_at_call 52; (refine (z3d base ad3 L1.length c3 L1 _ (N % 4294967296) (by simp <;> omega) big _ (by omega) (by omega) rfl HO3.out HD.out).mono ?_); intro e w4 hr; rw [← HE.out] at hr; obtain ⟨⟨ad4, c4, rfl, ho4⟩, hb4⟩ := hr; have HO4 := Hd ho4; have HB4 := Hd (HB3.out.trans (hb4.mono (Nat.le_refl _))); clear ho4 hb4))
  go_ret
  exact ⟨⟨ad4, c4, by rw [List.length_append]; rfl, HO4.out⟩, HB4.out⟩
theorem refBytes3 (v : BlkV) (big : Bool) (w : World) (hv : Blk w v) (hk : v.kind = 3) (hf : SmB v) (hm : mayP v.val = true) (hw : wfB v.val) :
    Calls Try.prog 25 #[.agg v.cells.toArray, .bool big] w (RetB 5 (bytesB big v.val) w) := by
  obtain ⟨z1, z2, z3⟩ := hf.sizes
  obtain ⟨_, hfit, hlink, hifc, hwo, hwn, hlast⟩ := (z1c v.val).1 hm
  obtain ⟨hw1, hw2, hw3, hw4'⟩ := hw
  change 0 ≤ v.link ∧ v.link ≤ 65535 at hlink
  change 0 ≤ v.iface ∧ v.iface ≤ 4294967295 at hifc
  have hoo : ∀ o ∈ vals v.os, okO o := z2q.1 hwo
  have hon : ∀ o ∈ vals v.ns, okO o := z2q.1 hwn
  change v.type < 4294967296 at hw1
  change v.snap < 4294967296 at hw2
  change v.time < 18446744073709551616 at hw3
  change v.len < 4294967296 at hw4'
  have HB := Hd (Below.refl w.heap.size w)
  have HV := Hd hv
  have hdn := hv.1.len
  have HDN := Hd hdn
  have hdl : v.dl.length ≤ 1100000 := by omega
  have HGG : Hid (ordB big v.val = big) := Hd (by show (if v.kind = 1 then v.big else big) = _; rw [if_neg (by omega)])
  have HTY : Hid (typeB v.val = 6) := Hd (by show (if v.kind = 7 then v.type else typeP v.kind) = _; rw [if_neg (by omega), hk]; rfl)
  have ew : IntKind.u64.wrap (v.type : Int) = (v.type : Int) := by rw [IntKind.wrap_u64]; omega
  have HKK := Hd hk
  clear hv hf hm hfit hwo hwn hlast hdn
  obtain ⟨fi, hfi⟩ : ∃ n, n = v.iface.toNat := ⟨_, rfl⟩
  have hfi2 : IntKind.u64.wrap v.iface = (fi : Int) := by rw [IntKind.wrap_u64]; omega
  have hfi3 : fi ≤ 4294967295 := by omega
  have HFI := Hd hfi
  clear hfi
  have edl : IntKind.u64.wrap (v.dn : Int) = (v.dn : Int) := by rw [IntKind.wrap_u64]; omega
  have ele : IntKind.u64.wrap (v.len : Int) = (v.len : Int) := by rw [IntKind.wrap_u64]; omega
  obtain ⟨L1, hL1⟩ : ∃ L : List UInt8, L = [] ++ putL fi 4 big := ⟨_, rfl⟩
  have lL1 : L1.length ≤ 4 := by rw [hL1]; simp [z06]
  have HL1 := Hd hL1
  clear hL1
  obtain ⟨L2, hL2⟩ : ∃ L : List UInt8, L = L1 ++ timeB big v.time := ⟨_, rfl⟩
  have lL2 : L2.length ≤ 12 := by rw [hL2]; rw [List.length_append]; unfold timeB; simp only [List.length_append, z06]; omega
  have HL2 := Hd hL2
  clear hL2
  obtain ⟨L3, hL3⟩ : ∃ L : List UInt8, L = L2 ++ putL v.dn 4 big := ⟨_, rfl⟩
  have lL3 : L3.length ≤ 16 := by rw [hL3]; rw [List.length_append, z06]; omega
  have HL3 := Hd hL3
  clear hL3
  obtain ⟨L4, hL4⟩ : ∃ L : List UInt8, L = L3 ++ putL v.len 4 big := ⟨_, rfl⟩
  have lL4 : L4.length ≤ 20 := by rw [hL4]; rw [List.length_append, z06]; omega
  have HL4 := Hd hL4
  clear hL4
  obtain ⟨PD, hPD⟩ : ∃ L : List UInt8, L = padL v.dl := ⟨_, rfl⟩
  have lPD : PD.length ≤ 1100003 := by rw [hPD]; rw [z0w]; unfold padN; omega
  have HPD := Hd hPD
  clear hPD
  obtain ⟨L5, hL5⟩ : ∃ L : List UInt8, L = L4 ++ PD := ⟨_, rfl⟩
  have lL5 : L5.length ≤ 1100030 := by rw [hL5]; rw [List.length_append]; omega
  have HL5 := Hd hL5
  clear hL5
  have HFB : Hid (L5 = fieldsB big v.val) := Hd (by rw [HL5.out, HL4.out, HL3.out, HL2.out, HL1.out, HFI.out, HPD.out, HDN.out]; unfold fieldsB; simp [show v.val.kind = 3 from HKK.out]; rfl)
  obtain ⟨PO, hPO⟩ : ∃ L : List UInt8, L = putAll big (vals v.os) := ⟨_, rfl⟩
  have lPO : PO.length ≤ 70424 := by rw [hPO]; rw [z0q]; split <;> omega
  have HPO := Hd hPO
  clear hPO
  obtain ⟨BD, hBD⟩ : ∃ L : List UInt8, L = L5 ++ PO := ⟨_, rfl⟩
  have HFL : Hid (BD = bodyB big v.val) := Hd (by rw [hBD]; unfold bodyB; rw [HFB.out, HPO.out]; rfl)
  have lBD : BD.length ≤ 1300000 := by rw [hBD, List.length_append]; first | omega | (simp; omega)
  have HBD := Hd hBD
  clear hBD
  obtain ⟨N, hN⟩ : ∃ N, N = BD.length + 12 := ⟨_, rfl⟩
  have hNi : (BD.length : Int) + 12 = (N : Int) := by omega
  have hNw : IntKind.i64.wrap ((BD.length : Int) + 12) = (N : Int) := by rw [IntKind.wrap_i64]; omega
  have hNu : IntKind.u64.wrap (N : Int) = (N : Int) := by rw [IntKind.wrap_u64]; omega
  have hNv : IntKind.i64.wrap (N : Int) = (N : Int) := by rw [IntKind.wrap_i64]; omega
  have hNb : N ≤ 1400000 := by omega
  have HSZ : Hid (sizeB v.val = N) := Hd (by rw [hN, HFL.out]; unfold sizeB; rw [z32 big]; omega)
  clear hN
  obtain ⟨O1, hO1⟩ : ∃ L : List UInt8, L = [] ++ putL 6 4 big := ⟨_, rfl⟩
  have lO1 : O1.length ≤ 4 := by rw [hO1]; rw [List.length_append, z06]; simp
  have HO1 := Hd hO1
  clear hO1
  obtain ⟨O2, hO2⟩ : ∃ L : List UInt8, L = O1 ++ putL N 4 big := ⟨_, rfl⟩
  have lO2 : O2.length ≤ 8 := by rw [hO2]; rw [List.length_append, z06]; omega
  have HO2 := Hd hO2
  clear hO2
  obtain ⟨O3, hO3⟩ : ∃ L : List UInt8, L = O2 ++ BD := ⟨_, rfl⟩
  have lO3 : O3.length ≤ 1300010 := by rw [hO3]; rw [List.length_append]; omega
  have HO3 := Hd hO3
  clear hO3
  obtain ⟨O4, hO4⟩ : ∃ L : List UInt8, L = O3 ++ putL N 4 big := ⟨_, rfl⟩
  have lO4 : O4.length ≤ 1300020 := by rw [hO4]; rw [List.length_append, z06]; omega
  have HO4 := Hd hO4
  clear hO4
  have HFIN : Hid (bytesB big v.val = O4) := Hd (by
    unfold bytesB
    rw [HGG.out, HTY.out, HSZ.out, ← HFL.out, HO4.out, HO3.out, HO2.out, HO1.out]
    simp only [List.append_assoc, List.nil_append])
  go_enter Try.func25, Try.ntmps25
  go_wp2_with (first
 | ((with_reducible refine sl 2 ?_); (refine z0a rfl 27 (.tmp 0) rfl v.cells.toArray rfl ?_); intro w1 g2 he__ le_g2 lt_g2 hg__ hb__; have HG2 := Hd hg__; have hE__ := cU HB bup hb__; replace HB := ck HB hE__; clear hE__; clear hg__ hb__ he__; have HE := Hd (Below.refl w1.heap.size w1); have HO := Hd (World.ownsRow_nil w1 w1.heap.size 5 1); rw [← show BV [] = [] from rfl] at HO; simp only [PT])
 | ((with_reducible refine sl 10 ?_); (refine z01 rfl 22 (.tmp 9) rfl g2 2 rfl (.int .u32 (v.type : Int)) (by exact ((HE.out.block _ (lt_of_block HG2.out)).trans HG2.out)) rfl Try.underlying22 rfl ?_); simp only [PT])
 | ((with_reducible refine sl 13 ?_); (refine z01 rfl 3 (.tmp 12) rfl g2 0 rfl (.int .i64 v.kind) (by exact ((HE.out.block _ (lt_of_block HG2.out)).trans HG2.out)) rfl Try.underlying3 rfl ?_); simp only [PT]))
  refine wp_region_held_drew (S := fun u => u.heap[g2]? = some (.cells v.cells.toArray 27 (0, 0))) (by kernel_rfl) ?_ (fun hHeld => ?_); (focus (exact ((HE.out.block _ (lt_of_block HG2.out)).trans HG2.out))); (refine tk 0 (oi := ⟨some 48, _, _, _, _, _⟩) (v := ?_) rfl (by kernel_rfl) (.inl ⟨by rfl, ?_⟩) hHeld ?_; rotate_left; focus (intro w hSw; (try dsimp only at hSw); go_simp; try with_reducible rfl)); simp only [PT]; (refine tk 1 (oi := ⟨some 49, _, _, _, _, _⟩) (v := ?_) rfl (by kernel_rfl) (.inl ⟨by rfl, ?_⟩) hHeld ?_; rotate_left; focus (intro w hSw; (try dsimp only at hSw); go_simp; try with_reducible rfl)); simp only [PT]; refine' tk 2 (oi := ⟨some 50, _, _, _, _, _⟩) (v := _) rfl (by kernel_rfl) (z0g rfl 3 (.tmp 49) rfl g2 5 rfl (.int .i64 v.iface) (fun u hu => hu) rfl Try.underlying3 rfl) hHeld ?_; simp only [PT]; (refine' tk 3 (oi := ⟨some 51, _, _, _, _, _⟩) (v := (.int .u64 (fi : Int))) rfl (by kernel_rfl) (.inl ⟨by rfl, ?_⟩) hHeld ?_; focus (intro w hSw; (try dsimp only at hSw); go_simp; first | done | rfl | (simp [*]; done) | (simp [*]; omega))); simp only [PT]; (refine tk 4 (oi := ⟨some 52, _, _, _, _, _⟩) (v := ?_) rfl (by kernel_rfl) (.inl ⟨by rfl, ?_⟩) hHeld ?_; rotate_left; focus (intro w hSw; (try dsimp only at hSw); go_simp; try with_reducible rfl)); simp only [PT]; (refine tk 6 (oi := ⟨some 54, _, _, _, _, _⟩) (v := ?_) rfl (by kernel_rfl) (.inl ⟨by rfl, ?_⟩) hHeld ?_; rotate_left; focus (intro w hSw; (try dsimp only at hSw); go_simp; try with_reducible rfl)); simp only [PT]; refine' tk 7 (oi := ⟨some 55, _, _, _, _, _⟩) (v := _) rfl (by kernel_rfl) (z0g rfl 23 (.tmp 54) rfl g2 6 rfl (.int .u64 (v.time : Int)) (fun u hu => hu) rfl Try.underlying23 rfl) hHeld ?_; simp only [PT]; (refine tk 8 (oi := ⟨some 56, _, _, _, _, _⟩) (v := ?_) rfl (by kernel_rfl) (.inl ⟨by rfl, ?_⟩) hHeld ?_; rotate_left; focus (intro w hSw; (try dsimp only at hSw); go_simp; try with_reducible rfl)); simp only [PT]; refine wpAnyH_ready (rs := [5]) (by kernel_rfl) (by simp) ?_; refine (AllReadyH.cons (o := ⟨some 53, _, _, _, _, _⟩) rfl (fun K hK => ?_) AllReadyH.nil); (focus (go_simp; (refine (z3d w1.heap.size none ([] : List UInt8).length 0 ([] : List UInt8) _ fi (by first | rfl | omega) big _ (by omega) (by first | omega | exact Nat.zero_le _) rfl (z08 HO.out bup) (Nat.le_trans HE.out.size (bsz bup))).mono ?_); intro e w2 hr; rw [← HL1.out] at hr; obtain ⟨⟨ad1, c1, rfl, ho__⟩, hb__⟩ := hr; replace HE := cEb HE bup hb__; clear HO; have HO := Hd ho__; clear ho__ hb__; go_wp2_with fail)); refine hK.out _ _ ?_ (fun hHeld => ?_); (focus (exact ((HE.out.block _ (lt_of_block HG2.out)).trans HG2.out))); clear hK K; (try simp only [PT]); refine wpAnyH_ready (rs := [9]) (by kernel_rfl) (by simp) ?_; refine (AllReadyH.cons (o := ⟨some 57, _, _, _, _, _⟩) rfl (fun K hK => ?_) AllReadyH.nil); (focus (go_simp; (refine (refTime_any w1.heap.size ad1 c1 L1 v.time big _ (by omega) (by omega) (z08 HO.out bup) (Nat.le_trans HE.out.size (bsz bup))).mono ?_); intro e w3 hr; rw [← HL2.out] at hr; obtain ⟨⟨ad2, c2, rfl, ho__⟩, hb__⟩ := hr; replace HE := cEb HE bup hb__; clear HO; have HO := Hd ho__; clear ho__ hb__; go_wp2_with fail)); refine hK.out _ _ ?_ (fun hHeld => ?_); (focus (exact ((HE.out.block _ (lt_of_block HG2.out)).trans HG2.out))); clear hK K; (try simp only [PT]); (refine tk 10 (oi := ⟨some 6, _, _, _, _, _⟩) (v := ?_) rfl (by kernel_rfl) (.inl ⟨by rfl, ?_⟩) hHeld ?_; rotate_left; focus (intro w hSw; (try dsimp only at hSw); go_simp; try with_reducible rfl)); simp only [PT]; refine wpAnyH_done (by kernel_rfl) ?_ _
  go_wp2_with fail
  refine wp_region_held_drew (S := fun u => u.heap[g2]? = some (.cells v.cells.toArray 27 (0, 0))) (by kernel_rfl) ?_ (fun hHeld => ?_); (focus (exact ((HE.out.block _ (lt_of_block HG2.out)).trans HG2.out))); (refine tk 0 (oi := ⟨some 58, _, _, _, _, _⟩) (v := ?_) rfl (by kernel_rfl) (.inl ⟨by rfl, ?_⟩) hHeld ?_; rotate_left; focus (intro w hSw; (try dsimp only at hSw); go_simp; try with_reducible rfl)); simp only [PT]; (refine tk 1 (oi := ⟨some 59, _, _, _, _, _⟩) (v := ?_) rfl (by kernel_rfl) (.inl ⟨by rfl, ?_⟩) hHeld ?_; rotate_left; focus (intro w hSw; (try dsimp only at hSw); go_simp; try with_reducible rfl)); simp only [PT]; refine' tk 2 (oi := ⟨some 60, _, _, _, _, _⟩) (v := _) rfl (by kernel_rfl) (z0g rfl 24 (.tmp 59) rfl g2 8 rfl (.slice v.dad v.dn v.dc) (fun u hu => hu) rfl Try.underlying24 rfl) hHeld ?_; simp only [PT]; (refine' tk 3 (oi := ⟨some 61, _, _, _, _, _⟩) (v := (.int .i64 (v.dn : Int))) rfl (by kernel_rfl) (.inl ⟨by rfl, ?_⟩) hHeld ?_; focus (intro w hSw; (try dsimp only at hSw); go_simp; first | done | rfl | (simp [*]; done) | (simp [*]; omega))); simp only [PT]; (refine' tk 4 (oi := ⟨some 62, _, _, _, _, _⟩) (v := (.int .u64 (v.dn : Int))) rfl (by kernel_rfl) (.inl ⟨by rfl, ?_⟩) hHeld ?_; focus (intro w hSw; (try dsimp only at hSw); go_simp; first | done | rfl | (simp [*]; done) | (simp [*]; omega))); simp only [PT]; (refine tk 5 (oi := ⟨some 63, _, _, _, _, _⟩) (v := ?_) rfl (by kernel_rfl) (.inl ⟨by rfl, ?_⟩) hHeld ?_; rotate_left; focus (intro w hSw; (try dsimp only at hSw); go_simp; try with_reducible rfl)); simp only [PT]; (refine tk 7 (oi := ⟨some 65, _, _, _, _, _⟩) (v := ?_) rfl (by kernel_rfl) (.inl ⟨by rfl, ?_⟩) hHeld ?_; rotate_left; focus (intro w hSw; (try dsimp only at hSw); go_simp; try with_reducible rfl)); simp only [PT]; refine' tk 8 (oi := ⟨some 66, _, _, _, _, _⟩) (v := _) rfl (by kernel_rfl) (z0g rfl 22 (.tmp 65) rfl g2 7 rfl (.int .u32 (v.len : Int)) (fun u hu => hu) rfl Try.underlying22 rfl) hHeld ?_; simp only [PT]; (refine' tk 9 (oi := ⟨some 67, _, _, _, _, _⟩) (v := (.int .u64 (v.len : Int))) rfl (by kernel_rfl) (.inl ⟨by rfl, ?_⟩) hHeld ?_; focus (intro w hSw; (try dsimp only at hSw); go_simp; first | done | rfl | (simp [*]; done) | (simp [*]; omega))); simp only [PT]; (refine tk 10 (oi := ⟨some 68, _, _, _, _, _⟩) (v := ?_) rfl (by kernel_rfl) (.inl ⟨by rfl, ?_⟩) hHeld ?_; rotate_left; focus (intro w hSw; (try dsimp only at hSw); go_simp; try with_reducible rfl)); simp only [PT]; refine wpAnyH_ready (rs := [6]) (by kernel_rfl) (by simp) ?_; refine (AllReadyH.cons (o := ⟨some 64, _, _, _, _, _⟩) rfl (fun K hK => ?_) AllReadyH.nil); (focus (go_simp; (refine (z3d w1.heap.size ad2 L2.length c2 L2 _ v.dn (by first | rfl | omega) big _ (by omega) (by first | omega | exact Nat.zero_le _) rfl (z08 HO.out bup) (Nat.le_trans HE.out.size (bsz bup))).mono ?_); intro e w4 hr; rw [← HL3.out] at hr; obtain ⟨⟨ad3, c3, rfl, ho__⟩, hb__⟩ := hr; replace HE := cEb HE bup hb__; clear HO; have HO := Hd ho__; clear ho__ hb__; go_wp2_with fail)); refine hK.out _ _ ?_ (fun hHeld => ?_); (focus (exact ((HE.out.block _ (lt_of_block HG2.out)).trans HG2.out))); clear hK K; (try simp only [PT]); refine wpAnyH_ready (rs := [11]) (by kernel_rfl) (by simp) ?_; refine (AllReadyH.cons (o := ⟨some 69, _, _, _, _, _⟩) rfl (fun K hK => ?_) AllReadyH.nil); (focus (go_simp; (refine (z3d w1.heap.size ad3 L3.length c3 L3 _ v.len (by first | rfl | omega) big _ (by omega) (by first | omega | exact Nat.zero_le _) rfl (z08 HO.out bup) (Nat.le_trans HE.out.size (bsz bup))).mono ?_); intro e w5 hr; rw [← HL4.out] at hr; obtain ⟨⟨ad4, c4, rfl, ho__⟩, hb__⟩ := hr; replace HE := cEb HE bup hb__; clear HO; have HO := Hd ho__; clear ho__ hb__; go_wp2_with fail)); refine hK.out _ _ ?_ (fun hHeld => ?_); (focus (exact ((HE.out.block _ (lt_of_block HG2.out)).trans HG2.out))); clear hK K; (try simp only [PT])
  (refine tk 12 (oi := ⟨some 6, _, _, _, _, _⟩) (v := ?_) rfl (by kernel_rfl) (.inl ⟨by rfl, ?_⟩) hHeld ?_; rotate_left; focus (intro w hSw; (try dsimp only at hSw); go_simp; try with_reducible rfl)); simp only [PT]; refine wpAnyH_done (by kernel_rfl) ?_ _
  go_wp2_with (first
 | ((with_reducible refine sl 72 ?_); (refine z01 rfl 24 (.tmp 71) rfl g2 8 rfl (.slice v.dad v.dn v.dc) (by exact ((HE.out.block _ (lt_of_block HG2.out)).trans HG2.out)) rfl Try.underlying24 rfl ?_); simp only [PT])
 | (go_at_call 55; (refine (refPadded_any v.dad v.dn v.dc v.dl _ (HV.out.1.below ((HB.out.trans (HE.out.mono HB.out.size)).trans (Below.mono bup (Nat.le_trans HB.out.size HE.out.size)))) (by omega)).mono ?_); intro e w6 hr; rw [← HPD.out] at hr; unfold RetB at hr; obtain ⟨adq, cq, rfl, ho__, hb__⟩ := hr; have BPD := Hd (Bs.of_own ho__); replace HO := cOa HO bup hb__; replace HE := cE0 HE bup hb__; clear hb__ ho__)
 | ((with_reducible refine sl 74 ?_); (refine wpL_appL elB rfl (.tmp 70) (.tmp 73) rfl w1.heap.size rfl (z08 HO.out bup) rfl (BPD.out.below bup) L5 HL5.out.symm (by omega) (Nat.le_trans HE.out.size (bsz bup)) ?_); intro ad5 c5 w7 ho__ hb__; replace HE := cEb HE bup hb__; clear HO; have HO := Hd ho__; clear ho__ hb__; simp only [PT])
 | ((with_reducible refine sl 119 ?_); (refine z01 rfl 25 (.tmp 118) rfl g2 10 rfl (.slice v.oad v.on v.oc) (by exact ((HE.out.block _ (lt_of_block HG2.out)).trans HG2.out)) rfl Try.underlying25 rfl ?_); simp only [PT])
 | (go_at_call 56; (with_reducible show Calls _ _ #[Value.slice v.oad _ _, _] _ _); (refine (refOptPut_any v.oad v.on v.oc v.os big _ (HV.out.2.2.below ((HB.out.trans (HE.out.mono HB.out.size)).trans (Below.mono bup (Nat.le_trans HB.out.size HE.out.size)))) (by omega) hoo).mono ?_); intro e wp hr; rw [← HPO.out] at hr; unfold RetB at hr; obtain ⟨adp, cp, rfl, ho__, hb__⟩ := hr; have BPO := Hd (Bs.of_own ho__); replace HO := cOa HO bup hb__; replace HE := cE0 HE bup hb__; clear hb__ ho__)
 | ((with_reducible refine sl 122 ?_); (refine wpL_appL elB rfl (.tmp 117) (.tmp 121) rfl w1.heap.size rfl (z08 HO.out bup) rfl (BPO.out.below bup) BD HBD.out.symm (by omega) (Nat.le_trans HE.out.size (bsz bup)) ?_); intro adb cb wb ho__ hb__; replace HE := cEb HE bup hb__; clear HO; have HO := Hd ho__; clear ho__ hb__; have HS := Hd (Bs.of_own HO.out); have HF := Hd (Below.refl wb.heap.size wb); have HP := Hd (World.ownsRow_nil wb wb.heap.size 5 1); rw [← show BV [] = [] from rfl] at HP; simp only [PT])
 | (go_at_call 52; (with_reducible show Calls _ _ #[Value.slice none _ _, _, _] _ _); (refine (z3d wb.heap.size none ([] : List UInt8).length 0 ([] : List UInt8) _ 6 (by first | rfl | omega) big _ (by omega) (by first | omega | exact Nat.zero_le _) rfl (z08 HP.out bup) (Nat.le_trans HF.out.size (bsz bup))).mono ?_); intro e wx hr; rw [← HO1.out] at hr; obtain ⟨⟨adx, cx, rfl, ho__⟩, hb__⟩ := hr; replace HF := cEb HF bup hb__; clear HP; have HP := Hd ho__; clear ho__ hb__)
 | (go_at_call 52; (with_reducible show Calls _ _ #[Value.slice adx _ _, _, _] _ _); (refine (z3d wb.heap.size adx O1.length cx O1 _ N (by first | rfl | omega) big _ (by omega) (by first | omega | exact Nat.zero_le _) rfl (z08 HP.out bup) (Nat.le_trans HF.out.size (bsz bup))).mono ?_); intro e wy hr; rw [← HO2.out] at hr; obtain ⟨⟨ady, cy, rfl, ho__⟩, hb__⟩ := hr; replace HF := cEb HF bup hb__; clear HP; have HP := Hd ho__; clear ho__ hb__)
 | ((with_reducible refine sl 135 ?_); (refine wpL_appL elB rfl (.tmp 133) (.tmp 134) rfl wb.heap.size rfl (z08 HP.out bup) rfl (HS.out.below (HF.out.trans (Below.mono bup HF.out.size))) O3 HO3.out.symm (by omega) (Nat.le_trans HF.out.size (bsz bup)) ?_); intro adw cw ww ho__ hb__; replace HF := cEb HF bup hb__; clear HP; have HP := Hd ho__; clear ho__ hb__; simp only [PT])
 | (go_at_call 52; (with_reducible show Calls _ _ #[Value.slice adw _ _, _, _] _ _); (refine (z3d wb.heap.size adw O3.length cw O3 _ N (by first | rfl | omega) big _ (by omega) (by first | omega | exact Nat.zero_le _) rfl (z08 HP.out bup) (Nat.le_trans HF.out.size (bsz bup))).mono ?_); intro e wz hr; rw [← HO4.out] at hr; obtain ⟨⟨adz, cz, rfl, ho__⟩, hb__⟩ := hr; replace HF := cEb HF bup hb__; clear HP; have HP := Hd ho__; clear ho__ hb__))
  go_ret
  exact ⟨adz, cz, by rw [HFIN.out]; rfl, by rw [HFIN.out]; exact z0r HP.out (Nat.le_trans HB.out.size HE.out.size), HB.out.trans ((HE.out.trans (HF.out.mono HE.out.size)).mono HB.out.size)⟩
def xV : BlkV := ⟨2, false, 0, 1, 0, 0, 0, 0, none, 0, 0, [], none, 0, 0, [], none, 0, 0, []⟩
def b1 : List UInt8 := [1, 0, 0, 0, 20, 0, 0, 0, 1, 0, 0, 0, 0, 0, 0, 0, 20, 0, 0, 0]
def b2 : List UInt8 := [10, 13, 13, 10, 0, 0, 0, 28, 26, 43, 60, 77, 0, 1, 0, 0, 255, 255, 255, 255, 255, 255, 255, 255, 0, 0, 0, 28]
theorem blk_none (w : World) (v : BlkV) (h1 : (⟨v.dad, v.dn, v.dc, v.dl⟩ : Option Addr × Nat × Nat × List UInt8) = ⟨none, 0, 0, []⟩) (h2 : (⟨v.nad, v.nn, v.nc, v.ns⟩ : Option Addr × Nat × Nat × List OptV) = ⟨none, 0, 0, []⟩) (h3 : (⟨v.oad, v.on, v.oc, v.os⟩ : Option Addr × Nat × Nat × List OptV) = ⟨none, 0, 0, []⟩) : Blk w v := by
  simp only [Prod.mk.injEq] at h1 h2 h3
  obtain ⟨a1, a2, a3, a4⟩ := h1
  obtain ⟨e1, e2, e3, e4⟩ := h2
  obtain ⟨f1, f2, f3, f4⟩ := h3
  refine ⟨?_, ?_, ?_⟩
  · rw [a1, a2, a3, a4]; exact Sl.nil _ _
  · rw [e1, e2, e3, e4]; exact ⟨Sl.nil _ _, fun o ho => by cases ho⟩
  · rw [f1, f2, f3, f4]; exact ⟨Sl.nil _ _, fun o ho => by cases ho⟩
theorem smX : SmB xV := ⟨by decide⟩
theorem wfX : wfB xV.val := ⟨by decide, by decide, by decide, by decide⟩
def sS : BlkV := ⟨1, false, 0, 0, 0, 0, 0, 0, none, 0, 0, [], none, 0, 0, [], none, 0, 0, []⟩
def pV (g : Nat) : BlkV := ⟨3, false, 0, 0, 0, 0, 0, 5, some ⟨g, 0, none⟩, 2, 2, [1, 2], none, 0, 0, [], none, 0, 0, []⟩
def pB : PB := ⟨3, false, 0, 0, 0, 0, 0, 5, [1, 2], [], []⟩
def aB1 : List UInt8 := [10, 13, 13, 10, 28, 0, 0, 0, 77, 60, 43, 26, 1, 0, 0, 0, 255, 255, 255, 255, 255, 255, 255, 255, 28, 0, 0, 0]
def aB2 : List UInt8 := [6, 0, 0, 0, 36, 0, 0, 0, 0, 0, 0, 0, 0, 0, 0, 0, 0, 0, 0, 0, 2, 0, 0, 0, 5, 0, 0, 0, 1, 2, 0, 0, 36, 0, 0, 0]
theorem kS : bytesC noS [sS.val] = aB1 := by decide +kernel
theorem kP : bytesB false pB = aB2 := by decide +kernel
def aC : List UInt8 := bytesC noS [sS.val, xV.val, pB]
theorem kCl : aC.length = 84 := by decide +kernel
theorem kR1 : rightC [sS.val] = true := by decide +kernel
theorem kR2 : rightC [sS.val, pB] = false := by decide +kernel
theorem kR3 : rightC [sS.val, xV.val, pB] = true := by decide +kernel
theorem kRd : readP (aB1 ++ aB2) = ([sS.val], (28, 5)) := by kernel_rfl
theorem kRn : readP [] = ([], (0, 2)) := by kernel_rfl
theorem kFr : framesR noS [sS.val, xV.val, pB] = [⟨0, 0, 0, 5, [1, 2]⟩] := by kernel_rfl
theorem wfP : wfB pB := ⟨by decide, by decide, by decide, by decide⟩
theorem wfSS : wfB sS.val := ⟨by decide, by decide, by decide, by decide⟩
theorem smSS : SmB sS := ⟨by decide⟩
theorem smP (g : Nat) : SmB (pV g) := ⟨⟨by show sizeO [] ≤ 70420; decide, by show sizeO [] ≤ 70420; decide, by show 2 ≤ 1100000; omega⟩⟩
theorem blkP {w : World} {g : Nat} (h : Bs w (some ⟨g, 0, none⟩) 2 2 [1, 2]) : Blk w (pV g) := ⟨h, ⟨Sl.nil w 2, fun o ho => by cases ho⟩, ⟨Sl.nil w 2, fun o ho => by cases ho⟩⟩
theorem all1K (g : Nat) : ∀ v ∈ [sS], SmB v ∧ wfB v.val := fun v hv => by simp at hv; subst hv; exact ⟨smSS, wfSS⟩
theorem all2K (g : Nat) : ∀ v ∈ [sS, pV g], SmB v ∧ wfB v.val := fun v hv => by
  simp at hv
  rcases hv with rfl | rfl
  · exact ⟨smSS, wfSS⟩
  · exact ⟨smP g, wfP⟩
theorem all3K (g : Nat) : ∀ v ∈ [sS, xV, pV g], SmB v ∧ wfB v.val := fun v hv => by
  simp at hv
  rcases hv with rfl | rfl | rfl
  · exact ⟨smSS, wfSS⟩
  · exact ⟨smX, wfX⟩
  · exact ⟨smP g, wfP⟩
theorem wf3 : ∀ x ∈ [sS.val, xV.val, pB], wfB x := fun x hx => by
  simp at hx
  rcases hx with rfl | rfl | rfl
  · exact wfSS
  · exact wfX
  · exact wfP
theorem blk1K (w : World) : ∀ v ∈ [sS], Blk w v := fun v hv => by simp at hv; subst hv; exact blk_none _ _ rfl rfl rfl
theorem blk2K {w : World} {g : Nat} (h : Bs w (some ⟨g, 0, none⟩) 2 2 [1, 2]) : ∀ v ∈ [sS, pV g], Blk w v := fun v hv => by
  simp at hv
  rcases hv with rfl | rfl
  · exact blk_none _ _ rfl rfl rfl
  · exact blkP h
theorem blk3K {w : World} {g : Nat} (h : Bs w (some ⟨g, 0, none⟩) 2 2 [1, 2]) : ∀ v ∈ [sS, xV, pV g], Blk w v := fun v hv => by
  simp at hv
  rcases hv with rfl | rfl | rfl
  · exact blk_none _ _ rfl rfl rfl
  · exact blk_none _ _ rfl rfl rfl
  · exact blkP h
theorem own_no {w w' : World} {base g : Nat} {e : TypeId} {size : Nat} {ad : Option Addr} {n c : Nat} {xs : List Value} (h : w.ownsRow base e size (.slice ad n c) n xs) (hg : w.grownBy w' (some g)) (hne : ∀ x, ad = some x → x.block ≠ g) : w'.ownsRow base e size (.slice ad n c) n xs := own_apart h hg hne
theorem one_frame {fs : List FrV} (h : fs.map FrV.val = [⟨0, 0, 0, 5, [1, 2]⟩]) : ∃ f, fs = [f] ∧ f.len = 5 ∧ f.l = [1, 2] := by
  match fs, h with
  | [f], h =>
    simp [FrV.val] at h
    exact ⟨f, rfl, h.2.2.2.1, h.2.2.2.2⟩
  | [], h => simp at h
  | _ :: _ :: _, h => simp at h
theorem aw_frames (g gd : Nat) (w : World) (h : Blks w (some ⟨g, 0, none⟩) 3 3 [sS, xV, pV gd]) : Calls Try.prog 37 #[.slice (some ⟨g, 0, none⟩) 3 3] w fun e w' => ∃ ad c f, e = .returned (.slice ad 1 c) ∧ (f.len = 5 ∧ f.l = [1, 2]) ∧ Frs w' ad 1 c [f] ∧ Below w.heap.size w w' := by
  refine (pcFrames_any (some ⟨g, 0, none⟩) 3 3 [sS, xV, pV gd] w h (by omega) (all3K gd)).mono fun e w' hr => ?_
  obtain ⟨hb, ad, c, fs, he, ho, hof, hfr, _⟩ := hr
  obtain ⟨f, rfl, h1, h2⟩ := one_frame ((hfr kR3).trans kFr)
  exact ⟨ad, c, f, he, ⟨h1, h2⟩, ⟨Sl.of_own ho, fun v hv => Bs.of_own (hof v hv)⟩, hb⟩
theorem refBytes_p (g : Nat) (w : World) (h : Bs w (some ⟨g, 0, none⟩) 2 2 [1, 2]) : Calls Try.prog 25 #[.agg (pV g).cells.toArray, .bool false] w fun e w' => ∃ ad c, e = .returned (.slice ad 36 c) ∧ w'.ownsRow w.heap.size 5 1 (.slice ad 36 c) 36 (BV aB2) ∧ Below w.heap.size w w' := by
  refine (refBytes3 (pV g) false w (blkP h) rfl (smP g) (by show mayP pB = true; decide +kernel) wfP).mono fun e w' hr => ?_
  unfold RetB at hr
  rw [show bytesB false (pV g).val = aB2 from kP] at hr
  exact hr
theorem short3 {w : World} {us : List BlkV} (hu : ∀ u ∈ us, Blk w u) (h : bvals us = [sS.val, xV.val, pB]) : ∀ u ∈ us, SmB u ∧ wfB u.val := by
  intro u hm
  have : u.val ∈ [sS.val, xV.val, pB] := by rw [← h]; exact List.mem_map_of_mem hm
  refine ⟨SmB.of_size (hu u hm) ?_ ?_, wf3 _ this⟩
  · simp only [List.mem_cons, List.not_mem_nil, or_false] at this
    rcases this with h | h | h <;> rw [h] <;> decide +kernel
  · simp only [List.mem_cons, List.not_mem_nil, or_false] at this
    rcases this with h | h | h <;> rw [h] <;> decide +kernel
theorem pcAwake_any (w : World) : Calls Try.prog 28 #[] w fun e w' => e = .returned (.bool true) ∧ Below w.heap.size w w' := by
  have HB := Hd (Below.refl w.heap.size w)
  have HBI := Hd z0d
  have HZI := Hd z1s
  have HSI := Hd z0u
  go_enter Try.func28, Try.ntmps28
  simp only [List.append_eq, List.cons_append, List.nil_append]
  go_wp2_with (first
 | ((with_reducible refine sl 1 ?_); (refine z13 rfl rfl 27 rfl (.tmp 1) (.tmp 17) rfl (sS.cells).toArray _ HZI.out rfl (z0h _) (fun _ => rfl) (fun _ => rfl) ?_); intro wn1 g1 le_g1 lt_g1 hg__ hb__; have HG1 := Hd hg__; have hE__ := cU HB bup hb__; replace HB := ck HB hE__; clear hE__; clear hg__ hb__; simp only [PT])
 | ((with_reducible refine sl 18 ?_); (refine wpL_lit rfl 2 _ rfl [1, 2] rfl (by omega) (by omega) rfl ?_); intro wl18 gd le18 hown__ hb__; have HD := Hd (Bs.of_own hown__); have hE__ := cU HB bup hb__; replace HB := ck HB hE__; replace HG1 := ck HG1 hE__; clear hE__; clear hown__ hb__ le18; simp only [PT])
 | ((with_reducible refine sl 2 ?_); (refine z13 rfl rfl 27 rfl (.tmp 2) (.tmp 19) rfl ((pV gd).cells).toArray _ HZI.out rfl (z0h _) (fun _ => rfl) (fun _ => rfl) ?_); intro wn2 g2 le_g2 lt_g2 hg__ hb__; have HG2 := Hd hg__; have hE__ := cU HB bup hb__; replace HB := ck HB hE__; replace HG1 := ck HG1 hE__; replace HD := ck HD hE__; clear hE__; clear hg__ hb__; simp only [PT])
 | ((with_reducible refine sl 3 ?_); (refine z13 rfl rfl 27 rfl (.tmp 3) (.tmp 20) rfl (xV.cells).toArray _ HZI.out rfl (z0h _) (fun _ => rfl) (fun _ => rfl) ?_); intro wn3 g3 le_g3 lt_g3 hg__ hb__; have HG3 := Hd hg__; have hE__ := cU HB bup hb__; replace HB := ck HB hE__; replace HG1 := ck HG1 hE__; replace HD := ck HD hE__; replace HG2 := ck HG2 hE__; clear hE__; clear hg__ hb__; simp only [PT])
 | ((with_reducible refine sl 22 ?_); (refine z05 rfl 27 (.tmp 1) rfl g1 0 rfl (sS.cells) _ (z00 HG1.out) Try.underlying27 rfl HBI.out ?_); simp only [PT])
 | ((with_reducible refine sl 23 ?_); (refine wpL_litK rfl 1 _ rfl [sS] rfl (by omega) (by omega) (blk1K _) (by kernel_rfl) ?_); intro wl23 gl23 le_ lt_ hbl__ hb__; have HL23 := Hd hbl__; have hE__ := cU HB bup hb__; replace HB := ck HB hE__; replace HG1 := ck HG1 hE__; replace HD := ck HD hE__; replace HG2 := ck HG2 hE__; replace HG3 := ck HG3 hE__; clear hE__; clear hbl__ hb__ le_ lt_; simp only [PT])
 | (go_at_call 30; (with_reducible show Calls _ _ #[Value.slice (some ⟨gl23, 0, none⟩) 1 _] _ _); (refine (pcPut_at aB1 28 (some ⟨gl23, 0, none⟩) 1 1 [sS] kS.symm rfl kR1 _ (HL23.out.below bup) (by omega) (all1K 0)).mono ?_); intro e wc1 hr; obtain ⟨adb, cb, rfl, ho__, hb__⟩ := hr; have HQB := Hd (Bs.of_own ho__); clear ho__; have hE__ := cU HB bup hb__; replace HB := ck HB hE__; replace HG1 := ck HG1 hE__; replace HD := ck HD hE__; replace HG2 := ck HG2 hE__; replace HG3 := ck HG3 hE__; clear hE__; clear hb__)
 | ((with_reducible refine sl 28 ?_); (refine z05 rfl 27 (.tmp 1) rfl g1 0 rfl (sS.cells) _ (z00 HG1.out) Try.underlying27 rfl HBI.out ?_); simp only [PT])
 | ((with_reducible refine sl 29 ?_); (refine z05 rfl 27 (.tmp 2) rfl g2 0 rfl ((pV gd).cells) _ (z00 HG2.out) Try.underlying27 rfl HBI.out ?_); simp only [PT])
 | ((with_reducible refine sl 30 ?_); (refine wpL_litK rfl 2 _ rfl [sS, pV gd] rfl (by omega) (by omega) (blk2K (HD.out.below bup)) (by kernel_rfl) ?_); intro wl30 gl30 le_ lt_ hbl__ hb__; have HL30 := Hd hbl__; have hE__ := cU HB bup hb__; replace HB := ck HB hE__; replace HG1 := ck HG1 hE__; replace HD := ck HD hE__; replace HG2 := ck HG2 hE__; replace HG3 := ck HG3 hE__; replace HQB := ck HQB hE__; clear hE__; clear hbl__ hb__ le_ lt_; simp only [PT])
 | (go_at_call 30; (with_reducible show Calls _ _ #[Value.slice (some ⟨gl30, 0, none⟩) 2 _] _ _); (refine (pcPut_wrong (some ⟨gl30, 0, none⟩) 2 2 [sS, pV gd] kR2 _ (HL30.out.below bup) (by omega) (all2K gd)).mono ?_); intro e wc2 hr; obtain ⟨rfl, hb__⟩ := hr; have hE__ := cU HB bup hb__; replace HB := ck HB hE__; replace HG1 := ck HG1 hE__; replace HD := ck HD hE__; replace HG2 := ck HG2 hE__; replace HG3 := ck HG3 hE__; replace HQB := ck HQB hE__; clear hE__; clear hb__)
 | ((with_reducible refine sl 35 ?_); (refine z05 rfl 27 (.tmp 1) rfl g1 0 rfl (sS.cells) _ (z00 HG1.out) Try.underlying27 rfl HBI.out ?_); simp only [PT])
 | ((with_reducible refine sl 36 ?_); (refine z05 rfl 27 (.tmp 3) rfl g3 0 rfl (xV.cells) _ (z00 HG3.out) Try.underlying27 rfl HBI.out ?_); simp only [PT])
 | ((with_reducible refine sl 37 ?_); (refine z05 rfl 27 (.tmp 2) rfl g2 0 rfl ((pV gd).cells) _ (z00 HG2.out) Try.underlying27 rfl HBI.out ?_); simp only [PT])
 | ((with_reducible refine sl 38 ?_); (refine wpL_litK rfl 3 _ rfl [sS, xV, pV gd] rfl (by omega) (by omega) (blk3K (HD.out.below bup)) (by kernel_rfl) ?_); intro wl38 gl38 le_ lt_ hbl__ hb__; have HL38 := Hd hbl__; have hE__ := cU HB bup hb__; replace HB := ck HB hE__; replace HG1 := ck HG1 hE__; replace HD := ck HD hE__; replace HG2 := ck HG2 hE__; replace HG3 := ck HG3 hE__; replace HQB := ck HQB hE__; clear hE__; clear hbl__ hb__ le_ lt_; simp only [PT])
 | (go_at_call 30; (with_reducible show Calls _ _ #[Value.slice (some ⟨gl38, 0, none⟩) 3 _] _ _); (refine (pcPut_at aC 84 (some ⟨gl38, 0, none⟩) 3 3 [sS, xV, pV gd] rfl kCl kR3 _ (HL38.out.below bup) (by omega) (all3K gd)).mono ?_); intro e wc3 hr; obtain ⟨adc, cc, rfl, ho__, hb__⟩ := hr; have HQC := Hd (Bs.of_own ho__); clear ho__; have hE__ := cU HB bup hb__; replace HB := ck HB hE__; replace HG1 := ck HG1 hE__; replace HD := ck HD hE__; replace HG2 := ck HG2 hE__; replace HG3 := ck HG3 hE__; replace HQB := ck HQB hE__; clear hE__; clear hb__)
 | (go_at_call 34; (with_reducible show Calls _ _ #[Value.slice adc 84 _] _ _); (refine (z2n [sS.val, xV.val, pB] 0 0 3 adc 84 cc aC (readP_back _ kR3 wf3) rfl _ (HQC.out.below bup) (by omega)).mono ?_); intro e wc4 hr; obtain ⟨adl, cl, vsl, rfl, hvl, hll, ho__, hb__⟩ := hr; have HXL := Hd (show Blks _ adl 3 cl vsl from hll ▸ ho__.blks); have HVL := Hd hvl; clear ho__ hvl hll; have hE__ := cU HB bup hb__; replace HB := ck HB hE__; replace HG1 := ck HG1 hE__; replace HD := ck HD hE__; replace HG2 := ck HG2 hE__; replace HG3 := ck HG3 hE__; replace HQB := ck HQB hE__; clear hE__; clear hb__)
 | ((with_reducible refine sl 11 ?_); (refine z09 rfl 49 rfl (.agg (spotC (0, 0)).toArray) (spotC (0, 0)).toArray 2 (by kernel_rfl) rfl ?_); intro ws11 g11 he__ le_g11 lt_g11 hg__ hb__; have HG11 := Hd hg__; have HE11 := Hd hb__; clear hg__ hb__ he__; simp only [PT])
 | ((with_reducible show wpList _ _ _ (⟨none, .store _ (.tmp 11) (.tmp 46), _, _, _, _⟩ :: _) _ _); (refine z02 rfl 49 (.tmp 11) (.tmp 46) rfl g11 (spotC (0, 0)).toArray rfl rfl HG11.out HSI.out rfl (z30 _) ?_); intro wt11 hs__ hr__; (have hb__ := HE11.out.grown hr__ HE11.out.size (fun k e => (by cases e; exact le_g11))); (have hE__ := cU HB bup hb__; replace HB := ck HB hE__; replace HG1 := ck HG1 hE__; replace HD := ck HD hE__; replace HG2 := ck HG2 hE__; replace HG3 := ck HG3 hE__; replace HQB := ck HQB hE__; replace HXL := ck HXL hE__; clear hE__); clear HG11 HE11; have HG11 := Hd hs__; clear hs__ hr__ hb__; simp only [PT]))
  have HE := Hd (Below.refl wt11.heap.size wt11)
  refine wp_region_T (S := fun u__ => u__.heap[g2]? = some (.cells (pV gd).cells.toArray 27 (0, 0))) 12 (by kernel_rfl) ?_ (fun hHeld => ?_); (focus (exact hatE HE bup HG2)); (refine tkT 12 1 (oi := ⟨some 49, _, _, _, _, _⟩) (v := ?_) rfl (by kernel_rfl) (.inl ⟨by rfl, ?_⟩) hHeld ?_; rotate_left; focus (intro w hSw; (try dsimp only at hSw); go_simp; try with_reducible rfl)); simp only [PT]; refine' tkT 12 3 (oi := ⟨some 51, _, _, _, _, _⟩) (v := _) rfl (by kernel_rfl) (yieldsIf_load_mid (by rfl) _ _ rfl _ _ rfl ((pV gd).cells) _ (fun _ h => z00 h) (Try.underlying27) rfl (HBI.out)) hHeld ?_; simp only [PT]; refine z0f (rs := [0, 10]) (by kernel_rfl) (by simp) ?_; refine (AllReadyT.cons (o := ⟨some 48, _, _, _, _, _⟩) rfl (fun K hK => ?_) (AllReadyT.cons (o := ⟨some 13, _, _, _, _, _⟩) rfl (fun K hK => ?_) AllReadyT.nil)); ((refine step_lit0B rfl rfl ?_); intro wl48 gl48 le48 lt48 hown__ hb__; have HQ := Hd (z0r hown__ (Nat.le_trans HE.out.size (bsz bup))); (try (have hx52 : ∀ x, ad52 = some x → x.block ≠ gl48 := fun x hx => Nat.ne_of_lt (Nat.lt_of_lt_of_le (z18 (z08 H52.out bup) x hx).2 le48))); (try (replace H52 := Hd (z08 (z08 H52.out bup) hb__))); (try (replace HG13 := ckk HG13 bup hb__)); (replace HE := cE0 HE bup hb__); clear hown__ hb__); refine hK.out _ _ (fun _ => ?_) (fun hHeld => ?_); (focus (exact hatE HE bup HG2)); replace hHeld := hHeld (by decide); clear hK K; (try simp only [PT]); refine z0f (rs := [2, 10]) (by kernel_rfl) (by simp) ?_; refine (AllReadyT.cons (o := ⟨some 50, _, _, _, _, _⟩) rfl (fun K hK => ?_) (AllReadyT.cons (o := ⟨some 13, _, _, _, _, _⟩) rfl (fun K hK => ?_) AllReadyT.nil)); ((refine z1t elB rfl (.tmp 48) (.tmp 49) rfl wt11.heap.size rfl (z08 HQ.out bup) rfl ((HQB.out.below HE.out).below bup) (z11 _) 28 rfl (by unfold maxLen; omega) (by omega) (Nat.le_trans HE.out.size (bsz bup)) ?_); intro ad50 c50 w50 ho__ hg__; (try (replace H52 := Hd (own_no (z08 H52.out bup) hg__ hx52))); (try (replace HG13 := Hd (z1d (hatB HG13 bup) (z08 HQ.out bup) hg__ (by decide)))); (replace HE := cEa HE bup hg__ (z07 HQ.out)); clear HQ; have HQ := Hd (show World.ownsRow _ _ _ _ _ _ (BV aB1) from ho__); clear ho__ hg__; (try clear lt48)); refine hK.out _ _ (fun _ => ?_) (fun hHeld => ?_); (focus (exact hatE HE bup HG2)); replace hHeld := hHeld (by decide); clear hK K; (try simp only [PT]); refine z0f (rs := [4, 10]) (by kernel_rfl) (by simp) ?_; refine (AllReadyT.cons (o := ⟨some 52, _, _, _, _, _⟩) rfl (fun K hK => ?_) (AllReadyT.cons (o := ⟨some 13, _, _, _, _, _⟩) rfl (fun K hK => ?_) AllReadyT.nil)); (focus (go_simp; (refine (refBytes_p gd _ ((HD.out.below HE.out).below bup)).mono ?_); intro e wr52 hr; obtain ⟨ad52, c52, rfl, ho__, hb__⟩ := hr; (try (have hx52 : ∀ x, ad52 = some x → x.block ≠ gl48 := fun x hx => Nat.ne_of_gt (Nat.lt_of_lt_of_le lt48 (Nat.le_trans (bsz (w := wl48) bup) (z18 ho__ x hx).1)))); have H52 := Hd ho__; (try (replace HQ := Hd (z08 (z08 HQ.out bup) hb__))); (try (replace HG13 := ckk HG13 bup hb__)); (replace HE := cE0 HE bup hb__); clear ho__ hb__; go_wp2_with fail)); refine hK.out _ _ (fun _ => ?_) (fun hHeld => ?_); (focus (exact hatE HE bup HG2)); replace hHeld := hHeld (by decide); clear hK K; (try simp only [PT]); refine z0f (rs := [5, 10]) (by kernel_rfl) (by simp) ?_; refine (AllReadyT.cons (o := ⟨some 53, _, _, _, _, _⟩) rfl (fun K hK => ?_) (AllReadyT.cons (o := ⟨some 13, _, _, _, _, _⟩) rfl (fun K hK => ?_) AllReadyT.nil))
  ((refine z1t elB rfl (.tmp 50) (.tmp 52) rfl wt11.heap.size rfl (z08 HQ.out bup) rfl ((Sl.of_own H52.out).below bup) (z11 _) 64 rfl (by unfold maxLen; omega) (by omega) (Nat.le_trans HE.out.size (bsz bup)) ?_); intro ad53 c53 w53 ho__ hg__; clear H52; (try (replace HG13 := Hd (z1d (hatB HG13 bup) (z08 HQ.out bup) hg__ (by decide)))); (replace HE := cEa HE bup hg__ (z07 HQ.out)); clear HQ; have HQ := Hd (show w53.ownsRow wt11.heap.size 5 1 (.slice ad53 64 c53) 64 (BV (aB1 ++ aB2)) from (by rw [z0i]; exact ho__)); clear ho__ hg__); refine hK.out _ _ (fun _ => ?_) (fun hHeld => ?_); (focus (exact hatE HE bup HG2)); replace hHeld := hHeld (by decide); clear hK K; (try simp only [PT]); refine z0f (rs := [6, 10]) (by kernel_rfl) (by simp) ?_; refine (AllReadyT.cons (o := ⟨some 54, _, _, _, _, _⟩) rfl (fun K hK => ?_) (AllReadyT.cons (o := ⟨some 13, _, _, _, _, _⟩) rfl (fun K hK => ?_) AllReadyT.nil)); (focus (go_simp; (refine (z2n [sS.val] 28 5 1 ad53 64 c53 (aB1 ++ aB2) kRd rfl _ (Bs.of_own (z08 HQ.out bup)) (by omega)).mono ?_); intro e wr54 hr; obtain ⟨adm, cm, vsm, rfl, _, _, _, hb__⟩ := hr; (try (replace HG13 := ckk HG13 bup hb__)); (replace HE := cE0 HE bup hb__); clear HQ hb__; go_wp2_with fail)); refine hK.out _ _ (fun _ => ?_) (fun hHeld => ?_); (focus (exact hatE HE bup HG2)); replace hHeld := hHeld (by decide); clear hK K; (try simp only [PT]); (refine tkT 12 7 (oi := ⟨some 47, _, _, _, _, _⟩) (v := ?_) rfl (by kernel_rfl) (.inl ⟨by rfl, ?_⟩) hHeld ?_; rotate_left; focus (intro w hSw; (try dsimp only at hSw); go_simp; try with_reducible rfl)); simp only [PT]; (refine tkT 12 8 (oi := ⟨some 55, _, _, _, _, _⟩) (v := ?_) rfl (by kernel_rfl) (.inl ⟨by rfl, ?_⟩) hHeld ?_; rotate_left; focus (intro w hSw; (try dsimp only at hSw); go_simp; try with_reducible rfl)); simp only [PT]; (refine tkT 12 9 (oi := ⟨some 56, _, _, _, _, _⟩) (v := ?_) rfl (by kernel_rfl) (.inl ⟨by rfl, ?_⟩) hHeld ?_; rotate_left; focus (intro w hSw; (try dsimp only at hSw); go_simp; try with_reducible rfl)); simp only [PT]; refine z0f (rs := [10]) (by kernel_rfl) (by simp) ?_; refine (AllReadyT.cons (o := ⟨some 13, _, _, _, _, _⟩) rfl (fun K hK => ?_) AllReadyT.nil); ((refine z2s rfl 49 rfl (.agg (spotC (0, 0)).toArray) (spotC (0, 0)).toArray 2 (by kernel_rfl) rfl ?_); intro w13 g13 le13 lt13 hg__ hb__; (have ge13 : wt11.heap.size ≤ g13 := Nat.le_trans HE.out.size (Nat.le_trans (bsz bup) le13)); have HG13 := Hd hg__; (try (replace HQ := Hd (z08 (z08 HQ.out bup) hb__))); (try (replace H52 := Hd (z08 (z08 H52.out bup) hb__))); (replace HE := cE0 HE bup hb__); clear hg__ hb__); refine hK.out _ _ (fun _ => ?_) (fun hHeld => ?_); (focus (exact hatE HE bup HG2)); replace hHeld := hHeld (by decide); clear hK K; (try simp only [PT]); (refine tkT 12 11 (oi := ⟨some 12, _, _, _, _, _⟩) (v := ?_) rfl (by kernel_rfl) (.inl ⟨by rfl, ?_⟩) hHeld ?_; rotate_left; focus (intro w hSw; (try dsimp only at hSw); go_simp; try with_reducible rfl)); simp only [PT]; refine z0f (rs := [12]) (by kernel_rfl) (by simp) ?_; refine (AllReadyT.cons (o := ⟨none, _, _, _, _, _⟩) rfl (fun K hK => ?_) AllReadyT.nil); ((refine z0j rfl 49 (.tmp 13) (.tmp 56) rfl g13 (spotC (28, 5)).toArray rfl rfl (hatB HG13 bup) HSI.out rfl (z30 _) ?_); intro wst hs__ hr__; (replace HE := Hd ((HE.out.trans (Below.mono bup HE.out.size)).grown hr__ (HE.out.trans (Below.mono bup HE.out.size)).size (fun k e => (by cases e; exact ge13)))); clear HG13; have HG13 := Hd hs__; clear hs__ hr__); refine hK.out _ _ (fun h => absurd rfl h) (fun hHeld => ?_); clear hK K; (try simp only [PT]); refine z2a (by kernel_rfl) ?_ _; rotate_left
  ((refine z2s rfl 49 rfl (.agg (spotC (0, 0)).toArray) (spotC (0, 0)).toArray 2 (by kernel_rfl) rfl ?_); intro w13 g13 le13 lt13 hg__ hb__; (have ge13 : wt11.heap.size ≤ g13 := Nat.le_trans HE.out.size (Nat.le_trans (bsz bup) le13)); have HG13 := Hd hg__; (try (replace HQ := Hd (z08 (z08 HQ.out bup) hb__))); (try (replace H52 := Hd (z08 (z08 H52.out bup) hb__))); (replace HE := cE0 HE bup hb__); clear hg__ hb__); refine hK.out _ _ (fun _ => ?_) (fun hHeld => ?_); (focus (exact hatE HE bup HG2)); replace hHeld := hHeld (by decide); clear hK K; (try simp only [PT]); refine z0f (rs := [6]) (by kernel_rfl) (by simp) ?_; refine (AllReadyT.cons (o := ⟨some 54, _, _, _, _, _⟩) rfl (fun K hK => ?_) AllReadyT.nil); (focus (go_simp; (refine (z2n [sS.val] 28 5 1 ad53 64 c53 (aB1 ++ aB2) kRd rfl _ (Bs.of_own (z08 HQ.out bup)) (by omega)).mono ?_); intro e wr54 hr; obtain ⟨adm, cm, vsm, rfl, _, _, _, hb__⟩ := hr; (try (replace HG13 := ckk HG13 bup hb__)); (replace HE := cE0 HE bup hb__); clear HQ hb__; go_wp2_with fail)); refine hK.out _ _ (fun _ => ?_) (fun hHeld => ?_); (focus (exact hatE HE bup HG2)); replace hHeld := hHeld (by decide); clear hK K; (try simp only [PT]); (refine tkT 12 7 (oi := ⟨some 47, _, _, _, _, _⟩) (v := ?_) rfl (by kernel_rfl) (.inl ⟨by rfl, ?_⟩) hHeld ?_; rotate_left; focus (intro w hSw; (try dsimp only at hSw); go_simp; try with_reducible rfl)); simp only [PT]; (refine tkT 12 8 (oi := ⟨some 55, _, _, _, _, _⟩) (v := ?_) rfl (by kernel_rfl) (.inl ⟨by rfl, ?_⟩) hHeld ?_; rotate_left; focus (intro w hSw; (try dsimp only at hSw); go_simp; try with_reducible rfl)); simp only [PT]; (refine tkT 12 9 (oi := ⟨some 56, _, _, _, _, _⟩) (v := ?_) rfl (by kernel_rfl) (.inl ⟨by rfl, ?_⟩) hHeld ?_; rotate_left; focus (intro w hSw; (try dsimp only at hSw); go_simp; try with_reducible rfl)); simp only [PT]; (refine tkT 12 11 (oi := ⟨some 12, _, _, _, _, _⟩) (v := ?_) rfl (by kernel_rfl) (.inl ⟨by rfl, ?_⟩) hHeld ?_; rotate_left; focus (intro w hSw; (try dsimp only at hSw); go_simp; try with_reducible rfl)); simp only [PT]; refine z0f (rs := [12]) (by kernel_rfl) (by simp) ?_; refine (AllReadyT.cons (o := ⟨none, _, _, _, _, _⟩) rfl (fun K hK => ?_) AllReadyT.nil); ((refine z0j rfl 49 (.tmp 13) (.tmp 56) rfl g13 (spotC (28, 5)).toArray rfl rfl (hatB HG13 bup) HSI.out rfl (z30 _) ?_); intro wst hs__ hr__; (replace HE := Hd ((HE.out.trans (Below.mono bup HE.out.size)).grown hr__ (HE.out.trans (Below.mono bup HE.out.size)).size (fun k e => (by cases e; exact ge13)))); clear HG13; have HG13 := Hd hs__; clear hs__ hr__); refine hK.out _ _ (fun h => absurd rfl h) (fun hHeld => ?_); clear hK K; (try simp only [PT]); refine z2a (by kernel_rfl) ?_ _; rotate_left; ((refine z2s rfl 49 rfl (.agg (spotC (0, 0)).toArray) (spotC (0, 0)).toArray 2 (by kernel_rfl) rfl ?_); intro w13 g13 le13 lt13 hg__ hb__; (have ge13 : wt11.heap.size ≤ g13 := Nat.le_trans HE.out.size (Nat.le_trans (bsz bup) le13)); have HG13 := Hd hg__; (try (replace HQ := Hd (z08 (z08 HQ.out bup) hb__))); (try (replace H52 := Hd (z08 (z08 H52.out bup) hb__))); (replace HE := cE0 HE bup hb__); clear hg__ hb__); refine hK.out _ _ (fun _ => ?_) (fun hHeld => ?_); (focus (exact hatE HE bup HG2)); replace hHeld := hHeld (by decide); clear hK K; (try simp only [PT]); refine z0f (rs := [5]) (by kernel_rfl) (by simp) ?_; refine (AllReadyT.cons (o := ⟨some 53, _, _, _, _, _⟩) rfl (fun K hK => ?_) AllReadyT.nil)
  ((refine z1t elB rfl (.tmp 50) (.tmp 52) rfl wt11.heap.size rfl (z08 HQ.out bup) rfl ((Sl.of_own H52.out).below bup) (z11 _) 64 rfl (by unfold maxLen; omega) (by omega) (Nat.le_trans HE.out.size (bsz bup)) ?_); intro ad53 c53 w53 ho__ hg__; clear H52; (try (replace HG13 := Hd (z1d (hatB HG13 bup) (z08 HQ.out bup) hg__ (by decide)))); (replace HE := cEa HE bup hg__ (z07 HQ.out)); clear HQ; have HQ := Hd (show w53.ownsRow wt11.heap.size 5 1 (.slice ad53 64 c53) 64 (BV (aB1 ++ aB2)) from (by rw [z0i]; exact ho__)); clear ho__ hg__); refine hK.out _ _ (fun _ => ?_) (fun hHeld => ?_); (focus (exact hatE HE bup HG2)); replace hHeld := hHeld (by decide); clear hK K; (try simp only [PT]); refine z0f (rs := [6]) (by kernel_rfl) (by simp) ?_; refine (AllReadyT.cons (o := ⟨some 54, _, _, _, _, _⟩) rfl (fun K hK => ?_) AllReadyT.nil); (focus (go_simp; (refine (z2n [sS.val] 28 5 1 ad53 64 c53 (aB1 ++ aB2) kRd rfl _ (Bs.of_own (z08 HQ.out bup)) (by omega)).mono ?_); intro e wr54 hr; obtain ⟨adm, cm, vsm, rfl, _, _, _, hb__⟩ := hr; (try (replace HG13 := ckk HG13 bup hb__)); (replace HE := cE0 HE bup hb__); clear HQ hb__; go_wp2_with fail)); refine hK.out _ _ (fun _ => ?_) (fun hHeld => ?_); (focus (exact hatE HE bup HG2)); replace hHeld := hHeld (by decide); clear hK K; (try simp only [PT]); (refine tkT 12 7 (oi := ⟨some 47, _, _, _, _, _⟩) (v := ?_) rfl (by kernel_rfl) (.inl ⟨by rfl, ?_⟩) hHeld ?_; rotate_left; focus (intro w hSw; (try dsimp only at hSw); go_simp; try with_reducible rfl)); simp only [PT]; (refine tkT 12 8 (oi := ⟨some 55, _, _, _, _, _⟩) (v := ?_) rfl (by kernel_rfl) (.inl ⟨by rfl, ?_⟩) hHeld ?_; rotate_left; focus (intro w hSw; (try dsimp only at hSw); go_simp; try with_reducible rfl)); simp only [PT]; (refine tkT 12 9 (oi := ⟨some 56, _, _, _, _, _⟩) (v := ?_) rfl (by kernel_rfl) (.inl ⟨by rfl, ?_⟩) hHeld ?_; rotate_left; focus (intro w hSw; (try dsimp only at hSw); go_simp; try with_reducible rfl)); simp only [PT]; (refine tkT 12 11 (oi := ⟨some 12, _, _, _, _, _⟩) (v := ?_) rfl (by kernel_rfl) (.inl ⟨by rfl, ?_⟩) hHeld ?_; rotate_left; focus (intro w hSw; (try dsimp only at hSw); go_simp; try with_reducible rfl)); simp only [PT]; refine z0f (rs := [12]) (by kernel_rfl) (by simp) ?_; refine (AllReadyT.cons (o := ⟨none, _, _, _, _, _⟩) rfl (fun K hK => ?_) AllReadyT.nil); ((refine z0j rfl 49 (.tmp 13) (.tmp 56) rfl g13 (spotC (28, 5)).toArray rfl rfl (hatB HG13 bup) HSI.out rfl (z30 _) ?_); intro wst hs__ hr__; (replace HE := Hd ((HE.out.trans (Below.mono bup HE.out.size)).grown hr__ (HE.out.trans (Below.mono bup HE.out.size)).size (fun k e => (by cases e; exact ge13)))); clear HG13; have HG13 := Hd hs__; clear hs__ hr__); refine hK.out _ _ (fun h => absurd rfl h) (fun hHeld => ?_); clear hK K; (try simp only [PT]); refine z2a (by kernel_rfl) ?_ _; rotate_left; ((refine z2s rfl 49 rfl (.agg (spotC (0, 0)).toArray) (spotC (0, 0)).toArray 2 (by kernel_rfl) rfl ?_); intro w13 g13 le13 lt13 hg__ hb__; (have ge13 : wt11.heap.size ≤ g13 := Nat.le_trans HE.out.size (Nat.le_trans (bsz bup) le13)); have HG13 := Hd hg__; (try (replace HQ := Hd (z08 (z08 HQ.out bup) hb__))); (try (replace H52 := Hd (z08 (z08 H52.out bup) hb__))); (replace HE := cE0 HE bup hb__); clear hg__ hb__); refine hK.out _ _ (fun _ => ?_) (fun hHeld => ?_); (focus (exact hatE HE bup HG2)); replace hHeld := hHeld (by decide); clear hK K; (try simp only [PT]); refine z0f (rs := [4]) (by kernel_rfl) (by simp) ?_; refine (AllReadyT.cons (o := ⟨some 52, _, _, _, _, _⟩) rfl (fun K hK => ?_) AllReadyT.nil)
  (focus (go_simp; (refine (refBytes_p gd _ ((HD.out.below HE.out).below bup)).mono ?_); intro e wr52 hr; obtain ⟨ad52, c52, rfl, ho__, hb__⟩ := hr; (try (have hx52 : ∀ x, ad52 = some x → x.block ≠ gl48 := fun x hx => Nat.ne_of_gt (Nat.lt_of_lt_of_le lt48 (Nat.le_trans (bsz (w := wl48) bup) (z18 ho__ x hx).1)))); have H52 := Hd ho__; (try (replace HQ := Hd (z08 (z08 HQ.out bup) hb__))); (try (replace HG13 := ckk HG13 bup hb__)); (replace HE := cE0 HE bup hb__); clear ho__ hb__; go_wp2_with fail)); refine hK.out _ _ (fun _ => ?_) (fun hHeld => ?_); (focus (exact hatE HE bup HG2)); replace hHeld := hHeld (by decide); clear hK K; (try simp only [PT]); refine z0f (rs := [5]) (by kernel_rfl) (by simp) ?_; refine (AllReadyT.cons (o := ⟨some 53, _, _, _, _, _⟩) rfl (fun K hK => ?_) AllReadyT.nil); ((refine z1t elB rfl (.tmp 50) (.tmp 52) rfl wt11.heap.size rfl (z08 HQ.out bup) rfl ((Sl.of_own H52.out).below bup) (z11 _) 64 rfl (by unfold maxLen; omega) (by omega) (Nat.le_trans HE.out.size (bsz bup)) ?_); intro ad53 c53 w53 ho__ hg__; clear H52; (try (replace HG13 := Hd (z1d (hatB HG13 bup) (z08 HQ.out bup) hg__ (by decide)))); (replace HE := cEa HE bup hg__ (z07 HQ.out)); clear HQ; have HQ := Hd (show w53.ownsRow wt11.heap.size 5 1 (.slice ad53 64 c53) 64 (BV (aB1 ++ aB2)) from (by rw [z0i]; exact ho__)); clear ho__ hg__); refine hK.out _ _ (fun _ => ?_) (fun hHeld => ?_); (focus (exact hatE HE bup HG2)); replace hHeld := hHeld (by decide); clear hK K; (try simp only [PT]); refine z0f (rs := [6]) (by kernel_rfl) (by simp) ?_; refine (AllReadyT.cons (o := ⟨some 54, _, _, _, _, _⟩) rfl (fun K hK => ?_) AllReadyT.nil); (focus (go_simp; (refine (z2n [sS.val] 28 5 1 ad53 64 c53 (aB1 ++ aB2) kRd rfl _ (Bs.of_own (z08 HQ.out bup)) (by omega)).mono ?_); intro e wr54 hr; obtain ⟨adm, cm, vsm, rfl, _, _, _, hb__⟩ := hr; (try (replace HG13 := ckk HG13 bup hb__)); (replace HE := cE0 HE bup hb__); clear HQ hb__; go_wp2_with fail)); refine hK.out _ _ (fun _ => ?_) (fun hHeld => ?_); (focus (exact hatE HE bup HG2)); replace hHeld := hHeld (by decide); clear hK K; (try simp only [PT]); (refine tkT 12 7 (oi := ⟨some 47, _, _, _, _, _⟩) (v := ?_) rfl (by kernel_rfl) (.inl ⟨by rfl, ?_⟩) hHeld ?_; rotate_left; focus (intro w hSw; (try dsimp only at hSw); go_simp; try with_reducible rfl)); simp only [PT]; (refine tkT 12 8 (oi := ⟨some 55, _, _, _, _, _⟩) (v := ?_) rfl (by kernel_rfl) (.inl ⟨by rfl, ?_⟩) hHeld ?_; rotate_left; focus (intro w hSw; (try dsimp only at hSw); go_simp; try with_reducible rfl)); simp only [PT]; (refine tkT 12 9 (oi := ⟨some 56, _, _, _, _, _⟩) (v := ?_) rfl (by kernel_rfl) (.inl ⟨by rfl, ?_⟩) hHeld ?_; rotate_left; focus (intro w hSw; (try dsimp only at hSw); go_simp; try with_reducible rfl)); simp only [PT]; (refine tkT 12 11 (oi := ⟨some 12, _, _, _, _, _⟩) (v := ?_) rfl (by kernel_rfl) (.inl ⟨by rfl, ?_⟩) hHeld ?_; rotate_left; focus (intro w hSw; (try dsimp only at hSw); go_simp; try with_reducible rfl)); simp only [PT]; refine z0f (rs := [12]) (by kernel_rfl) (by simp) ?_; refine (AllReadyT.cons (o := ⟨none, _, _, _, _, _⟩) rfl (fun K hK => ?_) AllReadyT.nil); ((refine z0j rfl 49 (.tmp 13) (.tmp 56) rfl g13 (spotC (28, 5)).toArray rfl rfl (hatB HG13 bup) HSI.out rfl (z30 _) ?_); intro wst hs__ hr__; (replace HE := Hd ((HE.out.trans (Below.mono bup HE.out.size)).grown hr__ (HE.out.trans (Below.mono bup HE.out.size)).size (fun k e => (by cases e; exact ge13)))); clear HG13; have HG13 := Hd hs__; clear hs__ hr__); refine hK.out _ _ (fun h => absurd rfl h) (fun hHeld => ?_); clear hK K; (try simp only [PT]); refine z2a (by kernel_rfl) ?_ _; rotate_left
  ((refine z2s rfl 49 rfl (.agg (spotC (0, 0)).toArray) (spotC (0, 0)).toArray 2 (by kernel_rfl) rfl ?_); intro w13 g13 le13 lt13 hg__ hb__; (have ge13 : wt11.heap.size ≤ g13 := Nat.le_trans HE.out.size (Nat.le_trans (bsz bup) le13)); have HG13 := Hd hg__; (try (replace HQ := Hd (z08 (z08 HQ.out bup) hb__))); (try (replace H52 := Hd (z08 (z08 H52.out bup) hb__))); (replace HE := cE0 HE bup hb__); clear hg__ hb__); refine hK.out _ _ (fun _ => ?_) (fun hHeld => ?_); (focus (exact hatE HE bup HG2)); replace hHeld := hHeld (by decide); clear hK K; (try simp only [PT]); refine z0f (rs := [2]) (by kernel_rfl) (by simp) ?_; refine (AllReadyT.cons (o := ⟨some 50, _, _, _, _, _⟩) rfl (fun K hK => ?_) AllReadyT.nil); ((refine z1t elB rfl (.tmp 48) (.tmp 49) rfl wt11.heap.size rfl (z08 HQ.out bup) rfl ((HQB.out.below HE.out).below bup) (z11 _) 28 rfl (by unfold maxLen; omega) (by omega) (Nat.le_trans HE.out.size (bsz bup)) ?_); intro ad50 c50 w50 ho__ hg__; (try (replace H52 := Hd (own_no (z08 H52.out bup) hg__ hx52))); (try (replace HG13 := Hd (z1d (hatB HG13 bup) (z08 HQ.out bup) hg__ (by decide)))); (replace HE := cEa HE bup hg__ (z07 HQ.out)); clear HQ; have HQ := Hd (show World.ownsRow _ _ _ _ _ _ (BV aB1) from ho__); clear ho__ hg__; (try clear lt48)); refine hK.out _ _ (fun _ => ?_) (fun hHeld => ?_); (focus (exact hatE HE bup HG2)); replace hHeld := hHeld (by decide); clear hK K; (try simp only [PT]); refine z0f (rs := [4]) (by kernel_rfl) (by simp) ?_; refine (AllReadyT.cons (o := ⟨some 52, _, _, _, _, _⟩) rfl (fun K hK => ?_) AllReadyT.nil); (focus (go_simp; (refine (refBytes_p gd _ ((HD.out.below HE.out).below bup)).mono ?_); intro e wr52 hr; obtain ⟨ad52, c52, rfl, ho__, hb__⟩ := hr; (try (have hx52 : ∀ x, ad52 = some x → x.block ≠ gl48 := fun x hx => Nat.ne_of_gt (Nat.lt_of_lt_of_le lt48 (Nat.le_trans (bsz (w := wl48) bup) (z18 ho__ x hx).1)))); have H52 := Hd ho__; (try (replace HQ := Hd (z08 (z08 HQ.out bup) hb__))); (try (replace HG13 := ckk HG13 bup hb__)); (replace HE := cE0 HE bup hb__); clear ho__ hb__; go_wp2_with fail)); refine hK.out _ _ (fun _ => ?_) (fun hHeld => ?_); (focus (exact hatE HE bup HG2)); replace hHeld := hHeld (by decide); clear hK K; (try simp only [PT]); refine z0f (rs := [5]) (by kernel_rfl) (by simp) ?_; refine (AllReadyT.cons (o := ⟨some 53, _, _, _, _, _⟩) rfl (fun K hK => ?_) AllReadyT.nil); ((refine z1t elB rfl (.tmp 50) (.tmp 52) rfl wt11.heap.size rfl (z08 HQ.out bup) rfl ((Sl.of_own H52.out).below bup) (z11 _) 64 rfl (by unfold maxLen; omega) (by omega) (Nat.le_trans HE.out.size (bsz bup)) ?_); intro ad53 c53 w53 ho__ hg__; clear H52; (try (replace HG13 := Hd (z1d (hatB HG13 bup) (z08 HQ.out bup) hg__ (by decide)))); (replace HE := cEa HE bup hg__ (z07 HQ.out)); clear HQ; have HQ := Hd (show w53.ownsRow wt11.heap.size 5 1 (.slice ad53 64 c53) 64 (BV (aB1 ++ aB2)) from (by rw [z0i]; exact ho__)); clear ho__ hg__); refine hK.out _ _ (fun _ => ?_) (fun hHeld => ?_); (focus (exact hatE HE bup HG2)); replace hHeld := hHeld (by decide); clear hK K; (try simp only [PT]); refine z0f (rs := [6]) (by kernel_rfl) (by simp) ?_; refine (AllReadyT.cons (o := ⟨some 54, _, _, _, _, _⟩) rfl (fun K hK => ?_) AllReadyT.nil); (focus (go_simp; (refine (z2n [sS.val] 28 5 1 ad53 64 c53 (aB1 ++ aB2) kRd rfl _ (Bs.of_own (z08 HQ.out bup)) (by omega)).mono ?_); intro e wr54 hr; obtain ⟨adm, cm, vsm, rfl, _, _, _, hb__⟩ := hr; (try (replace HG13 := ckk HG13 bup hb__)); (replace HE := cE0 HE bup hb__); clear HQ hb__; go_wp2_with fail)); refine hK.out _ _ (fun _ => ?_) (fun hHeld => ?_); (focus (exact hatE HE bup HG2)); replace hHeld := hHeld (by decide); clear hK K; (try simp only [PT])
  (refine tkT 12 7 (oi := ⟨some 47, _, _, _, _, _⟩) (v := ?_) rfl (by kernel_rfl) (.inl ⟨by rfl, ?_⟩) hHeld ?_; rotate_left; focus (intro w hSw; (try dsimp only at hSw); go_simp; try with_reducible rfl)); simp only [PT]; (refine tkT 12 8 (oi := ⟨some 55, _, _, _, _, _⟩) (v := ?_) rfl (by kernel_rfl) (.inl ⟨by rfl, ?_⟩) hHeld ?_; rotate_left; focus (intro w hSw; (try dsimp only at hSw); go_simp; try with_reducible rfl)); simp only [PT]; (refine tkT 12 9 (oi := ⟨some 56, _, _, _, _, _⟩) (v := ?_) rfl (by kernel_rfl) (.inl ⟨by rfl, ?_⟩) hHeld ?_; rotate_left; focus (intro w hSw; (try dsimp only at hSw); go_simp; try with_reducible rfl)); simp only [PT]; (refine tkT 12 11 (oi := ⟨some 12, _, _, _, _, _⟩) (v := ?_) rfl (by kernel_rfl) (.inl ⟨by rfl, ?_⟩) hHeld ?_; rotate_left; focus (intro w hSw; (try dsimp only at hSw); go_simp; try with_reducible rfl)); simp only [PT]; refine z0f (rs := [12]) (by kernel_rfl) (by simp) ?_; refine (AllReadyT.cons (o := ⟨none, _, _, _, _, _⟩) rfl (fun K hK => ?_) AllReadyT.nil); ((refine z0j rfl 49 (.tmp 13) (.tmp 56) rfl g13 (spotC (28, 5)).toArray rfl rfl (hatB HG13 bup) HSI.out rfl (z30 _) ?_); intro wst hs__ hr__; (replace HE := Hd ((HE.out.trans (Below.mono bup HE.out.size)).grown hr__ (HE.out.trans (Below.mono bup HE.out.size)).size (fun k e => (by cases e; exact ge13)))); clear HG13; have HG13 := Hd hs__; clear hs__ hr__); refine hK.out _ _ (fun h => absurd rfl h) (fun hHeld => ?_); clear hK K; (try simp only [PT]); refine z2a (by kernel_rfl) ?_ _; rotate_left; ((refine z2s rfl 49 rfl (.agg (spotC (0, 0)).toArray) (spotC (0, 0)).toArray 2 (by kernel_rfl) rfl ?_); intro w13 g13 le13 lt13 hg__ hb__; (have ge13 : wt11.heap.size ≤ g13 := Nat.le_trans HE.out.size (Nat.le_trans (bsz bup) le13)); have HG13 := Hd hg__; (try (replace HQ := Hd (z08 (z08 HQ.out bup) hb__))); (try (replace H52 := Hd (z08 (z08 H52.out bup) hb__))); (replace HE := cE0 HE bup hb__); clear hg__ hb__); refine hK.out _ _ (fun _ => ?_) (fun hHeld => ?_); (focus (exact hatE HE bup HG2)); replace hHeld := hHeld (by decide); clear hK K; (try simp only [PT]); refine z0f (rs := [0]) (by kernel_rfl) (by simp) ?_; refine (AllReadyT.cons (o := ⟨some 48, _, _, _, _, _⟩) rfl (fun K hK => ?_) AllReadyT.nil); ((refine step_lit0B rfl rfl ?_); intro wl48 gl48 le48 lt48 hown__ hb__; have HQ := Hd (z0r hown__ (Nat.le_trans HE.out.size (bsz bup))); (try (have hx52 : ∀ x, ad52 = some x → x.block ≠ gl48 := fun x hx => Nat.ne_of_lt (Nat.lt_of_lt_of_le (z18 (z08 H52.out bup) x hx).2 le48))); (try (replace H52 := Hd (z08 (z08 H52.out bup) hb__))); (try (replace HG13 := ckk HG13 bup hb__)); (replace HE := cE0 HE bup hb__); clear hown__ hb__); refine hK.out _ _ (fun _ => ?_) (fun hHeld => ?_); (focus (exact hatE HE bup HG2)); replace hHeld := hHeld (by decide); clear hK K; (try simp only [PT]); refine z0f (rs := [2]) (by kernel_rfl) (by simp) ?_; refine (AllReadyT.cons (o := ⟨some 50, _, _, _, _, _⟩) rfl (fun K hK => ?_) AllReadyT.nil); ((refine z1t elB rfl (.tmp 48) (.tmp 49) rfl wt11.heap.size rfl (z08 HQ.out bup) rfl ((HQB.out.below HE.out).below bup) (z11 _) 28 rfl (by unfold maxLen; omega) (by omega) (Nat.le_trans HE.out.size (bsz bup)) ?_); intro ad50 c50 w50 ho__ hg__; (try (replace H52 := Hd (own_no (z08 H52.out bup) hg__ hx52))); (try (replace HG13 := Hd (z1d (hatB HG13 bup) (z08 HQ.out bup) hg__ (by decide)))); (replace HE := cEa HE bup hg__ (z07 HQ.out)); clear HQ; have HQ := Hd (show World.ownsRow _ _ _ _ _ _ (BV aB1) from ho__); clear ho__ hg__; (try clear lt48)); refine hK.out _ _ (fun _ => ?_) (fun hHeld => ?_); (focus (exact hatE HE bup HG2)); replace hHeld := hHeld (by decide); clear hK K; (try simp only [PT]); refine z0f (rs := [4]) (by kernel_rfl) (by simp) ?_; refine (AllReadyT.cons (o := ⟨some 52, _, _, _, _, _⟩) rfl (fun K hK => ?_) AllReadyT.nil)
  (focus (go_simp; (refine (refBytes_p gd _ ((HD.out.below HE.out).below bup)).mono ?_); intro e wr52 hr; obtain ⟨ad52, c52, rfl, ho__, hb__⟩ := hr; (try (have hx52 : ∀ x, ad52 = some x → x.block ≠ gl48 := fun x hx => Nat.ne_of_gt (Nat.lt_of_lt_of_le lt48 (Nat.le_trans (bsz (w := wl48) bup) (z18 ho__ x hx).1)))); have H52 := Hd ho__; (try (replace HQ := Hd (z08 (z08 HQ.out bup) hb__))); (try (replace HG13 := ckk HG13 bup hb__)); (replace HE := cE0 HE bup hb__); clear ho__ hb__; go_wp2_with fail)); refine hK.out _ _ (fun _ => ?_) (fun hHeld => ?_); (focus (exact hatE HE bup HG2)); replace hHeld := hHeld (by decide); clear hK K; (try simp only [PT]); refine z0f (rs := [5]) (by kernel_rfl) (by simp) ?_; refine (AllReadyT.cons (o := ⟨some 53, _, _, _, _, _⟩) rfl (fun K hK => ?_) AllReadyT.nil); ((refine z1t elB rfl (.tmp 50) (.tmp 52) rfl wt11.heap.size rfl (z08 HQ.out bup) rfl ((Sl.of_own H52.out).below bup) (z11 _) 64 rfl (by unfold maxLen; omega) (by omega) (Nat.le_trans HE.out.size (bsz bup)) ?_); intro ad53 c53 w53 ho__ hg__; clear H52; (try (replace HG13 := Hd (z1d (hatB HG13 bup) (z08 HQ.out bup) hg__ (by decide)))); (replace HE := cEa HE bup hg__ (z07 HQ.out)); clear HQ; have HQ := Hd (show w53.ownsRow wt11.heap.size 5 1 (.slice ad53 64 c53) 64 (BV (aB1 ++ aB2)) from (by rw [z0i]; exact ho__)); clear ho__ hg__); refine hK.out _ _ (fun _ => ?_) (fun hHeld => ?_); (focus (exact hatE HE bup HG2)); replace hHeld := hHeld (by decide); clear hK K; (try simp only [PT]); refine z0f (rs := [6]) (by kernel_rfl) (by simp) ?_; refine (AllReadyT.cons (o := ⟨some 54, _, _, _, _, _⟩) rfl (fun K hK => ?_) AllReadyT.nil); (focus (go_simp; (refine (z2n [sS.val] 28 5 1 ad53 64 c53 (aB1 ++ aB2) kRd rfl _ (Bs.of_own (z08 HQ.out bup)) (by omega)).mono ?_); intro e wr54 hr; obtain ⟨adm, cm, vsm, rfl, _, _, _, hb__⟩ := hr; (try (replace HG13 := ckk HG13 bup hb__)); (replace HE := cE0 HE bup hb__); clear HQ hb__; go_wp2_with fail)); refine hK.out _ _ (fun _ => ?_) (fun hHeld => ?_); (focus (exact hatE HE bup HG2)); replace hHeld := hHeld (by decide); clear hK K; (try simp only [PT]); (refine tkT 12 7 (oi := ⟨some 47, _, _, _, _, _⟩) (v := ?_) rfl (by kernel_rfl) (.inl ⟨by rfl, ?_⟩) hHeld ?_; rotate_left; focus (intro w hSw; (try dsimp only at hSw); go_simp; try with_reducible rfl)); simp only [PT]; (refine tkT 12 8 (oi := ⟨some 55, _, _, _, _, _⟩) (v := ?_) rfl (by kernel_rfl) (.inl ⟨by rfl, ?_⟩) hHeld ?_; rotate_left; focus (intro w hSw; (try dsimp only at hSw); go_simp; try with_reducible rfl)); simp only [PT]; (refine tkT 12 9 (oi := ⟨some 56, _, _, _, _, _⟩) (v := ?_) rfl (by kernel_rfl) (.inl ⟨by rfl, ?_⟩) hHeld ?_; rotate_left; focus (intro w hSw; (try dsimp only at hSw); go_simp; try with_reducible rfl)); simp only [PT]; (refine tkT 12 11 (oi := ⟨some 12, _, _, _, _, _⟩) (v := ?_) rfl (by kernel_rfl) (.inl ⟨by rfl, ?_⟩) hHeld ?_; rotate_left; focus (intro w hSw; (try dsimp only at hSw); go_simp; try with_reducible rfl)); simp only [PT]; refine z0f (rs := [12]) (by kernel_rfl) (by simp) ?_; refine (AllReadyT.cons (o := ⟨none, _, _, _, _, _⟩) rfl (fun K hK => ?_) AllReadyT.nil); ((refine z0j rfl 49 (.tmp 13) (.tmp 56) rfl g13 (spotC (28, 5)).toArray rfl rfl (hatB HG13 bup) HSI.out rfl (z30 _) ?_); intro wst hs__ hr__; (replace HE := Hd ((HE.out.trans (Below.mono bup HE.out.size)).grown hr__ (HE.out.trans (Below.mono bup HE.out.size)).size (fun k e => (by cases e; exact ge13)))); clear HG13; have HG13 := Hd hs__; clear hs__ hr__); refine hK.out _ _ (fun h => absurd rfl h) (fun hHeld => ?_); clear hK K; (try simp only [PT]); refine z2a (by kernel_rfl) ?_ _; rotate_left
  all_goals
    have hb__ := HE.out
    have hE__ := cU HB bup hb__; replace HB := ck HB hE__; replace HG1 := ck HG1 hE__; replace HD := ck HD hE__; replace HG2 := ck HG2 hE__; replace HG3 := ck HG3 hE__; replace HQB := ck HQB hE__; replace HXL := ck HXL hE__; replace HG11 := ck HG11 hE__; clear hE__
    clear hb__ HE
    go_wp2_with (first
 | (go_at_call 34; (with_reducible show Calls _ _ #[Value.slice none 0 0] _ _); (refine (z2n [] 0 2 0 none 0 0 [] kRn rfl _ (Sl.nil _ _) (by omega)).mono ?_); intro e wc5 hr; obtain ⟨adn, cn, vsn, rfl, _, _, _, hb__⟩ := hr; have hE__ := cU HB bup hb__; replace HB := ck HB hE__; replace HG1 := ck HG1 hE__; replace HD := ck HD hE__; replace HG2 := ck HG2 hE__; replace HG3 := ck HG3 hE__; replace HXL := ck HXL hE__; replace HG11 := ck HG11 hE__; replace HG13 := ck HG13 hE__; clear hE__; clear hb__)
 | ((with_reducible refine sl 15 ?_); (refine z09 rfl 49 rfl (.agg (spotC (0, 0)).toArray) (spotC (0, 0)).toArray 2 (by kernel_rfl) rfl ?_); intro ws15 g15 he__ le_g15 lt_g15 hg__ hb__; have HG15 := Hd hg__; have HE15 := Hd hb__; clear hg__ hb__ he__; simp only [PT])
 | ((with_reducible show wpList _ _ _ (⟨none, .store _ (.tmp 15) (.tmp 60), _, _, _, _⟩ :: _) _ _); (refine z02 rfl 49 (.tmp 15) (.tmp 60) rfl g15 (spotC (0, 2)).toArray rfl rfl HG15.out HSI.out rfl (z30 _) ?_); intro wt15 hs__ hr__; (have hb__ := HE15.out.grown hr__ HE15.out.size (fun k e => (by cases e; exact le_g15))); (have hE__ := cU HB bup hb__; replace HB := ck HB hE__; replace HG1 := ck HG1 hE__; replace HD := ck HD hE__; replace HG2 := ck HG2 hE__; replace HG3 := ck HG3 hE__; replace HXL := ck HXL hE__; replace HG11 := ck HG11 hE__; replace HG13 := ck HG13 hE__; clear hE__); clear HG15 HE15; have HG15 := Hd hs__; clear hs__ hr__ hb__; simp only [PT])
 | ((with_reducible refine sl 61 ?_); (refine z05 rfl 27 (.tmp 1) rfl g1 0 rfl (sS.cells) _ (z00 HG1.out) Try.underlying27 rfl HBI.out ?_); simp only [PT])
 | ((with_reducible refine sl 62 ?_); (refine z05 rfl 27 (.tmp 3) rfl g3 0 rfl (xV.cells) _ (z00 HG3.out) Try.underlying27 rfl HBI.out ?_); simp only [PT])
 | ((with_reducible refine sl 63 ?_); (refine z05 rfl 27 (.tmp 2) rfl g2 0 rfl ((pV gd).cells) _ (z00 HG2.out) Try.underlying27 rfl HBI.out ?_); simp only [PT])
 | ((with_reducible refine sl 64 ?_); (refine wpL_litK rfl 3 _ rfl [sS, xV, pV gd] rfl (by omega) (by omega) (blk3K (HD.out.below bup)) (by kernel_rfl) ?_); intro wl64 gl64 le_ lt_ hbl__ hb__; have HL64 := Hd hbl__; have hE__ := cU HB bup hb__; replace HB := ck HB hE__; replace HG1 := ck HG1 hE__; replace HD := ck HD hE__; replace HG2 := ck HG2 hE__; replace HG3 := ck HG3 hE__; replace HXL := ck HXL hE__; replace HG11 := ck HG11 hE__; replace HG13 := ck HG13 hE__; replace HG15 := ck HG15 hE__; clear hE__; clear hbl__ hb__ le_ lt_; simp only [PT])
 | (go_at_call 37; (refine (aw_frames gl64 gd _ (HL64.out.below bup)).mono ?_); intro e wc6 hr; obtain ⟨adf, cf, fr, rfl, hfl, hfr, hb__⟩ := hr; obtain ⟨bf, off, rfl, _, hat__⟩ := hfr.at (by show 0 < 1; omega); have HFA := Hd (hat__ 0 (by show 0 < 1; omega)); have HFL := Hd hfl.1; have HFD := Hd (show Bs _ fr.ad fr.n fr.c [1, 2] from hfl.2 ▸ hfr.2 fr (by simp)); clear hfl hat__ hfr; have hE__ := cU HB bup hb__; replace HB := ck HB hE__; replace HXL := ck HXL hE__; replace HG11 := ck HG11 hE__; replace HG13 := ck HG13 hE__; replace HG15 := ck HG15 hE__; clear hE__; clear hb__)
 | ((with_reducible refine sl 82 ?_); (refine z05 rfl 49 (.tmp 11) rfl g11 0 rfl (spotC (0, 0)) _ (z00 HG11.out) Try.underlying49 rfl HSI.out ?_); simp only [PT])
 | ((with_reducible refine sl 84 ?_); (refine z3f (0, 0) (0, 0) true (by simp) rfl (.tmp 82) (.tmp 83) rfl rfl rfl ?_); simp only [PT])
 | ((with_reducible refine sl 97 ?_); (refine z05 rfl 49 (.tmp 13) rfl g13 0 rfl (spotC (28, 5)) _ (z00 HG13.out) Try.underlying49 rfl HSI.out ?_); simp only [PT])
 | ((with_reducible refine sl 99 ?_); (refine z3f (28, 5) (28, 5) true (by simp) rfl (.tmp 97) (.tmp 98) rfl rfl rfl ?_); simp only [PT])
 | ((with_reducible refine sl 102 ?_); (refine z05 rfl 49 (.tmp 15) rfl g15 0 rfl (spotC (0, 2)) _ (z00 HG15.out) Try.underlying49 rfl HSI.out ?_); simp only [PT])
 | ((with_reducible refine sl 104 ?_); (refine z3f (0, 2) (0, 2) true (by simp) rfl (.tmp 102) (.tmp 103) rfl rfl rfl ?_); simp only [PT])
 | ((with_reducible refine sl 115 ?_); (refine z2e rfl 3 (.tmp 114) rfl bf (off + 0 * 5 + 3) rfl (.int .i64 5) (HFA.out 3 _ (by show some (Value.int .i64 ((fr.len : Nat) : Int)) = _; rw [HFL.out]; rfl)) Try.underlying3 rfl ?_); simp only [PT])
 | ((with_reducible refine sl 122 ?_); (refine z2e rfl 24 (.tmp 121) rfl bf (off + 0 * 5 + 4) rfl (.slice fr.ad fr.n fr.c) (HFA.out 4 _ rfl) Try.underlying24 rfl ?_); simp only [PT])
 | ((with_reducible refine sl 123 ?_); (refine z2h elB.1 (by kernel_rfl) (by kernel_rfl) rfl (.tmp 122) rfl rfl (HFD.out.below bup) ?_); rw [show strOf [1, 2] = ⟨#[1, 2]⟩ from rfl]; simp only [PT])
 | (go_at_call 32; (with_reducible show Calls _ _ #[Value.slice adl 3 _] _ _); (refine (pcRight_at true adl 3 cl vsl (by rw [HVL.out]; exact kR3) _ (HXL.out.below bup) (by omega) (short3 HXL.out.2 HVL.out)).mono ?_); intro e wc7 hr; obtain ⟨rfl, hb__⟩ := hr; have hE__ := cU HB bup hb__; replace HB := ck HB hE__; replace HXL := ck HXL hE__; replace HG11 := ck HG11 hE__; replace HG13 := ck HG13 hE__; replace HG15 := ck HG15 hE__; replace HFA := ck HFA hE__; replace HFD := ck HFD hE__; clear hE__; clear hb__)
 | (go_at_call 32; (with_reducible show Calls _ _ #[Value.slice none 0 0] _ _); (refine (pcRight_at false none 0 0 [] rfl _ (Blks.nil _) (by omega) (fun v hv => by simp at hv)).mono ?_); intro e wc8 hr; obtain ⟨rfl, hb__⟩ := hr; have hE__ := cU HB bup hb__; replace HB := ck HB hE__; replace HXL := ck HXL hE__; replace HG11 := ck HG11 hE__; replace HG13 := ck HG13 hE__; replace HG15 := ck HG15 hE__; replace HFA := ck HFA hE__; replace HFD := ck HFD hE__; clear hE__; clear hb__))
    go_ret
    exact ⟨rfl, HB.out⟩
end Go.Proofs.Ytmfplinbbcoahaa
