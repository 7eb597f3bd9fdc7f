/-
  Joined by program (merge.py): RefPc5, PcLawD.
-/
import Derived.Test.YtmfplinbbcoahaaM10
import Derived.Test.YtmfplinbbcoahaaM11
import Derived.Test.YtmfplinbbcoahaaM13
import Derived.Test.YtmfplinbbcoahaaM14
set_option linter.unusedVariables false
set_option linter.unusedSimpArgs false
set_option maxRecDepth 100000
set_option maxHeartbeats 16000000
namespace Go.Proofs.Ytmfplinbbcoahaa
open Go.RowKit Go.Sort
theorem framesR_snoc (s : PS) (a : List PB) (x : PB) : framesR s (a ++ [x]) = framesR s a ++ frameS (stS s a) x := by rw [framesR_append]; simp [framesR]
theorem may4 {x : PB} (h : mayP x = true) (hk : x.kind = 4) : x.iface = 0 ∧ x.time = 0 := by
  have := ((mayP_iff x).1 h).2.1
  simp [fitsP, hk] at this
  omega
theorem frame3 (s : PS) (x : PB) (h : x.kind = 3) : frameS s x = [⟨s.sec, x.iface, x.time, x.len, x.data⟩] := by unfold frameS; rw [if_pos h]
theorem frame4 (s : PS) (x : PB) (h : x.kind = 4) (hm : mayP x = true) (T : Nat) (L : List Nat) (hs : s.snaps = T :: L) (D : List UInt8) (hD : D = if T = 0 then x.data else x.data.take T) : frameS s x = [⟨s.sec, 0, 0, x.len, D⟩] := by
  obtain ⟨h1, h2⟩ := may4 hm h
  unfold frameS
  rw [if_neg (by omega), if_pos h, hs, h1, h2, hD]
  rfl
theorem us_first {w : World} {ad : Option Addr} {n c T : Nat} {L : List Nat} (h : Us w ad n c (T :: L)) : ∃ b off, ad = some ⟨b, off, none⟩ ∧ w.cell? ⟨b, off, none⟩ = some (.int .u32 (T : Int)) ∧ 0 < n := by
  obtain ⟨b, off, ha, hb, hc⟩ := Sl.at (j := 0) h (by simp [UV])
  have := hc 0 (by simp [UV])
  rw [Nat.add_zero] at this
  have hl := Us.len h
  simp at hl
  exact ⟨b, off, ha, this, by omega⟩
theorem cellsOther {w w' : World} {base k : Nat} {e ty : TypeId} {size : Nat} {ad : Option Addr} {n c : Nat} {xs : List Value} {cs : Array Value} {fz : Nat × Nat} (h : w.heap[k]? = some (.cells cs ty fz)) (ho : w.ownsRow base e size (.slice ad n c) n xs) (hg : w.grownBy w' (Value.ownBlock (.slice ad n c))) (hne : ty ≠ e) : w'.heap[k]? = some (.cells cs ty fz) :=
  (hg.block k (lt_of_block h) (fun e' => by
    rcases ho.2 with ⟨h0, _⟩ | ⟨r, cap, cur, hv, _, hr, _⟩
    · rw [h0] at e'; simp [Value.ownBlock] at e'
    · rw [hv] at e'
      simp [Value.ownBlock] at e'
      subst e'
      rw [hr] at h
      cases h
      exact hne rfl)).trans h
theorem frame0 (s : PS) (x : PB) (h3 : ¬ x.kind = 3) (h4 : ¬ x.kind = 4) : frameS s x = [] := by unfold frameS; rw [if_neg h3, if_neg h4]
theorem refFramesC_any (ad : Option Addr) (n c : Nat) (vs : List BlkV) (w : World) (hv : Blks w ad n c vs) (hn : n ≤ 1000000) (hall : ∀ v ∈ vs, SmB v ∧ wfB v.val) (hr : allS noS (bvals vs) = true) :
    Calls Try.prog 39 #[.slice ad n c] w fun e w' => ∃ ad c fs, e = .returned (.slice ad fs.length c) ∧ Frs w' ad fs.length c fs ∧ fs.map FrV.val = framesR noS (bvals vs) ∧ fs.length ≤ n ∧ Below w.heap.size w w' := by
  have HV := Hd hv
  have HLN := Hd hv.len
  have HBI := Hd blk_info
  have HZI := Hd zero_info
  have HALL := Hd hall
  have HRT := Hd hr
  clear hv hall hr
  go_enter Try.func39, Try.ntmps39
  go_wp2
  go_loopw [3, 4] (fun o i wr => ∃ (k : Nat) (ad' : Option Addr) (c' : Nat) (fs : List FrV), k ≤ n ∧ i = .int .i64 (k : Int) ∧ o = .slice ad' fs.length c' ∧ fs.length ≤ k ∧ Hid (fs.map FrV.val = framesR noS (bvals (vs.take k))) ∧ Hid (wr.ownsRow w.heap.size 59 5 (.slice ad' fs.length c') fs.length (fcells fs)) ∧ Hid (∀ v ∈ fs, Bs w v.ad v.n v.c v.l) ∧ Hid (Below w.heap.size w wr)) (fun _ i _ => n - (intOf i).toNat)
  case atStart => exact ⟨0, none, 0, [], by omega, rfl, rfl, by simp, Hd rfl, Hd (World.ownsRow_nil _ _ _ _), Hd (fun v hv => by simp at hv), Hd (Below.refl _ _)⟩
  case round =>
    obtain ⟨k, ad', c', fs, hk, rfl, rfl, hfk, HM, HO, HF, HB⟩ := hrel
    by_cases hend : k = n
    · subst hend
      have HT : Hid (vs.take k = vs) := Hd (by rw [HLN.out, List.take_length])
      have HE : Hid (fs.map FrV.val = framesR noS (bvals vs)) := Hd (by rw [HM.out, HT.out])
      go_wp2
      go_ret
      exact ⟨ad', c', fs, rfl, ⟨Sl.of_own HO.out, fun v hv => (HF.out v hv).below HB.out⟩, HE.out, hfk, HB.out⟩
    · have hlt : k < n := by omega
      obtain ⟨x, hx⟩ : ∃ x, x = vs[k]'(by have := HLN.out; omega) := ⟨_, rfl⟩
      have HW := Hd (HALL.out x (by rw [hx]; exact List.getElem_mem _))
      have hBX := HV.out.2 x (by rw [hx]; exact List.getElem_mem _)
      have HBX := Hd hBX
      have hle := Bs.le hBX.1
      have hl32 : x.len < 4294967296 := HW.out.2.2.2.2
      have HDL := Hd hBX.1.len
      have HTK : Hid (bvals (vs.take (k + 1)) = bvals (vs.take k) ++ [x.val]) := Hd (by rw [hx]; exact bvals_take vs k (by have := HLN.out; omega))
      have HSP : Hid (bvals vs = bvals (vs.take k) ++ (x.val :: bvals (vs.drop (k + 1)))) := Hd (by rw [hx]; exact bvals_split vs k (by have := HLN.out; omega))
      obtain ⟨b, off, rfl, hbl, hat⟩ := (HV.out.below HB.out).at (by have := HLN.out; omega)
      have HR := Hd (show wr.rangeAt b (off + k * 11) x.cells by rw [hx]; exact hat k (by have := HLN.out; omega))
      have HSB := Hd (st_small noS (bvals (vs.take k)) (by simp [noS]) (fun z hz => by
        obtain ⟨u, hu, rfl⟩ := List.mem_map.1 hz
        exact (HALL.out u (List.mem_of_mem_take hu)).2.2.1))
      clear hx hat hBX
      obtain ⟨S, B, SL, hs⟩ : ∃ S B L, stS noS (bvals (vs.take k)) = ⟨S, B, L⟩ := ⟨_, _, _, rfl⟩
      obtain ⟨N, hN⟩ : ∃ N, SL.length = N := ⟨_, rfl⟩
      have HST := Hd hs
      have HN := Hd hN
      have hgo : goS (stS noS (bvals (vs.take k))) x.val = true := by
        have h := HRT.out
        rw [HSP.out, allS_append, Bool.and_eq_true] at h
        have h2 := h.2
        simp only [allS, Bool.and_eq_true] at h2
        exact h2.1
      have HGO := Hd (goS_parts hgo)
      rw [hs] at HSB
      clear hs hN hgo
      have HC5 : Hid (x.cells.toArray[5]? = some (.int .i64 x.iface)) := Hd rfl
      by_cases hk3 : x.kind = 3
      · have HC0 : Hid (x.cells.toArray[0]? = some (.int .i64 3)) := Hd (by rw [← hk3]; rfl)
        have HFR := Hd (frame3 ⟨S, B, SL⟩ x.val hk3)
        clear hk3
        go_wp2_with (first
 | (go_at_call 66; (refine (snaps_at S B SL N (some ⟨b, off, none⟩) n c vs k HST.out HN.out _ (HV.out.below HB.out) hn (by omega)).mono ?_); intro e w6 hr; obtain ⟨sad, sc, rfl, hsn, hb__⟩ := hr; have hE__ := cU HB bup hb__; replace HB := ck HB hE__; replace HO := ck HO hE__; replace HR := ck HR hE__; clear hE__; clear hb__ hsn)
 | ((with_reducible refine sl 26 ?_); (refine wpL_load rfl 27 (.tmp 25) rfl b (off + k * 11) rfl x.cells _ HR.out Try.underlying27 rfl HBI.out ?_); simp only [PT])
 | ((with_reducible refine sl 8 ?_); (refine wpL_newN rfl rfl 27 rfl (.tmp 8) (.tmp 26) rfl x.cells.toArray _ HZI.out rfl (bcells_all _) (fun _ => rfl) (fun _ => rfl) ?_); intro w8 g8 le_g8 lt_g8 hg__ hb__; have HG8 := Hd hg__; have hE__ := cU HB bup hb__; replace HB := ck HB hE__; replace HO := ck HO hE__; clear hE__; clear hg__ hb__; simp only [PT])
 | ((with_reducible refine sl 28 ?_); (refine wpL_loadF rfl 3 (.tmp 27) rfl g8 0 rfl (.int .i64 3) HG8.out HC0.out Try.underlying3 rfl ?_); simp only [PT])
 | ((with_reducible refine sl 45 ?_); (refine wpL_loadF rfl 3 (.tmp 44) rfl g8 0 rfl (.int .i64 3) HG8.out HC0.out Try.underlying3 rfl ?_); simp only [PT])
 | ((with_reducible refine sl 33 ?_); (refine wpL_loadF rfl 3 (.tmp 32) rfl g8 5 rfl (.int .i64 x.iface) HG8.out HC5.out Try.underlying3 rfl ?_); simp only [PT])
 | ((with_reducible refine sl 35 ?_); (refine wpL_loadF rfl 23 (.tmp 34) rfl g8 6 rfl (.int .u64 (x.time : Int)) HG8.out rfl Try.underlying23 rfl ?_); simp only [PT])
 | ((with_reducible refine sl 37 ?_); (refine wpL_loadF rfl 22 (.tmp 36) rfl g8 7 rfl (.int .u32 (x.len : Int)) HG8.out rfl Try.underlying22 rfl ?_); simp only [PT])
 | ((with_reducible refine sl 40 ?_); (refine wpL_loadF rfl 24 (.tmp 39) rfl g8 8 rfl (.slice x.dad x.dn x.dc) HG8.out rfl Try.underlying24 rfl ?_); simp only [PT])
 | ((with_reducible refine sl 42 ?_); (refine wpL_lit1 rfl 56 59 (.tmp 41) rfl (⟨S, x.iface, x.time, x.len, x.dad, x.dn, x.dc, x.dl⟩ : FrV).cells.toArray _ rfl 5 Try.underlying56 fr_zero (by omega) (by omega) (fill_frame (⟨S, x.iface, x.time, x.len, x.dad, x.dn, x.dc, x.dl⟩ : FrV)) ?_); intro w11 gL le_gL lt_gL hg__ hb__; have HLT := Hd hg__; have hE__ := cU HB bup hb__; replace HB := ck HB hE__; replace HO := ck HO hE__; replace HG8 := ck HG8 hE__; clear hE__; clear hg__ hb__; simp only [PT])
 | ((with_reducible refine sl 43 ?_); (refine wpL_append elF rfl (.tmp 30) (.tmp 42) rfl w.heap.size rfl HO.out rfl (sl_block (cs := (⟨S, x.iface, x.time, x.len, x.dad, x.dn, x.dc, x.dl⟩ : FrV).cells) HLT.out) (FrV.one (⟨S, x.iface, x.time, x.len, x.dad, x.dn, x.dc, x.dl⟩ : FrV)) (by unfold maxLen; omega) (by omega) HB.out.size ?_); intro ad9 c9 w9 ho__ hg__ _ _; (replace HB := Hd (HB.out.grown hg__ HB.out.size (ownBlock_ge HO.out))); (replace HG8 := Hd (cellsOther HG8.out HO.out hg__ (by decide))); clear HO; have HO := Hd ho__; clear ho__ hg__ HLT; simp only [PT]))
        go_roundw
        case rel => exact ⟨k + 1, ad9, c9, fs ++ [(⟨S, x.iface, x.time, x.len, x.dad, x.dn, x.dc, x.dl⟩ : FrV)], by omega, by go_num, by simp, by simp; omega, Hd (by rw [HTK.out, framesR_snoc, HST.out, List.map_append, HM.out, HFR.out]; rfl), Hd (by have h := HO.out; simpa [fcells_snoc] using h), Hd (fun v hv => by rcases List.mem_append.1 hv with h | h; exact HF.out v h; simp at h; rw [h]; exact HBX.out.1), HB⟩
        case measure => first | (simp [intOf]; done) | (simp [intOf]; omega)
      by_cases hk4 : x.kind = 4
      · have HC0 : Hid (x.cells.toArray[0]? = some (.int .i64 4)) := Hd (by rw [← hk4]; rfl)
        obtain ⟨T, L, hSL⟩ : ∃ T L, SL = T :: L := by
          have h := HGO.out.1
          rw [HST.out] at h
          have hs0 : 0 ≤ S := by
            by_cases h' : S < 0
            · exfalso
              rw [okS_neg (show ¬ x.val.kind = 1 by show ¬ x.kind = 1; omega) h'] at h
              cases h
            · omega
          rw [okS_4 hk4 hs0] at h
          cases SL with
          | nil => simp at h
          | cons T L => exact ⟨T, L, rfl⟩
        have HSL := Hd hSL
        have hT : T < 4294967296 := HSB.out T (by rw [hSL]; simp)
        have HF4 := Hd (frame4 ⟨S, B, SL⟩ x.val hk4 HGO.out.2.1 T L hSL)
        clear hk4 hSL
        by_cases hT0 : T = 0
        · have HFR := Hd (HF4.out x.dl (by rw [if_pos hT0]; rfl))
          subst hT0
          go_wp2_with (first
 | (go_at_call 66; (refine (snaps_at S B SL N (some ⟨b, off, none⟩) n c vs k HST.out HN.out _ (HV.out.below HB.out) hn (by omega)).mono ?_); intro e w6 hr; obtain ⟨sad, sc, rfl, hsn, hb__⟩ := hr; (rw [HSL.out] at hsn); (obtain ⟨gu, ou, rfl, hcu, hn0⟩ := us_first hsn); have HSN := Hd hsn; clear hcu; have hE__ := cU HB bup hb__; replace HB := ck HB hE__; replace HO := ck HO hE__; replace HR := ck HR hE__; clear hE__; clear hb__ hsn)
 | ((with_reducible refine sl 26 ?_); (refine wpL_load rfl 27 (.tmp 25) rfl b (off + k * 11) rfl x.cells _ HR.out Try.underlying27 rfl HBI.out ?_); simp only [PT])
 | ((with_reducible refine sl 8 ?_); (refine wpL_newN rfl rfl 27 rfl (.tmp 8) (.tmp 26) rfl x.cells.toArray _ HZI.out rfl (bcells_all _) (fun _ => rfl) (fun _ => rfl) ?_); intro w8 g8 le_g8 lt_g8 hg__ hb__; have HG8 := Hd hg__; have hE__ := cU HB bup hb__; replace HB := ck HB hE__; replace HO := ck HO hE__; replace HSN := ck HSN hE__; clear hE__; clear hg__ hb__; simp only [PT])
 | ((with_reducible refine sl 28 ?_); (refine wpL_loadF rfl 3 (.tmp 27) rfl g8 0 rfl (.int .i64 4) HG8.out HC0.out Try.underlying3 rfl ?_); simp only [PT])
 | ((with_reducible refine sl 45 ?_); (refine wpL_loadF rfl 3 (.tmp 44) rfl g8 0 rfl (.int .i64 4) HG8.out HC0.out Try.underlying3 rfl ?_); simp only [PT])
 | ((with_reducible refine sl 48 ?_); (refine wpL_loadF rfl 24 (.tmp 47) rfl g8 8 rfl (.slice x.dad x.dn x.dc) HG8.out rfl Try.underlying24 rfl ?_); simp only [PT])
 | ((with_reducible refine sl 70 ?_); (refine wpL_loadF rfl 22 (.tmp 69) rfl g8 7 rfl (.int .u32 (x.len : Int)) HG8.out rfl Try.underlying22 rfl ?_); simp only [PT])
 | ((with_reducible refine sl 51 ?_); (refine wpL_loadC rfl 22 (.tmp 50) rfl gu ou rfl (.int .u32 ((0 : Nat) : Int)) (by obtain ⟨_, _, h1, h2, _⟩ := us_first HSN.out; cases h1; exact h2) Try.underlying22 rfl ?_); simp only [PT])
 | ((with_reducible refine sl 56 ?_); (refine wpL_loadC rfl 22 (.tmp 55) rfl gu ou rfl (.int .u32 ((0 : Nat) : Int)) (by obtain ⟨_, _, h1, h2, _⟩ := us_first HSN.out; cases h1; exact h2) Try.underlying22 rfl ?_); simp only [PT])
 | ((with_reducible refine sl 65 ?_); (refine wpL_loadC rfl 22 (.tmp 64) rfl gu ou rfl (.int .u32 ((0 : Nat) : Int)) (by obtain ⟨_, _, h1, h2, _⟩ := us_first HSN.out; cases h1; exact h2) Try.underlying22 rfl ?_); simp only [PT])
 | ((with_reducible refine sl 74 ?_); (refine wpL_lit1 rfl 56 59 (.tmp 73) rfl (⟨S, 0, 0, x.len, x.dad, x.dn, x.dc, x.dl⟩ : FrV).cells.toArray _ rfl 5 Try.underlying56 fr_zero (by omega) (by omega) (fill_frame (⟨S, 0, 0, x.len, x.dad, x.dn, x.dc, x.dl⟩ : FrV)) ?_); intro w11 gL le_gL lt_gL hg__ hb__; have HLT := Hd hg__; have hE__ := cU HB bup hb__; replace HB := ck HB hE__; replace HO := ck HO hE__; replace HG8 := ck HG8 hE__; clear hE__; clear hg__ hb__; simp only [PT])
 | ((with_reducible refine sl 75 ?_); (refine wpL_append elF rfl (.tmp 67) (.tmp 74) rfl w.heap.size rfl HO.out rfl (sl_block (cs := (⟨S, 0, 0, x.len, x.dad, x.dn, x.dc, x.dl⟩ : FrV).cells) HLT.out) (FrV.one (⟨S, 0, 0, x.len, x.dad, x.dn, x.dc, x.dl⟩ : FrV)) (by unfold maxLen; omega) (by omega) HB.out.size ?_); intro ad9 c9 w9 ho__ hg__ _ _; (replace HB := Hd (HB.out.grown hg__ HB.out.size (ownBlock_ge HO.out))); (replace HG8 := Hd (cellsOther HG8.out HO.out hg__ (by decide))); clear HO; have HO := Hd ho__; clear ho__ hg__ HLT; simp only [PT]))
          go_roundw
          case rel => exact ⟨k + 1, ad9, c9, fs ++ [(⟨S, 0, 0, x.len, x.dad, x.dn, x.dc, x.dl⟩ : FrV)], by omega, by go_num, by simp, by simp; omega, Hd (by rw [HTK.out, framesR_snoc, HST.out, List.map_append, HM.out, HFR.out]; rfl), Hd (by have h := HO.out; simpa [fcells_snoc] using h), Hd (fun v hv => by rcases List.mem_append.1 hv with h | h; exact HF.out v h; simp at h; rw [h]; exact HBX.out.1), HB⟩
          case measure => first | (simp [intOf]; done) | (simp [intOf]; omega)
        have hd1 : ((T : Int) != 0) = true := by simpa using hT0
        have hd2 : (T != 0) = true := by simpa using hT0
        have hd3 : decide ((T : Int) = 0) = false := by simpa using hT0
        by_cases hTd : T < x.dn
        · have HFR := Hd (HF4.out (x.dl.take T) (by rw [if_neg hT0]; rfl))
          go_wp2_with (first
 | (go_at_call 66; (refine (snaps_at S B SL N (some ⟨b, off, none⟩) n c vs k HST.out HN.out _ (HV.out.below HB.out) hn (by omega)).mono ?_); intro e w6 hr; obtain ⟨sad, sc, rfl, hsn, hb__⟩ := hr; (rw [HSL.out] at hsn); (obtain ⟨gu, ou, rfl, hcu, hn0⟩ := us_first hsn); have HSN := Hd hsn; clear hcu; have hE__ := cU HB bup hb__; replace HB := ck HB hE__; replace HO := ck HO hE__; replace HR := ck HR hE__; clear hE__; clear hb__ hsn)
 | ((with_reducible refine sl 26 ?_); (refine wpL_load rfl 27 (.tmp 25) rfl b (off + k * 11) rfl x.cells _ HR.out Try.underlying27 rfl HBI.out ?_); simp only [PT])
 | ((with_reducible refine sl 8 ?_); (refine wpL_newN rfl rfl 27 rfl (.tmp 8) (.tmp 26) rfl x.cells.toArray _ HZI.out rfl (bcells_all _) (fun _ => rfl) (fun _ => rfl) ?_); intro w8 g8 le_g8 lt_g8 hg__ hb__; have HG8 := Hd hg__; have hE__ := cU HB bup hb__; replace HB := ck HB hE__; replace HO := ck HO hE__; replace HSN := ck HSN hE__; clear hE__; clear hg__ hb__; simp only [PT])
 | ((with_reducible refine sl 28 ?_); (refine wpL_loadF rfl 3 (.tmp 27) rfl g8 0 rfl (.int .i64 4) HG8.out HC0.out Try.underlying3 rfl ?_); simp only [PT])
 | ((with_reducible refine sl 45 ?_); (refine wpL_loadF rfl 3 (.tmp 44) rfl g8 0 rfl (.int .i64 4) HG8.out HC0.out Try.underlying3 rfl ?_); simp only [PT])
 | ((with_reducible refine sl 48 ?_); (refine wpL_loadF rfl 24 (.tmp 47) rfl g8 8 rfl (.slice x.dad x.dn x.dc) HG8.out rfl Try.underlying24 rfl ?_); simp only [PT])
 | ((with_reducible refine sl 70 ?_); (refine wpL_loadF rfl 22 (.tmp 69) rfl g8 7 rfl (.int .u32 (x.len : Int)) HG8.out rfl Try.underlying22 rfl ?_); simp only [PT])
 | ((with_reducible refine sl 51 ?_); (refine wpL_loadC rfl 22 (.tmp 50) rfl gu ou rfl (.int .u32 (T : Int)) (by obtain ⟨_, _, h1, h2, _⟩ := us_first HSN.out; cases h1; exact h2) Try.underlying22 rfl ?_); simp only [PT])
 | ((with_reducible refine sl 56 ?_); (refine wpL_loadC rfl 22 (.tmp 55) rfl gu ou rfl (.int .u32 (T : Int)) (by obtain ⟨_, _, h1, h2, _⟩ := us_first HSN.out; cases h1; exact h2) Try.underlying22 rfl ?_); simp only [PT])
 | ((with_reducible refine sl 65 ?_); (refine wpL_loadC rfl 22 (.tmp 64) rfl gu ou rfl (.int .u32 (T : Int)) (by obtain ⟨_, _, h1, h2, _⟩ := us_first HSN.out; cases h1; exact h2) Try.underlying22 rfl ?_); simp only [PT])
 | ((with_reducible refine sl 66 ?_); (refine wpL_sliceG elB rfl (.tmp 62) none (some (.tmp 65)) rfl rfl 0 T (.inl ⟨rfl, rfl⟩) (.inr ⟨.u32, rfl⟩) (by omega) (by omega) T x.dc (by omega) (by omega) ?_); intro adS hadS; (have HSL2 := Hd (Bs.partG HBX.out.1 0 T T x.dc (by omega) (by omega) (by omega) (by omega) adS hadS (x.dl.take T) (by rw [List.drop_zero]))); clear hadS; simp only [PT])
 | ((with_reducible refine sl 74 ?_); (refine wpL_lit1 rfl 56 59 (.tmp 73) rfl (⟨S, 0, 0, x.len, adS, T, x.dc, x.dl.take T⟩ : FrV).cells.toArray _ rfl 5 Try.underlying56 fr_zero (by omega) (by omega) (fill_frame (⟨S, 0, 0, x.len, adS, T, x.dc, x.dl.take T⟩ : FrV)) ?_); intro w11 gL le_gL lt_gL hg__ hb__; have HLT := Hd hg__; have hE__ := cU HB bup hb__; replace HB := ck HB hE__; replace HO := ck HO hE__; replace HG8 := ck HG8 hE__; clear hE__; clear hg__ hb__; simp only [PT])
 | ((with_reducible refine sl 75 ?_); (refine wpL_append elF rfl (.tmp 67) (.tmp 74) rfl w.heap.size rfl HO.out rfl (sl_block (cs := (⟨S, 0, 0, x.len, adS, T, x.dc, x.dl.take T⟩ : FrV).cells) HLT.out) (FrV.one (⟨S, 0, 0, x.len, adS, T, x.dc, x.dl.take T⟩ : FrV)) (by unfold maxLen; omega) (by omega) HB.out.size ?_); intro ad9 c9 w9 ho__ hg__ _ _; (replace HB := Hd (HB.out.grown hg__ HB.out.size (ownBlock_ge HO.out))); (replace HG8 := Hd (cellsOther HG8.out HO.out hg__ (by decide))); clear HO; have HO := Hd ho__; clear ho__ hg__ HLT; simp only [PT]))
          go_roundw
          case rel => exact ⟨k + 1, ad9, c9, fs ++ [(⟨S, 0, 0, x.len, adS, T, x.dc, x.dl.take T⟩ : FrV)], by omega, by go_num, by simp, by simp; omega, Hd (by rw [HTK.out, framesR_snoc, HST.out, List.map_append, HM.out, HFR.out]; rfl), Hd (by have h := HO.out; simpa [fcells_snoc] using h), Hd (fun v hv => by rcases List.mem_append.1 hv with h | h; exact HF.out v h; simp at h; rw [h]; exact HSL2.out), HB⟩
          case measure => first | (simp [intOf]; done) | (simp [intOf]; omega)
        have HFR := Hd (HF4.out x.dl (by rw [if_neg hT0]; exact (List.take_of_length_le (by have := HDL.out; show x.dl.length ≤ T; omega)).symm))
        go_wp2_with (first
 | (go_at_call 66; (refine (snaps_at S B SL N (some ⟨b, off, none⟩) n c vs k HST.out HN.out _ (HV.out.below HB.out) hn (by omega)).mono ?_); intro e w6 hr; obtain ⟨sad, sc, rfl, hsn, hb__⟩ := hr; (rw [HSL.out] at hsn); (obtain ⟨gu, ou, rfl, hcu, hn0⟩ := us_first hsn); have HSN := Hd hsn; clear hcu; have hE__ := cU HB bup hb__; replace HB := ck HB hE__; replace HO := ck HO hE__; replace HR := ck HR hE__; clear hE__; clear hb__ hsn)
 | ((with_reducible refine sl 26 ?_); (refine wpL_load rfl 27 (.tmp 25) rfl b (off + k * 11) rfl x.cells _ HR.out Try.underlying27 rfl HBI.out ?_); simp only [PT])
 | ((with_reducible refine sl 8 ?_); (refine wpL_newN rfl rfl 27 rfl (.tmp 8) (.tmp 26) rfl x.cells.toArray _ HZI.out rfl (bcells_all _) (fun _ => rfl) (fun _ => rfl) ?_); intro w8 g8 le_g8 lt_g8 hg__ hb__; have HG8 := Hd hg__; have hE__ := cU HB bup hb__; replace HB := ck HB hE__; replace HO := ck HO hE__; replace HSN := ck HSN hE__; clear hE__; clear hg__ hb__; simp only [PT])
 | ((with_reducible refine sl 28 ?_); (refine wpL_loadF rfl 3 (.tmp 27) rfl g8 0 rfl (.int .i64 4) HG8.out HC0.out Try.underlying3 rfl ?_); simp only [PT])
 | ((with_reducible refine sl 45 ?_); (refine wpL_loadF rfl 3 (.tmp 44) rfl g8 0 rfl (.int .i64 4) HG8.out HC0.out Try.underlying3 rfl ?_); simp only [PT])
 | ((with_reducible refine sl 48 ?_); (refine wpL_loadF rfl 24 (.tmp 47) rfl g8 8 rfl (.slice x.dad x.dn x.dc) HG8.out rfl Try.underlying24 rfl ?_); simp only [PT])
 | ((with_reducible refine sl 70 ?_); (refine wpL_loadF rfl 22 (.tmp 69) rfl g8 7 rfl (.int .u32 (x.len : Int)) HG8.out rfl Try.underlying22 rfl ?_); simp only [PT])
 | ((with_reducible refine sl 51 ?_); (refine wpL_loadC rfl 22 (.tmp 50) rfl gu ou rfl (.int .u32 (T : Int)) (by obtain ⟨_, _, h1, h2, _⟩ := us_first HSN.out; cases h1; exact h2) Try.underlying22 rfl ?_); simp only [PT])
 | ((with_reducible refine sl 56 ?_); (refine wpL_loadC rfl 22 (.tmp 55) rfl gu ou rfl (.int .u32 (T : Int)) (by obtain ⟨_, _, h1, h2, _⟩ := us_first HSN.out; cases h1; exact h2) Try.underlying22 rfl ?_); simp only [PT])
 | ((with_reducible refine sl 65 ?_); (refine wpL_loadC rfl 22 (.tmp 64) rfl gu ou rfl (.int .u32 (T : Int)) (by obtain ⟨_, _, h1, h2, _⟩ := us_first HSN.out; cases h1; exact h2) Try.underlying22 rfl ?_); simp only [PT])
 | ((with_reducible refine sl 74 ?_); (refine wpL_lit1 rfl 56 59 (.tmp 73) rfl (⟨S, 0, 0, x.len, x.dad, x.dn, x.dc, x.dl⟩ : FrV).cells.toArray _ rfl 5 Try.underlying56 fr_zero (by omega) (by omega) (fill_frame (⟨S, 0, 0, x.len, x.dad, x.dn, x.dc, x.dl⟩ : FrV)) ?_); intro w11 gL le_gL lt_gL hg__ hb__; have HLT := Hd hg__; have hE__ := cU HB bup hb__; replace HB := ck HB hE__; replace HO := ck HO hE__; replace HG8 := ck HG8 hE__; clear hE__; clear hg__ hb__; simp only [PT])
 | ((with_reducible refine sl 75 ?_); (refine wpL_append elF rfl (.tmp 67) (.tmp 74) rfl w.heap.size rfl HO.out rfl (sl_block (cs := (⟨S, 0, 0, x.len, x.dad, x.dn, x.dc, x.dl⟩ : FrV).cells) HLT.out) (FrV.one (⟨S, 0, 0, x.len, x.dad, x.dn, x.dc, x.dl⟩ : FrV)) (by unfold maxLen; omega) (by omega) HB.out.size ?_); intro ad9 c9 w9 ho__ hg__ _ _; (replace HB := Hd (HB.out.grown hg__ HB.out.size (ownBlock_ge HO.out))); (replace HG8 := Hd (cellsOther HG8.out HO.out hg__ (by decide))); clear HO; have HO := Hd ho__; clear ho__ hg__ HLT; simp only [PT]))
        go_roundw
        case rel => exact ⟨k + 1, ad9, c9, fs ++ [(⟨S, 0, 0, x.len, x.dad, x.dn, x.dc, x.dl⟩ : FrV)], by omega, by go_num, by simp, by simp; omega, Hd (by rw [HTK.out, framesR_snoc, HST.out, List.map_append, HM.out, HFR.out]; rfl), Hd (by have h := HO.out; simpa [fcells_snoc] using h), Hd (fun v hv => by rcases List.mem_append.1 hv with h | h; exact HF.out v h; simp at h; rw [h]; exact HBX.out.1), HB⟩
        case measure => first | (simp [intOf]; done) | (simp [intOf]; omega)
      have HC0 : Hid (x.cells.toArray[0]? = some (.int .i64 x.kind)) := Hd rfl
      have HFR := Hd (frame0 ⟨S, B, SL⟩ x.val hk3 hk4)
      go_wp2_with (first
 | (go_at_call 66; (refine (snaps_at S B SL N (some ⟨b, off, none⟩) n c vs k HST.out HN.out _ (HV.out.below HB.out) hn (by omega)).mono ?_); intro e w6 hr; obtain ⟨sad, sc, rfl, hsn, hb__⟩ := hr; have hE__ := cU HB bup hb__; replace HB := ck HB hE__; replace HO := ck HO hE__; replace HR := ck HR hE__; clear hE__; clear hb__ hsn)
 | ((with_reducible refine sl 26 ?_); (refine wpL_load rfl 27 (.tmp 25) rfl b (off + k * 11) rfl x.cells _ HR.out Try.underlying27 rfl HBI.out ?_); simp only [PT])
 | ((with_reducible refine sl 8 ?_); (refine wpL_newN rfl rfl 27 rfl (.tmp 8) (.tmp 26) rfl x.cells.toArray _ HZI.out rfl (bcells_all _) (fun _ => rfl) (fun _ => rfl) ?_); intro w8 g8 le_g8 lt_g8 hg__ hb__; have HG8 := Hd hg__; have hE__ := cU HB bup hb__; replace HB := ck HB hE__; replace HO := ck HO hE__; clear hE__; clear hg__ hb__; simp only [PT])
 | ((with_reducible refine sl 28 ?_); (refine wpL_loadF rfl 3 (.tmp 27) rfl g8 0 rfl (.int .i64 x.kind) HG8.out HC0.out Try.underlying3 rfl ?_); simp only [PT])
 | ((with_reducible refine sl 45 ?_); (refine wpL_loadF rfl 3 (.tmp 44) rfl g8 0 rfl (.int .i64 x.kind) HG8.out HC0.out Try.underlying3 rfl ?_); simp only [PT]))
      go_roundw
      case rel => exact ⟨k + 1, ad', c', fs, by omega, by go_num, rfl, by omega, Hd (by rw [HTK.out, framesR_snoc, HST.out, HM.out, HFR.out, List.append_nil]), HO, HF, HB⟩
      case measure => first | (simp [intOf]; done) | (simp [intOf]; omega)
theorem frames27_walk (ad : Option Addr) (n c : Nat) (vs : List BlkV) (w : World) (hv : Blks w ad n c vs) (hw : ∀ v ∈ vs, wfB v.val) :
    Calls Try.prog 15 #[.slice ad n c] w fun e w' => e = .returned (.bool true) ∧ Below w.heap.size w w' := by
  have HB := Hd (Below.refl w.heap.size w)
  have HV := Hd hv
  have hc := hv.le
  have HN := Hd hv.len
  have HW := Hd hw
  obtain ⟨F, hF⟩ : ∃ F, fewC vs = F := ⟨_, rfl⟩
  have HF := Hd hF
  clear hv hw hF
  cases F
  · skip
    go_enter Try.func15, Try.ntmps15
    go_wp2_with (first
 | (go_at_call 28; (refine (pcAwake_any _).mono ?_); intro e wc1 hr; obtain ⟨rfl, hb__⟩ := hr; have hE__ := cU HB bup hb__; replace HB := ck HB hE__; replace HV := ck HV hE__; clear hE__; clear hb__)
 | (go_at_call 29; (with_reducible show Calls _ _ #[Value.slice ad _ _] _ _); (refine (few27_any _ ad n c vs HF.out _ (HV.out.below bup)).mono ?_); intro e wc2 hr; obtain ⟨rfl, hb__⟩ := hr; have hE__ := cU HB bup hb__; replace HB := ck HB hE__; replace HV := ck HV hE__; clear hE__; clear hb__))
    go_ret
    exact ⟨rfl, HB.out⟩
  have hs50 : n ≤ 50 := by have h1 := (fewC_spec HF.out).1; have h2 := HN.out; omega
  have HSM := Hd (fun v hv => ⟨(fewC_spec HF.out).2 v hv, HW.out v hv⟩ : ∀ v ∈ vs, SmB v ∧ wfB v.val)
  have HWA := Hd (wf_all HW.out)
  obtain ⟨R, hR⟩ : ∃ R, rightC (bvals vs) = R := ⟨_, rfl⟩
  have HR := Hd hR
  cases R
  · clear hR
    go_enter Try.func15, Try.ntmps15
    go_wp2_with (first
 | (go_at_call 28; (refine (pcAwake_any _).mono ?_); intro e wc1 hr; obtain ⟨rfl, hb__⟩ := hr; have hE__ := cU HB bup hb__; replace HB := ck HB hE__; replace HV := ck HV hE__; clear hE__; clear hb__)
 | (go_at_call 29; (with_reducible show Calls _ _ #[Value.slice ad _ _] _ _); (refine (few27_any _ ad n c vs HF.out _ (HV.out.below bup)).mono ?_); intro e wc2 hr; obtain ⟨rfl, hb__⟩ := hr; have hE__ := cU HB bup hb__; replace HB := ck HB hE__; replace HV := ck HV hE__; clear hE__; clear hb__)
 | (go_at_call 31; (refine (refRightC_at false ad n c vs HR.out _ (HV.out.below bup) (by omega) HSM.out).mono ?_); intro e wc3 hr; obtain ⟨rfl, hb__⟩ := hr; have hE__ := cU HB bup hb__; replace HB := ck HB hE__; replace HV := ck HV hE__; clear hE__; clear hb__))
    go_ret
    exact ⟨rfl, HB.out⟩
  have HA : Hid (allS noS (bvals vs) = true) := Hd (by simp only [rightC, Bool.and_eq_true] at hR; exact hR.1)
  clear hR
  go_enter Try.func15, Try.ntmps15
  go_wp2_with (first
 | (go_at_call 28; (refine (pcAwake_any _).mono ?_); intro e wc1 hr; obtain ⟨rfl, hb__⟩ := hr; have hE__ := cU HB bup hb__; replace HB := ck HB hE__; replace HV := ck HV hE__; clear hE__; clear hb__)
 | (go_at_call 29; (with_reducible show Calls _ _ #[Value.slice ad _ _] _ _); (refine (few27_any _ ad n c vs HF.out _ (HV.out.below bup)).mono ?_); intro e wc2 hr; obtain ⟨rfl, hb__⟩ := hr; have hE__ := cU HB bup hb__; replace HB := ck HB hE__; replace HV := ck HV hE__; clear hE__; clear hb__)
 | (go_at_call 31; (refine (refRightC_at true ad n c vs HR.out _ (HV.out.below bup) (by omega) HSM.out).mono ?_); intro e wc3 hr; obtain ⟨rfl, hb__⟩ := hr; have hE__ := cU HB bup hb__; replace HB := ck HB hE__; replace HV := ck HV hE__; clear hE__; clear hb__)
 | (go_at_call 37; (refine (pcFrames_any ad n c vs _ (HV.out.below bup) (by omega) HSM.out).mono ?_); intro e wc4 hr; obtain ⟨hb__, adf, cf, fs, rfl, ho__, hof__, hfr__, hfl⟩ := hr; have HX := Hd (show Frs _ adf fs.length cf fs from ⟨Sl.of_own ho__, fun v hv => Bs.of_own (hof__ v hv)⟩); have HXV := Hd (hfr__ HR.out); clear ho__ hof__ hfr__; have hE__ := cU HB bup hb__; replace HB := ck HB hE__; replace HV := ck HV hE__; clear hE__; clear hb__)
 | (go_at_call 39; (refine (refFramesC_any ad n c vs _ (HV.out.below bup) (by omega) HSM.out HA.out).mono ?_); intro e wc5 hr; obtain ⟨adg, cg, gs, rfl, hfg, hgv, hgl, hb__⟩ := hr; have HY := Hd hfg; have HYV := Hd hgv; clear hfg hgv; have hE__ := cU HB bup hb__; replace HB := ck HB hE__; replace HV := ck HV hE__; replace HX := ck HX hE__; clear hE__; clear hb__)
 | (go_at_call 38; (refine (refSameF_true adf fs.length cf fs adg gs.length cg gs (by rw [HXV.out, HYV.out]) _ (HX.out.below bup) (HY.out.below bup) (by omega)).mono ?_); intro e wc6 hr; obtain ⟨rfl, hb__⟩ := hr; have hE__ := cU HB bup hb__; replace HB := ck HB hE__; replace HV := ck HV hE__; replace HX := ck HX hE__; replace HY := ck HY hE__; clear hE__; clear hb__))
  go_ret
  exact ⟨rfl, HB.out⟩
end Go.Proofs.Ytmfplinbbcoahaa
