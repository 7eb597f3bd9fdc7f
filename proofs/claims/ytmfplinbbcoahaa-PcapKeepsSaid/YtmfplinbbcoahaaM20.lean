/-
  Joined by program (merge.py): PcLawK4, PcLawG.
-/
import Derived.RegionTactic
import Derived.BigRegion
import Derived.Test.YtmfplinbbcoahaaM4
import Derived.Test.YtmfplinbbcoahaaM10
import Derived.Test.YtmfplinbbcoahaaM11
import Derived.Test.YtmfplinbbcoahaaM14
set_option linter.unusedVariables false
set_option linter.unusedSimpArgs false
set_option maxRecDepth 100000
set_option maxHeartbeats 16000000
namespace Go.Proofs.Ytmfplinbbcoahaa
open Go.RowKit Go.Sort
theorem reachK {Wf W0 w1 a : World} [r0 : Rch Wf W0] [r1 : Rch w1 a] (hE : Hid (Below W0.heap.size W0 w1)) : Below Wf.heap.size Wf a := r0.h.trans ((hE.out.trans (Below.mono r1.h hE.out.size)).mono r0.h.size)
theorem OwnBlks.blksM {base : Nat} {w : World} {ad : Option Addr} {c m : Nat} {vs : List BlkV} (h : OwnBlks base w ad c vs) (hm : vs.length = m) : Blks w ad m c vs := hm ▸ h.blks
theorem ownltK {w : World} {base : Nat} {e : TypeId} {size : Nat} {ad : Option Addr} {n c : Nat} {xs : List Value} (h : w.ownsRow base e size (.slice ad n c) n xs) : ∀ k, Value.ownBlock (.slice ad n c) = some k → k < w.heap.size := by
  intro k hk
  rcases own_form h with ⟨h0, _⟩ | ⟨g, h1, _, h3⟩
  · rw [h0] at hk; cases hk
  · rw [h1] at hk; simp [Value.ownBlock] at hk; omega
theorem u8_nextK (b : UInt8) : IntKind.u8.wrap ((b.toNat : Int) + 1) = ((b + 1).toNat : Int) := by
  rw [IntKind.wrap_u8, UInt8.toNat_add]
  show ((b.toNat : Int) + 1) % 256 = (((b.toNat + 1) % 256 : Nat) : Int)
  omega
def AnyB (base : Nat) (w : World) (ad : Option Addr) (n c : Nat) : Prop := ∃ l, w.ownsRow base 5 1 (.slice ad n c) n (BV l)
theorem AnyB.keep {base : Nat} {w w' : World} {ad : Option Addr} {n c : Nat} (h : AnyB base w ad n c) (hb : Below w.heap.size w w') : AnyB base w' ad n c := by
  obtain ⟨l, hl⟩ := h
  exact ⟨l, own_keep hl hb⟩
theorem AnyB.put {base g j : Nat} {w : World} {ad : Option Addr} {n c : Nat} (b : UInt8) (h : AnyB base w ad n c) : AnyB base (w.setCell ⟨g, j, none⟩ (.int .u8 (b.toNat : Int))) ad n c := by
  obtain ⟨l, hl⟩ := h
  rcases own_form hl with ⟨h0, _⟩ | ⟨g', h1, _⟩
  · exact ⟨l, own_apart hl (set_grown w g j _) (fun x hx => by rw [h0] at hx; cases hx)⟩
  · by_cases e : g' = g
    · subst e
      subst h1
      exact ⟨_, (own_store hl j b).1⟩
    · exact ⟨l, own_apart hl (set_grown w g j _) (fun x hx => by rw [h1] at hx; cases hx; exact e)⟩
theorem step_storeY {P : Program} {ops : Array Oper} {o : Oper} {a : Act} {w : World} {K : Act → World → Prop} {Q : Exit → Act → World → Prop} {E : Prop} (hgd : o.guard = none) (ty : TypeId) (x y : Operand) (ho : o.op = .store ty x y)
    {base : Nat} {e : TypeId} {g n c : Nat} {L : List UInt8} (hown : w.ownsRow base e 1 (.slice (some ⟨g, 0, none⟩) n c) n (BV L)) (i : Nat) (hi : i < n) (b : UInt8) (hx : a.eval x = .pointer (some ⟨g, i, none⟩)) (hy : a.eval y = .int .u8 (b.toNat : Int)) (hif : (P.info? ty).map (·.size) = some 1)
    (h : ∀ w1, w1 = w.setCell ⟨g, i, none⟩ (.int .u8 (b.toNat : Int)) → w.grownBy w1 (some g) → K (a.put o.dst undef) w1) :
    if Region.wanted o (yielded ops a.tmps) = true then Oper.wp P o a w K Q else E := by
  have hcell := own_cell hown hi
  have hz := hown.frozenAt i
  have hrun := run_storeCells_cells (P := P) g i [.int .u8 (b.toNat : Int)] 0 w (fun j hj => by
      have : j = 0 := by simpa using hj
      subst this
      simp [hcell]) (fun j hj => by
      have : j = 0 := by simpa using hj
      subst this
      simpa using hz) (fun u hu => by simp at hu; subst hu; rfl)
  rw [if_pos (by simp [Region.wanted, hgd])]
  cases hq : P.info? ty with
  | none => simp [hq] at hif
  | some q =>
    have hs : q.size = 1 := by simpa [hq] using hif
    simp only [Nat.add_zero] at hrun
    have hst : (Instr.storeAt ty (.pointer (some ⟨g, i, none⟩)) (.int .u8 (b.toNat : Int))).run P w = .ok () (w.setCell ⟨g, i, none⟩ (.int .u8 (b.toNat : Int))) := by
      simp [Instr.storeAt, Instr.sureAddr, storeVar, sizeOf, typeInfo, hq, Value.cells, hs, hrun, World.setCells]
    unfold Oper.wp execOp
    simp only [ho, hx, hy, Sem.run_bind, Sem.run_pure, Result.andThen_ok, hst]
    exact h _ rfl (set_grown w g i _)
theorem cell_keep {w w' : World} {x : Addr} {u : Value} (h : w.cell? x = some u) (hb : Below w.heap.size w w') : w'.cell? x = some u := by
  rw [hb.cell (World.block_lt_of_cell? w _ h)]
  exact h
theorem keeps27_walk (ad : Option Addr) (n c : Nat) (vs : List BlkV) (w : World) (hv : Blks w ad n c vs) (hw : ∀ v ∈ vs, wfB v.val) :
    Calls Try.prog 16 #[.slice ad n c] w fun e w' => e = .returned (.bool true) ∧ Below w.heap.size w w' := by
  have HB := Hd (Below.refl w.heap.size w)
  have HV := Hd hv
  have hc := hv.le
  have HN := Hd hv.len
  have HW := Hd hw
  obtain ⟨F, hF⟩ : ∃ F, fewC vs = F := ⟨_, rfl⟩
  have HF := Hd hF
  clear hv hw hF
  have HSI := Hd spot_size
  cases F
  · skip
    go_enter Try.func16, Try.ntmps16
    go_wp2_with (first
 | (go_at_call 28; (refine (pcAwake_any _).mono ?_); intro e wc1 hr; obtain ⟨rfl, hb__⟩ := hr; have hE__ := cU HB bup hb__; replace HB := ck HB hE__; replace HV := ck HV hE__; clear hE__; clear hb__)
 | (go_at_call 29; (with_reducible show Calls _ _ #[Value.slice ad _ _] _ _); (refine (few27_any _ ad n c vs HF.out _ (HV.out.below bup)).mono ?_); intro e wc2 hr; obtain ⟨rfl, hb__⟩ := hr; have hE__ := cU HB bup hb__; replace HB := ck HB hE__; replace HV := ck HV hE__; clear hE__; clear hb__))
    go_ret
    exact ⟨rfl, HB.out⟩
  have hs50 : n ≤ 50 := by have h1 := (fewC_spec HF.out).1; have h2 := HN.out; omega
  have HSM := Hd (fun v hv => ⟨(fewC_spec HF.out).2 v hv, HW.out v hv⟩ : ∀ v ∈ vs, SmB v ∧ wfB v.val)
  have HWA := Hd (wf_all HW.out)
  obtain ⟨R, hR⟩ : ∃ R, rightC (bvals vs) = R := ⟨_, rfl⟩
  have HR := Hd hR
  cases R
  · clear hR
    go_enter Try.func16, Try.ntmps16
    go_wp2_with (first
 | (go_at_call 28; (refine (pcAwake_any _).mono ?_); intro e wc1 hr; obtain ⟨rfl, hb__⟩ := hr; have hE__ := cU HB bup hb__; replace HB := ck HB hE__; replace HV := ck HV hE__; clear hE__; clear hb__)
 | (go_at_call 29; (with_reducible show Calls _ _ #[Value.slice ad _ _] _ _); (refine (few27_any _ ad n c vs HF.out _ (HV.out.below bup)).mono ?_); intro e wc2 hr; obtain ⟨rfl, hb__⟩ := hr; have hE__ := cU HB bup hb__; replace HB := ck HB hE__; replace HV := ck HV hE__; clear hE__; clear hb__)
 | (go_at_call 31; (refine (refRightC_at false ad n c vs HR.out _ (HV.out.below bup) (by omega) HSM.out).mono ?_); intro e wc3 hr; obtain ⟨rfl, hb__⟩ := hr; have hE__ := cU HB bup hb__; replace HB := ck HB hE__; replace HV := ck HV hE__; clear hE__; clear hb__))
    go_ret
    exact ⟨rfl, HB.out⟩
  obtain ⟨LC, hLC⟩ : ∃ L, L = bytesC noS (bvals vs) := ⟨_, rfl⟩
  obtain ⟨S, hS⟩ : ∃ S, LC.length = S := ⟨_, rfl⟩
  have hSn : S ≤ 52428800 := by rw [← hS, hLC]; exact bytes_small hR (by rw [bvals_length]; have := HN.out; omega)
  have HLC := Hd hLC
  have HS := Hd hS
  have HA : Hid (allS noS (bvals vs) = true) := Hd (by simp only [rightC, Bool.and_eq_true] at hR; exact hR.1)
  have HRD : Hid (readP LC = (bvals vs, (0, 0))) := Hd (by rw [hLC]; exact readP_back _ hR HWA.out)
  have HMA : Hid ((bvals vs).length = n) := Hd (by rw [bvals_length, ← HN.out])
  clear hR hLC hS
  go_enter Try.func16, Try.ntmps16
  go_wp2_with (first
 | (go_at_call 28; (refine (pcAwake_any _).mono ?_); intro e wc1 hr; obtain ⟨rfl, hb__⟩ := hr; have hE__ := cU HB bup hb__; replace HB := ck HB hE__; replace HV := ck HV hE__; clear hE__; clear hb__)
 | (go_at_call 29; (with_reducible show Calls _ _ #[Value.slice ad _ _] _ _); (refine (few27_any _ ad n c vs HF.out _ (HV.out.below bup)).mono ?_); intro e wc2 hr; obtain ⟨rfl, hb__⟩ := hr; have hE__ := cU HB bup hb__; replace HB := ck HB hE__; replace HV := ck HV hE__; clear hE__; clear hb__)
 | (go_at_call 31; (refine (refRightC_at true ad n c vs HR.out _ (HV.out.below bup) (by omega) HSM.out).mono ?_); intro e wc3 hr; obtain ⟨rfl, hb__⟩ := hr; have hE__ := cU HB bup hb__; replace HB := ck HB hE__; replace HV := ck HV hE__; clear hE__; clear hb__)
 | (go_at_call 30; (refine (pcPut_at LC S ad n c vs HLC.out HS.out HR.out _ (HV.out.below bup) (by omega) HSM.out).mono ?_); intro e wc4 hr; obtain ⟨adb, cb, rfl, ho__, hb__⟩ := hr; have H5 := Hd (Bs.of_own ho__); clear ho__; have hE__ := cU HB bup hb__; replace HB := ck HB hE__; replace HV := ck HV hE__; clear hE__; clear hb__)
 | ((with_reducible refine sl 30 ?_); (refine wpL_lit0 rfl rfl ?_); intro wl30 gl30 le30 hown__ hb__; have HE := Hd hb__; have HQ := Hd hown__; clear hown__ hb__; simp only [PT])
 | ((with_reducible refine sl 32 ?_); (refine wpL_appL elB rfl (.tmp 30) (.tmp 31) rfl _ (L := []) rfl (own_keep HQ.out bup) rfl (H5.out.below (reachK HE)) LC (by rfl) (by rw [HS.out]; omega) (Nat.le_trans HE.out.size (bsz bup)) ?_); intro adq cq wa32 ho__ hb__; (replace HE := cEb HE bup hb__); clear HQ; rw [HS.out] at ho__; (rw [HS.out]); have HQ := Hd ho__; clear ho__ hb__; simp only [PT])
 | (go_at_call 34; (refine (pcRead_at (bvals vs) 0 0 n adq S cq LC HRD.out HMA.out _ (Bs.of_own (own_keep HQ.out bup)) (by omega)).mono ?_); intro e wr33 hr; obtain ⟨adx, cx, vsx, rfl, hvx, hlx, ho__, hb__⟩ := hr; obtain ⟨BX, hox, hltx⟩ : ∃ B, OwnBlks B wr33 adx cx vsx ∧ (∀ k, Value.ownBlock (.slice adq S cq) = some k → k < B) := ⟨_, ho__, ownltK (own_keep HQ.out bup)⟩; have HX := Hd hox; have HLTX := Hd hltx; have HVX := Hd hvx; have HLX := Hd hlx; (replace HQ := Hd (own_keep (own_keep HQ.out bup) hb__)); (replace HE := cE0 HE bup hb__); clear ho__ hb__ hvx hlx hox hltx)
 | ((with_reducible refine sl 7 ?_); (refine wpL_allocG rfl 49 rfl (.agg (spotC (0, 0)).toArray) (spotC (0, 0)).toArray 2 (by kernel_rfl) rfl ?_); intro ws7 g7 he__ le_g7 lt_g7 hg__ hb__; have HG7 := Hd hg__; have HE7 := Hd hb__; clear hg__ hb__ he__; simp only [PT])
 | ((with_reducible show wpList _ _ _ (⟨none, .store _ (.tmp 7) (.tmp 37), _, _, _, _⟩ :: _) _ _); (refine wpL_storeRow rfl 49 (.tmp 7) (.tmp 37) rfl g7 (spotC (0, 0)).toArray rfl rfl HG7.out HSI.out rfl (spot_one _) ?_); intro wt7 hs__ hr__; (have hb__ := HE7.out.grown hr__ HE7.out.size (fun k e => (by cases e; exact le_g7))); (replace HE := ckk HE bup hb__; replace HQ := ckk HQ bup hb__; replace HX := ckk HX bup hb__); clear HG7 HE7; have HG7 := Hd hs__; clear hs__ hr__ hb__; simp only [PT]))
  clear HG7
  go_loopw [8] (fun i wr => ∃ (k : Nat) (M : List UInt8), k ≤ S ∧ i = .int .i64 (k : Int) ∧ Hid (wr.ownsRow wc4.heap.size 5 1 (.slice adq S cq) S (BV M)) ∧ Hid (OwnBlks BX wr adx cx vsx) ∧ Hid (Below wc4.heap.size wc4 wr)) (fun i _ => S - (intOf i).toNat)
  case atStart => exact ⟨0, LC, by omega, rfl, HQ, HX, HE⟩
  case round =>
    obtain ⟨k, M, hk, rfl, HQr, HXr, HEr⟩ := hrel
    clear HQ HX HE
    have HQ := HQr
    have HX := HXr
    have HE := HEr
    clear HQr HXr HEr
    by_cases hlt : k < S
    · obtain ⟨g, rfl, _, _⟩ := own_some HQ.out (by omega)
      go_wp2_with (first
 | ((with_reducible show wpList _ _ _ (⟨none, .store _ (.tmp 46) _, _, _, _, _⟩ :: _) _ _); (refine wpL_storeB rfl 5 (.tmp 46) _ rfl HQ.out k hlt 0 rfl rfl (by kernel_rfl) ?_); intro w21 hs__ hr__; (replace HX := Hd (HX.out.write hr__ (HLTX.out g rfl))); (replace HE := Hd (HE.out.grown hr__ HE.out.size (fun k e => ownBlock_ge HQ.out k e))); clear HQ; have HQ := Hd hs__; clear hs__ hr__; simp only [PT]))
      go_roundw
      case rel => exact ⟨k + 1, _, by omega, by go_num, HQ, HX, HE⟩
      case measure => first | (simp [intOf]; done) | (simp [intOf]; omega)
    · have hb__ := HE.out
      have hE__ := cU HB bup hb__; replace HB := ck HB hE__; replace HV := ck HV hE__; replace H5 := ck H5 hE__; clear hE__
      clear hb__ HE HQ
      obtain ⟨wv, hwv⟩ : ∃ wv, wv = wr := ⟨_, rfl⟩
      subst hwv
      have hnv : vsx.length ≤ 50 := by have := HLX.out; omega
      go_wp2_with (first
 | (go_at_call 37; (refine (pcFrames_any adx n cx vsx _ ((HX.out.keep bup).blksM HLX.out) (by omega) (short_of HV.out.2 HX.out.blks.2 HVX.out HSM.out)).mono ?_); intro e wf hr; obtain ⟨hb__, adf, cf, fs, rfl, ho__, hof__, _, hfl⟩ := hr; have HE := Hd hb__; have HFO := Hd ho__; have HFF := Hd (fun v hv => ⟨v.l, hof__ v hv⟩ : ∀ v ∈ fs, AnyB wv.heap.size wf v.ad v.n v.c); clear ho__ hof__ hb__)
 | (go_at_call 36; (refine (refSameC_true adx n cx vsx ad n c vs HVX.out _ ((HX.out.blksM HLX.out).below (reachK HE)) (HV.out.below (reachK HE)) (by omega)).mono ?_); intro e ws hr; obtain ⟨rfl, hb__⟩ := hr; (replace HFO := Hd (own_keep (own_keep HFO.out bup) hb__)); (replace HFF := Hd (fun v hv => AnyB.keep (AnyB.keep (HFF.out v hv) bup) hb__ : ∀ v ∈ fs, AnyB wv.heap.size ws v.ad v.n v.c)); (replace HE := cE0 HE bup hb__); clear hb__))
      go_loopw [10] (fun i wr => ∃ (j : Nat), j ≤ fs.length ∧ i = .int .i64 (j : Int) ∧ Hid (wr.ownsRow wv.heap.size 59 5 (.slice adf fs.length cf) fs.length (fcells fs)) ∧ Hid (∀ v ∈ fs, AnyB wv.heap.size wr v.ad v.n v.c) ∧ Hid (Below wv.heap.size wv wr)) (fun i _ => fs.length - (intOf i).toNat)
      case atStart => exact ⟨0, by omega, rfl, HFO, HFF, HE⟩
      case round =>
        obtain ⟨j, hj, rfl, HFOr, HFFr, HEr⟩ := hrel
        clear HFO HFF HE
        have HFO := HFOr
        have HFF := HFFr
        have HE := HEr
        clear HFOr HFFr HEr
        by_cases hjlt : j < fs.length
        · obtain ⟨gf, rfl, _, _⟩ := own_some HFO.out (by omega)
          obtain ⟨v, hv⟩ : ∃ v, v = fs[j] := ⟨_, rfl⟩
          have HVM := Hd (show v ∈ fs by rw [hv]; exact List.getElem_mem _)
          have HCC := Hd (show (fcells fs)[j * 5 + 4]? = some (.slice v.ad v.n v.c) by rw [fcells_get fs j 4 hjlt (by omega), ← hv]; rfl)
          obtain ⟨la, hla⟩ := HFF.out v HVM.out
          have hvn := (Sl.of_own hla).le
          have hvc : v.c ≤ 9223372036854775807 := by have h := (Sl.of_own hla).2.2.1; simp [maxLen] at h; omega
          clear hv hla
          obtain ⟨wu, hwu⟩ : ∃ wu, wu = wr := ⟨_, rfl⟩
          subst hwu
          go_wp2_with fail
          go_loopw [11] (fun i wr => ∃ (k : Nat), k ≤ v.n ∧ i = .int .i64 (k : Int) ∧ Hid (wr.ownsRow wv.heap.size 59 5 (.slice (some ⟨gf, 0, none⟩) fs.length cf) fs.length (fcells fs)) ∧ Hid (∀ v ∈ fs, AnyB wv.heap.size wr v.ad v.n v.c) ∧ Hid (Below wv.heap.size wv wr)) (fun i _ => v.n - (intOf i).toNat)
          case atStart => exact ⟨0, by omega, rfl, HFO, HFF, HE⟩
          case round =>
            obtain ⟨k, hk, rfl, HFOr, HFFr, HEr⟩ := hrel
            clear HFO HFF HE
            have HFO := HFOr
            have HFF := HFFr
            have HE := HEr
            clear HFOr HFFr HEr
            have HC4 := Hd (show wr.cell? ⟨gf, j * 5 + 4, none⟩ = some (.slice v.ad v.n v.c) by rw [HFO.out.cellAt (j * 5 + 4) (by omega), HCC.out])
            by_cases hklt : k < v.n
            · obtain ⟨lb, hlb⟩ := HFF.out v HVM.out
              obtain ⟨gd, hgd, _, _⟩ := own_some hlb (by omega)
              rw [hgd] at hlb HC4
              have HLB := Hd hlb
              have HGD := Hd hgd
              have HCB := Hd (own_cell hlb hklt)
              have hwr := u8_nextK (at8 lb k)
              clear hlb hgd
              go_wp2_with (first
 | ((with_reducible refine sl 64 ?_); (refine wpL_loadC rfl 24 (.tmp 63) rfl gf (j * 5 + 4) rfl (.slice (some ⟨gd, 0, none⟩) v.n v.c) HC4.out Try.underlying24 rfl ?_); simp only [PT]))
              refine wp_region_T (S := fun u__ => u__.cell? ⟨gf, j * 5 + 4, none⟩ = some (.slice (some ⟨gd, 0, none⟩) v.n v.c) ∧ u__.cell? ⟨gd, k, none⟩ = some (.int .u8 ((at8 lb k).toNat : Int))) 16 (by kernel_rfl) ?_ (fun hHeld => ?_); (focus (exact ⟨cell_keep HC4.out bup, cell_keep HCB.out bup⟩)); (refine tkT 16 0 (oi := ⟨some 69, _, _, _, _, _⟩) (v := ?_) rfl (by kernel_rfl) (.inl ⟨by rfl, ?_⟩) hHeld ?_; rotate_left; focus (intro w hSw; (try dsimp only at hSw); go_simp; try with_reducible rfl)); simp only [PT]; (refine tkT 16 1 (oi := ⟨some 70, _, _, _, _, _⟩) (v := ?_) rfl (by kernel_rfl) (.inl ⟨by rfl, ?_⟩) hHeld ?_; rotate_left; focus (intro w hSw; (try dsimp only at hSw); go_simp; try with_reducible rfl)); simp only [PT]; (refine tkT 16 2 (oi := ⟨some 71, _, _, _, _, _⟩) (v := ?_) rfl (by kernel_rfl) (.inl ⟨by rfl, ?_⟩) hHeld ?_; rotate_left; focus (intro w hSw; (try dsimp only at hSw); go_simp; try with_reducible rfl)); simp only [PT]; (refine tkT 16 3 (oi := ⟨some 72, _, _, _, _, _⟩) (v := ?_) rfl (by kernel_rfl) (.inl ⟨by rfl, ?_⟩) hHeld ?_; rotate_left; focus (intro w hSw; (try dsimp only at hSw); go_simp; try with_reducible rfl)); simp only [PT]; refine' tkT 16 4 (oi := ⟨some 73, _, _, _, _, _⟩) (v := _) rfl (by kernel_rfl) (yields_loadC (by rfl) 24 (.tmp 72) (by rfl) gf (j * 5 + 4) (by rfl) (.slice (some ⟨gd, 0, none⟩) v.n v.c) (fun _ h => h.1) Try.underlying24 rfl) hHeld ?_; simp only [PT]; (refine tkT 16 5 (oi := ⟨some 74, _, _, _, _, _⟩) (v := ?_) rfl (by kernel_rfl) (.inl ⟨by rfl, ?_⟩) hHeld ?_; rotate_left; focus (intro w hSw; (try dsimp only at hSw); go_simp; try with_reducible rfl)); simp only [PT]; (refine tkT 16 6 (oi := ⟨some 75, _, _, _, _, _⟩) (v := ?_) rfl (by kernel_rfl) (.inl ⟨by rfl, ?_⟩) hHeld ?_; rotate_left; focus (intro w hSw; (try dsimp only at hSw); go_simp; try with_reducible rfl)); simp only [PT]; (refine tkT 16 7 (oi := ⟨some 76, _, _, _, _, _⟩) (v := ?_) rfl (by kernel_rfl) (.inl ⟨by rfl, ?_⟩) hHeld ?_; rotate_left; focus (intro w hSw; (try dsimp only at hSw); go_simp; try with_reducible rfl)); simp only [PT]; (refine tkT 16 8 (oi := ⟨some 77, _, _, _, _, _⟩) (v := ?_) rfl (by kernel_rfl) (.inl ⟨by rfl, ?_⟩) hHeld ?_; rotate_left; focus (intro w hSw; (try dsimp only at hSw); go_simp; try with_reducible rfl)); simp only [PT]; (refine tkT 16 9 (oi := ⟨some 78, _, _, _, _, _⟩) (v := ?_) rfl (by kernel_rfl) (.inl ⟨by rfl, ?_⟩) hHeld ?_; rotate_left; focus (intro w hSw; (try dsimp only at hSw); go_simp; try with_reducible rfl)); simp only [PT]; refine' tkT 16 10 (oi := ⟨some 79, _, _, _, _, _⟩) (v := _) rfl (by kernel_rfl) (yields_loadC (by rfl) 24 (.tmp 78) (by rfl) gf (j * 5 + 4) (by rfl) (.slice (some ⟨gd, 0, none⟩) v.n v.c) (fun _ h => h.1) Try.underlying24 rfl) hHeld ?_; simp only [PT]; (refine tkT 16 11 (oi := ⟨some 80, _, _, _, _, _⟩) (v := ?_) rfl (by kernel_rfl) (.inl ⟨by rfl, ?_⟩) hHeld ?_; rotate_left; focus (intro w hSw; (try dsimp only at hSw); go_simp; try with_reducible rfl)); simp only [PT]; (refine tkT 16 12 (oi := ⟨some 81, _, _, _, _, _⟩) (v := ?_) rfl (by kernel_rfl) (.inl ⟨by rfl, ?_⟩) hHeld ?_; rotate_left; focus (intro w hSw; (try dsimp only at hSw); go_simp; try with_reducible rfl)); simp only [PT]; refine' tkT 16 13 (oi := ⟨some 82, _, _, _, _, _⟩) (v := _) rfl (by kernel_rfl) (yields_loadC (by rfl) 5 (.tmp 81) (by rfl) gd k (by rfl) (.int .u8 ((at8 lb k).toNat : Int)) (fun _ h => h.2) Try.underlying5 rfl) hHeld ?_; simp only [PT]; (refine tkT 16 14 (oi := ⟨some 83, _, _, _, _, _⟩) (v := ?_) rfl (by kernel_rfl) (.inl ⟨by rfl, ?_⟩) hHeld ?_; rotate_left; focus (intro w hSw; (try dsimp only at hSw); go_simp; try with_reducible rfl)); simp only [PT]; (refine tkT 16 15 (oi := ⟨some 84, _, _, _, _, _⟩) (v := ?_) rfl (by kernel_rfl) (.inl ⟨by rfl, ?_⟩) hHeld ?_; rotate_left; focus (intro w hSw; (try dsimp only at hSw); go_simp; try with_reducible rfl)); simp only [PT]; refine wpAnyT_ready (rs := [16]) (by kernel_rfl) (by simp) ?_
              refine (AllReadyT.cons (o := ⟨none, _, _, _, _, _⟩) rfl (fun K hK => ?_) AllReadyT.nil); ((refine step_storeY rfl 5 (.tmp 84) (.tmp 83) rfl (own_keep HLB.out bup) k hklt (at8 lb k + 1) rfl rfl (by kernel_rfl) ?_); intro w21 he__ hr__; (replace HFF := Hd (fun u hu => he__ ▸ AnyB.put (at8 lb k + 1) (AnyB.keep (HFF.out u hu) bup) : ∀ u ∈ fs, AnyB wv.heap.size w21 u.ad u.n u.c)); (replace HE := Hd ((HE.out.trans (Below.mono bup HE.out.size)).grown hr__ (HE.out.trans (Below.mono bup HE.out.size)).size (fun k e => (by cases e; exact ownBlock_ge HLB.out _ rfl)))); (replace HFO := Hd (own_other (own_keep HFO.out bup) (own_keep HLB.out bup) hr__ (by decide))); clear he__ hr__); refine hK.out _ _ (fun h => absurd rfl h) (fun hHeld => ?_); clear hK K; (try simp only [PT]); refine wpAnyT_done (by kernel_rfl) ?_ _
              all_goals
                go_wp2_with fail
                go_roundw
                case rel => exact ⟨k + 1, by omega, by go_num, HFO, HFF, HE⟩
                case measure => first | (simp [intOf]; done) | (simp [intOf]; omega)
            · have hke : v.n ≤ k := by omega
              go_wp2_with (first
 | ((with_reducible refine sl 64 ?_); (refine wpL_loadC rfl 24 (.tmp 63) rfl gf (j * 5 + 4) rfl (.slice v.ad v.n v.c) HC4.out Try.underlying24 rfl ?_); simp only [PT]))
              go_roundw
              case rel => exact ⟨j + 1, by omega, by go_num, HFO, HFF, HE⟩
              case measure => first | (simp [intOf]; done) | (simp [intOf]; omega)
        · have hjl : fs.length ≤ j := by omega
          have HY := Hd ((HX.out.keep HE.out).blksM HLX.out)
          have hb__ := HE.out
          have hE__ := cU HB bup hb__; replace HB := ck HB hE__; replace HV := ck HV hE__; replace H5 := ck H5 hE__; clear hE__
          clear hb__ HE HFO HFF HX
          go_wp2_with fail
          refine wp_region_held_drew (S := fun u__ => True) (by kernel_rfl) ?_ (fun hHeld => ?_); (focus (exact trivial)); (refine tk 0 (oi := ⟨some 85, _, _, _, _, _⟩) (v := ?_) rfl (by kernel_rfl) (.inl ⟨by rfl, ?_⟩) hHeld ?_; rotate_left; focus (intro w hSw; (try dsimp only at hSw); go_simp; try with_reducible rfl)); simp only [PT]; (refine tk 1 (oi := ⟨some 86, _, _, _, _, _⟩) (v := ?_) rfl (by kernel_rfl) (.inl ⟨by rfl, ?_⟩) hHeld ?_; rotate_left; focus (intro w hSw; (try dsimp only at hSw); go_simp; try with_reducible rfl)); simp only [PT]; refine wpAnyH_ready (rs := [2]) (by kernel_rfl) (by simp) ?_; refine (AllReadyH.cons (o := ⟨some 87, _, _, _, _, _⟩) rfl (fun K hK => ?_) AllReadyH.nil); (focus (go_simp; (refine (refSameC_true adx n cx vsx ad n c vs HVX.out _ (HY.out.below bup) (HV.out.below bup) (by omega)).mono ?_); intro e wq hr; obtain ⟨rfl, hb__⟩ := hr; have hE__ := cU HB bup hb__; replace HB := ck HB hE__; replace HV := ck HV hE__; replace H5 := ck H5 hE__; replace HY := ck HY hE__; clear hE__; clear hb__; go_wp2_with fail)); refine hK.out _ _ ?_ (fun hHeld => ?_); (focus (exact trivial)); clear hK K; (try simp only [PT]); (refine tk 3 (oi := ⟨some 88, _, _, _, _, _⟩) (v := ?_) rfl (by kernel_rfl) (.inl ⟨by rfl, ?_⟩) hHeld ?_; rotate_left; focus (intro w hSw; (try dsimp only at hSw); go_simp; try with_reducible rfl)); simp only [PT]; (first | (refine tk 4 (oi := ⟨some 89, _, _, _, _, _⟩) (v := undef) rfl (by kernel_rfl) (.inr ⟨by rfl, rfl⟩) hHeld ?_) | (refine tk 4 (oi := ⟨some 89, _, _, _, _, _⟩) (v := ?_) rfl (by kernel_rfl) (.inl ⟨by rfl, ?_⟩) hHeld ?_; rotate_left; focus (intro w hSw; (try dsimp only at hSw); go_simp; try with_reducible rfl))); simp only [PT]; (first | (refine tk 6 (oi := ⟨some 91, _, _, _, _, _⟩) (v := undef) rfl (by kernel_rfl) (.inr ⟨by rfl, rfl⟩) hHeld ?_) | (refine tk 6 (oi := ⟨some 91, _, _, _, _, _⟩) (v := ?_) rfl (by kernel_rfl) (.inl ⟨by rfl, ?_⟩) hHeld ?_; rotate_left; focus (intro w hSw; (try dsimp only at hSw); go_simp; try with_reducible rfl))); simp only [PT]; refine wpAnyH_ready (rs := [5, 7]) (by kernel_rfl) (by simp) ?_; refine (AllReadyH.cons (o := ⟨some 90, _, _, _, _, _⟩) rfl (fun K hK => ?_) (AllReadyH.cons (o := ⟨some 92, _, _, _, _, _⟩) rfl (fun K hK => ?_) AllReadyH.nil)); ((refine step_str Try.underlying24 Try.underlying5 Try.underlying9 rfl (.tmp 89) rfl rfl (H5.out.below bup) ?_)); refine hK.out _ _ ?_ (fun hHeld => ?_); (focus (exact trivial)); clear hK K; (try simp only [PT]); refine wpAnyH_ready (rs := [7]) (by kernel_rfl) (by simp) ?_; refine (AllReadyH.cons (o := ⟨some 92, _, _, _, _, _⟩) rfl (fun K hK => ?_) AllReadyH.nil); (focus (go_simp; (refine (refBytesC_at LC S ad n c vs HLC.out HS.out _ (HV.out.below bup) (by omega) HSM.out HA.out).mono ?_); intro e wq2 hr; obtain ⟨ad6, c6, rfl, ho__, hb__⟩ := hr; have hE__ := cU HB bup hb__; replace HB := ck HB hE__; replace HV := ck HV hE__; replace H5 := ck H5 hE__; replace HY := ck HY hE__; clear hE__; have H6 := Hd (Bs.of_own ho__); clear hb__ ho__; go_wp2_with fail)); refine hK.out _ _ ?_ (fun hHeld => ?_); (focus (exact trivial)); clear hK K; (try simp only [PT]); refine wpAnyH_ready (rs := [8]) (by kernel_rfl) (by simp) ?_; refine (AllReadyH.cons (o := ⟨some 93, _, _, _, _, _⟩) rfl (fun K hK => ?_) AllReadyH.nil); ((refine step_str Try.underlying24 Try.underlying5 Try.underlying9 rfl (.tmp 92) rfl rfl (H6.out.below bup) ?_)); refine hK.out _ _ ?_ (fun hHeld => ?_); (focus (exact trivial)); clear hK K; (try simp only [PT]); (first | (refine tk 9 (oi := ⟨some 94, _, _, _, _, _⟩) (v := undef) rfl (by kernel_rfl) (.inr ⟨by rfl, rfl⟩) hHeld ?_) | (refine tk 9 (oi := ⟨some 94, _, _, _, _, _⟩) (v := ?_) rfl (by kernel_rfl) (.inl ⟨by rfl, ?_⟩) hHeld ?_; rotate_left; focus (intro w hSw; (try dsimp only at hSw); go_simp; try with_reducible rfl))); simp only [PT]
          (refine tk 10 (oi := ⟨some 95, _, _, _, _, _⟩) (v := ?_) rfl (by kernel_rfl) (.inl ⟨by rfl, ?_⟩) hHeld ?_; rotate_left; focus (intro w hSw; (try dsimp only at hSw); go_simp; try with_reducible rfl)); simp only [PT]; (refine tk 11 (oi := ⟨some 2, _, _, _, _, _⟩) (v := ?_) rfl (by kernel_rfl) (.inl ⟨by rfl, ?_⟩) hHeld ?_; rotate_left; focus (intro w hSw; (try dsimp only at hSw); go_simp; try with_reducible rfl)); simp only [PT]; refine wpAnyH_done (by kernel_rfl) ?_ _; rotate_left; (focus (go_simp; (refine (refBytesC_at LC S ad n c vs HLC.out HS.out _ (HV.out.below bup) (by omega) HSM.out HA.out).mono ?_); intro e wq2 hr; obtain ⟨ad6, c6, rfl, ho__, hb__⟩ := hr; have hE__ := cU HB bup hb__; replace HB := ck HB hE__; replace HV := ck HV hE__; replace H5 := ck H5 hE__; replace HY := ck HY hE__; clear hE__; have H6 := Hd (Bs.of_own ho__); clear hb__ ho__; go_wp2_with fail)); refine hK.out _ _ ?_ (fun hHeld => ?_); (focus (exact trivial)); clear hK K; (try simp only [PT]); refine wpAnyH_ready (rs := [5, 8]) (by kernel_rfl) (by simp) ?_; refine (AllReadyH.cons (o := ⟨some 90, _, _, _, _, _⟩) rfl (fun K hK => ?_) (AllReadyH.cons (o := ⟨some 93, _, _, _, _, _⟩) rfl (fun K hK => ?_) AllReadyH.nil)); ((refine step_str Try.underlying24 Try.underlying5 Try.underlying9 rfl (.tmp 89) rfl rfl (H5.out.below bup) ?_)); refine hK.out _ _ ?_ (fun hHeld => ?_); (focus (exact trivial)); clear hK K; (try simp only [PT]); refine wpAnyH_ready (rs := [8]) (by kernel_rfl) (by simp) ?_; refine (AllReadyH.cons (o := ⟨some 93, _, _, _, _, _⟩) rfl (fun K hK => ?_) AllReadyH.nil); ((refine step_str Try.underlying24 Try.underlying5 Try.underlying9 rfl (.tmp 92) rfl rfl (H6.out.below bup) ?_)); refine hK.out _ _ ?_ (fun hHeld => ?_); (focus (exact trivial)); clear hK K; (try simp only [PT]); (first | (refine tk 9 (oi := ⟨some 94, _, _, _, _, _⟩) (v := undef) rfl (by kernel_rfl) (.inr ⟨by rfl, rfl⟩) hHeld ?_) | (refine tk 9 (oi := ⟨some 94, _, _, _, _, _⟩) (v := ?_) rfl (by kernel_rfl) (.inl ⟨by rfl, ?_⟩) hHeld ?_; rotate_left; focus (intro w hSw; (try dsimp only at hSw); go_simp; try with_reducible rfl))); simp only [PT]; (refine tk 10 (oi := ⟨some 95, _, _, _, _, _⟩) (v := ?_) rfl (by kernel_rfl) (.inl ⟨by rfl, ?_⟩) hHeld ?_; rotate_left; focus (intro w hSw; (try dsimp only at hSw); go_simp; try with_reducible rfl)); simp only [PT]; (refine tk 11 (oi := ⟨some 2, _, _, _, _, _⟩) (v := ?_) rfl (by kernel_rfl) (.inl ⟨by rfl, ?_⟩) hHeld ?_; rotate_left; focus (intro w hSw; (try dsimp only at hSw); go_simp; try with_reducible rfl)); simp only [PT]; refine wpAnyH_done (by kernel_rfl) ?_ _; rotate_left; ((refine step_str Try.underlying24 Try.underlying5 Try.underlying9 rfl (.tmp 92) rfl rfl (H6.out.below bup) ?_)); refine hK.out _ _ ?_ (fun hHeld => ?_); (focus (exact trivial)); clear hK K; (try simp only [PT]); refine wpAnyH_ready (rs := [5]) (by kernel_rfl) (by simp) ?_; refine (AllReadyH.cons (o := ⟨some 90, _, _, _, _, _⟩) rfl (fun K hK => ?_) AllReadyH.nil); ((refine step_str Try.underlying24 Try.underlying5 Try.underlying9 rfl (.tmp 89) rfl rfl (H5.out.below bup) ?_)); refine hK.out _ _ ?_ (fun hHeld => ?_); (focus (exact trivial)); clear hK K; (try simp only [PT]); (first | (refine tk 9 (oi := ⟨some 94, _, _, _, _, _⟩) (v := undef) rfl (by kernel_rfl) (.inr ⟨by rfl, rfl⟩) hHeld ?_) | (refine tk 9 (oi := ⟨some 94, _, _, _, _, _⟩) (v := ?_) rfl (by kernel_rfl) (.inl ⟨by rfl, ?_⟩) hHeld ?_; rotate_left; focus (intro w hSw; (try dsimp only at hSw); go_simp; try with_reducible rfl))); simp only [PT]; (refine tk 10 (oi := ⟨some 95, _, _, _, _, _⟩) (v := ?_) rfl (by kernel_rfl) (.inl ⟨by rfl, ?_⟩) hHeld ?_; rotate_left; focus (intro w hSw; (try dsimp only at hSw); go_simp; try with_reducible rfl)); simp only [PT]; (refine tk 11 (oi := ⟨some 2, _, _, _, _, _⟩) (v := ?_) rfl (by kernel_rfl) (.inl ⟨by rfl, ?_⟩) hHeld ?_; rotate_left; focus (intro w hSw; (try dsimp only at hSw); go_simp; try with_reducible rfl)); simp only [PT]; refine wpAnyH_done (by kernel_rfl) ?_ _
          rotate_left
          all_goals
            go_wp2_with fail
            go_ret
            exact ⟨by simp, HB.out⟩
end Go.Proofs.Ytmfplinbbcoahaa
