/-
  Joined by program (merge.py): RefPc2, RB1, RB2, RB4, RB5, RB6, RB7, Fits.
-/
import Derived.Test.YtmfplinbbcoahaaM2
import Derived.Test.YtmfplinbbcoahaaM3
import Derived.Test.YtmfplinbbcoahaaM4
import Derived.Test.YtmfplinbbcoahaaM5
import Derived.Test.YtmfplinbbcoahaaM6
import Derived.Test.YtmfplinbbcoahaaM10
import Derived.Test.YtmfplinbbcoahaaM11
set_option linter.unusedVariables false
set_option linter.unusedSimpArgs false
set_option maxRecDepth 100000
set_option maxHeartbeats 16000000
namespace Go.Proofs.Ytmfplinbbcoahaa
open Go.RowKit Go.Sort
theorem snaps_at (S : Int) (B : Bool) (L : List Nat) (N : Nat) (ad : Option Addr) (n c : Nat) (vs : List BlkV) (k0 : Nat) (hst : stS noS (bvals (vs.take k0)) = ⟨S, B, L⟩) (hN : L.length = N) (w : World) (hv : Blks w ad n c vs) (hn : n ≤ 1000000) (hk0 : k0 ≤ n) :
    Calls Try.prog 66 #[.slice ad n c, .int .i64 (k0 : Int)] w fun e w' => ∃ ad c, e = .returned (.tuple #[.slice ad N c, .int .i64 S, .bool B]) ∧ Us w' ad N c L ∧ Below w.heap.size w w' := by
  refine (snaps_any ad n c vs k0 w hv hn hk0).mono fun e w' hr => ?_
  obtain ⟨⟨sec, big, sad, sn, sc, sl⟩, rfl, hval, hm, hb⟩ := hr
  rw [hst] at hval
  simp only [StV.val, PS.mk.injEq] at hval
  obtain ⟨rfl, rfl, rfl⟩ := hval
  have hu := StV.us hm
  have hl := Us.len hu
  simp only at hl hu
  rw [hN] at hl
  subst hl
  exact ⟨sad, sc, rfl, hu, hb⟩
theorem fits27_any (R : Bool) (ad : Option Addr) (n c : Nat) (vs : List BlkV) (k0 : Nat) (x : BlkV) (hR : okS (stS noS (bvals (vs.take k0))) x.val = R) (w : World) (hv : Blks w ad n c vs) (hn : n ≤ 1000000) (hk0 : k0 < n) (hx : vs[k0]? = some x) :
    Calls Try.prog 65 #[.slice ad n c, .int .i64 (k0 : Int)] w fun e w' => e = .returned (.bool R) ∧ Below w.heap.size w w' := by
  have HB := Hd (Below.refl w.heap.size w)
  have HV := Hd hv
  have HLN := Hd hv.len
  have HBI := Hd blk_info
  have HZI := Hd zero_info
  have hx' : x = vs[k0]'(by have := HLN.out; omega) := by have := List.getElem?_eq_some_iff.1 hx; exact this.2.symm
  obtain ⟨b, off, rfl, hbl, hat⟩ := hv.at (by have := HLN.out; omega)
  have HR := Hd (show w.rangeAt b (off + k0 * 11) x.cells by rw [hx']; exact hat k0 (by have := HLN.out; omega))
  clear hv hx hx' hat
  obtain ⟨S, B, L, hs⟩ : ∃ S B L, stS noS (bvals (vs.take k0)) = ⟨S, B, L⟩ := ⟨_, _, _, rfl⟩
  obtain ⟨N, hN⟩ : ∃ N, L.length = N := ⟨_, rfl⟩
  have HST := Hd hs
  have HN := Hd hN
  rw [hs] at hR
  have HRR := Hd hR
  clear hs hR hN
  have HC5 : Hid (x.cells.toArray[5]? = some (.int .i64 x.iface)) := Hd rfl
  go_enter Try.func65, Try.ntmps65
  by_cases hk : x.kind = 1
  · skip
    have HC0 : Hid (x.cells.toArray[0]? = some (.int .i64 1)) := Hd (by rw [← hk]; rfl)
    have hres : R = true := by rw [← HRR.out]; exact okS_sec hk
    subst hres
    clear hk
    go_wp2_with (first
 | (go_at_call 66; (refine (snaps_at S B L N (some ⟨b, off, none⟩) n c vs k0 HST.out HN.out _ (HV.out.below HB.out) hn (by omega)).mono ?_); intro e w6 hr; obtain ⟨sad, sc, rfl, hsn, hb__⟩ := hr; have HSN := Hd hsn; have hE__ := cU HB bup hb__; replace HB := ck HB hE__; replace HR := ck HR hE__; clear hE__; clear hb__ hsn)
 | ((with_reducible refine sl 19 ?_); (refine wpL_load rfl 27 (.tmp 18) rfl b (off + k0 * 11) rfl x.cells _ HR.out Try.underlying27 rfl HBI.out ?_); simp only [PT])
 | ((with_reducible refine sl 8 ?_); (refine wpL_newN rfl rfl 27 rfl (.tmp 8) (.tmp 19) rfl x.cells.toArray _ HZI.out rfl (bcells_all _) (fun _ => rfl) (fun _ => rfl) ?_); intro w8 g8 le_g8 lt_g8 hg__ hb__; have HG8 := Hd hg__; have hE__ := cU HB bup hb__; replace HB := ck HB hE__; clear hE__; clear hg__ hb__; simp only [PT])
 | ((with_reducible refine sl 21 ?_); (refine wpL_loadF rfl 3 (.tmp 20) rfl g8 0 rfl (.int .i64 1) HG8.out HC0.out Try.underlying3 rfl ?_); simp only [PT])
 | ((with_reducible refine sl 27 ?_); (refine wpL_loadF rfl 3 (.tmp 26) rfl g8 0 rfl (.int .i64 1) HG8.out HC0.out Try.underlying3 rfl ?_); simp only [PT])
 | ((with_reducible refine sl 31 ?_); (refine wpL_loadF rfl 3 (.tmp 30) rfl g8 0 rfl (.int .i64 1) HG8.out HC0.out Try.underlying3 rfl ?_); simp only [PT])
 | ((with_reducible refine sl 43 ?_); (refine wpL_loadF rfl 3 (.tmp 42) rfl g8 0 rfl (.int .i64 1) HG8.out HC0.out Try.underlying3 rfl ?_); simp only [PT])
 | ((with_reducible refine sl 36 ?_); (refine wpL_loadF rfl 3 (.tmp 35) rfl g8 5 rfl (.int .i64 x.iface) HG8.out HC5.out Try.underlying3 rfl ?_); simp only [PT]))
    go_ret
    exact ⟨rfl, HB.out⟩
  by_cases hs : S < 0
  · skip
    have HC0 : Hid (x.cells.toArray[0]? = some (.int .i64 x.kind)) := Hd (by rfl)
    have hres : R = false := by rw [← HRR.out]; exact okS_neg hk hs
    subst hres
    go_wp2_with (first
 | (go_at_call 66; (refine (snaps_at S B L N (some ⟨b, off, none⟩) n c vs k0 HST.out HN.out _ (HV.out.below HB.out) hn (by omega)).mono ?_); intro e w6 hr; obtain ⟨sad, sc, rfl, hsn, hb__⟩ := hr; have HSN := Hd hsn; have hE__ := cU HB bup hb__; replace HB := ck HB hE__; replace HR := ck HR hE__; clear hE__; clear hb__ hsn)
 | ((with_reducible refine sl 19 ?_); (refine wpL_load rfl 27 (.tmp 18) rfl b (off + k0 * 11) rfl x.cells _ HR.out Try.underlying27 rfl HBI.out ?_); simp only [PT])
 | ((with_reducible refine sl 8 ?_); (refine wpL_newN rfl rfl 27 rfl (.tmp 8) (.tmp 19) rfl x.cells.toArray _ HZI.out rfl (bcells_all _) (fun _ => rfl) (fun _ => rfl) ?_); intro w8 g8 le_g8 lt_g8 hg__ hb__; have HG8 := Hd hg__; have hE__ := cU HB bup hb__; replace HB := ck HB hE__; clear hE__; clear hg__ hb__; simp only [PT])
 | ((with_reducible refine sl 21 ?_); (refine wpL_loadF rfl 3 (.tmp 20) rfl g8 0 rfl (.int .i64 x.kind) HG8.out HC0.out Try.underlying3 rfl ?_); simp only [PT])
 | ((with_reducible refine sl 27 ?_); (refine wpL_loadF rfl 3 (.tmp 26) rfl g8 0 rfl (.int .i64 x.kind) HG8.out HC0.out Try.underlying3 rfl ?_); simp only [PT])
 | ((with_reducible refine sl 31 ?_); (refine wpL_loadF rfl 3 (.tmp 30) rfl g8 0 rfl (.int .i64 x.kind) HG8.out HC0.out Try.underlying3 rfl ?_); simp only [PT])
 | ((with_reducible refine sl 43 ?_); (refine wpL_loadF rfl 3 (.tmp 42) rfl g8 0 rfl (.int .i64 x.kind) HG8.out HC0.out Try.underlying3 rfl ?_); simp only [PT])
 | ((with_reducible refine sl 36 ?_); (refine wpL_loadF rfl 3 (.tmp 35) rfl g8 5 rfl (.int .i64 x.iface) HG8.out HC5.out Try.underlying3 rfl ?_); simp only [PT]))
    go_ret
    exact ⟨rfl, HB.out⟩
  have hs' : 0 ≤ S := by omega
  have hd0 : decide (S < 0) = false := decide_eq_false hs
  have hk1 := hk
  clear hk
  by_cases hk : x.kind = 3
  · by_cases hi : x.iface < (N : Int)
    · skip
      have HC0 : Hid (x.cells.toArray[0]? = some (.int .i64 3)) := Hd (by rw [← hk]; rfl)
      have hres : R = true := by rw [← HRR.out]; exact (okS_36 (.inl hk) hs').trans (by rw [HN.out, show x.val.iface = x.iface from rfl]; simpa using hi)
      subst hres
      clear hk
      go_wp2_with (first
 | (go_at_call 66; (refine (snaps_at S B L N (some ⟨b, off, none⟩) n c vs k0 HST.out HN.out _ (HV.out.below HB.out) hn (by omega)).mono ?_); intro e w6 hr; obtain ⟨sad, sc, rfl, hsn, hb__⟩ := hr; have HSN := Hd hsn; have hE__ := cU HB bup hb__; replace HB := ck HB hE__; replace HR := ck HR hE__; clear hE__; clear hb__ hsn)
 | ((with_reducible refine sl 19 ?_); (refine wpL_load rfl 27 (.tmp 18) rfl b (off + k0 * 11) rfl x.cells _ HR.out Try.underlying27 rfl HBI.out ?_); simp only [PT])
 | ((with_reducible refine sl 8 ?_); (refine wpL_newN rfl rfl 27 rfl (.tmp 8) (.tmp 19) rfl x.cells.toArray _ HZI.out rfl (bcells_all _) (fun _ => rfl) (fun _ => rfl) ?_); intro w8 g8 le_g8 lt_g8 hg__ hb__; have HG8 := Hd hg__; have hE__ := cU HB bup hb__; replace HB := ck HB hE__; clear hE__; clear hg__ hb__; simp only [PT])
 | ((with_reducible refine sl 21 ?_); (refine wpL_loadF rfl 3 (.tmp 20) rfl g8 0 rfl (.int .i64 3) HG8.out HC0.out Try.underlying3 rfl ?_); simp only [PT])
 | ((with_reducible refine sl 27 ?_); (refine wpL_loadF rfl 3 (.tmp 26) rfl g8 0 rfl (.int .i64 3) HG8.out HC0.out Try.underlying3 rfl ?_); simp only [PT])
 | ((with_reducible refine sl 31 ?_); (refine wpL_loadF rfl 3 (.tmp 30) rfl g8 0 rfl (.int .i64 3) HG8.out HC0.out Try.underlying3 rfl ?_); simp only [PT])
 | ((with_reducible refine sl 43 ?_); (refine wpL_loadF rfl 3 (.tmp 42) rfl g8 0 rfl (.int .i64 3) HG8.out HC0.out Try.underlying3 rfl ?_); simp only [PT])
 | ((with_reducible refine sl 36 ?_); (refine wpL_loadF rfl 3 (.tmp 35) rfl g8 5 rfl (.int .i64 x.iface) HG8.out HC5.out Try.underlying3 rfl ?_); simp only [PT]))
      go_ret
      exact ⟨rfl, HB.out⟩
    · skip
      have HC0 : Hid (x.cells.toArray[0]? = some (.int .i64 3)) := Hd (by rw [← hk]; rfl)
      have hres : R = false := by rw [← HRR.out]; exact (okS_36 (.inl hk) hs').trans (by rw [HN.out, show x.val.iface = x.iface from rfl]; simpa using hi)
      subst hres
      clear hk
      go_wp2_with (first
 | (go_at_call 66; (refine (snaps_at S B L N (some ⟨b, off, none⟩) n c vs k0 HST.out HN.out _ (HV.out.below HB.out) hn (by omega)).mono ?_); intro e w6 hr; obtain ⟨sad, sc, rfl, hsn, hb__⟩ := hr; have HSN := Hd hsn; have hE__ := cU HB bup hb__; replace HB := ck HB hE__; replace HR := ck HR hE__; clear hE__; clear hb__ hsn)
 | ((with_reducible refine sl 19 ?_); (refine wpL_load rfl 27 (.tmp 18) rfl b (off + k0 * 11) rfl x.cells _ HR.out Try.underlying27 rfl HBI.out ?_); simp only [PT])
 | ((with_reducible refine sl 8 ?_); (refine wpL_newN rfl rfl 27 rfl (.tmp 8) (.tmp 19) rfl x.cells.toArray _ HZI.out rfl (bcells_all _) (fun _ => rfl) (fun _ => rfl) ?_); intro w8 g8 le_g8 lt_g8 hg__ hb__; have HG8 := Hd hg__; have hE__ := cU HB bup hb__; replace HB := ck HB hE__; clear hE__; clear hg__ hb__; simp only [PT])
 | ((with_reducible refine sl 21 ?_); (refine wpL_loadF rfl 3 (.tmp 20) rfl g8 0 rfl (.int .i64 3) HG8.out HC0.out Try.underlying3 rfl ?_); simp only [PT])
 | ((with_reducible refine sl 27 ?_); (refine wpL_loadF rfl 3 (.tmp 26) rfl g8 0 rfl (.int .i64 3) HG8.out HC0.out Try.underlying3 rfl ?_); simp only [PT])
 | ((with_reducible refine sl 31 ?_); (refine wpL_loadF rfl 3 (.tmp 30) rfl g8 0 rfl (.int .i64 3) HG8.out HC0.out Try.underlying3 rfl ?_); simp only [PT])
 | ((with_reducible refine sl 43 ?_); (refine wpL_loadF rfl 3 (.tmp 42) rfl g8 0 rfl (.int .i64 3) HG8.out HC0.out Try.underlying3 rfl ?_); simp only [PT])
 | ((with_reducible refine sl 36 ?_); (refine wpL_loadF rfl 3 (.tmp 35) rfl g8 5 rfl (.int .i64 x.iface) HG8.out HC5.out Try.underlying3 rfl ?_); simp only [PT]))
      go_ret
      exact ⟨rfl, HB.out⟩
  have hk3 := hk
  have hd3 : decide (x.kind = 3) = false := decide_eq_false hk
  have he3 : (x.kind == 3) = false := by simpa using hk
  clear hk
  by_cases hk : x.kind = 6
  · by_cases hi : x.iface < (N : Int)
    · skip
      have HC0 : Hid (x.cells.toArray[0]? = some (.int .i64 6)) := Hd (by rw [← hk]; rfl)
      have hres : R = true := by rw [← HRR.out]; exact (okS_36 (.inr hk) hs').trans (by rw [HN.out, show x.val.iface = x.iface from rfl]; simpa using hi)
      subst hres
      clear hk
      go_wp2_with (first
 | (go_at_call 66; (refine (snaps_at S B L N (some ⟨b, off, none⟩) n c vs k0 HST.out HN.out _ (HV.out.below HB.out) hn (by omega)).mono ?_); intro e w6 hr; obtain ⟨sad, sc, rfl, hsn, hb__⟩ := hr; have HSN := Hd hsn; have hE__ := cU HB bup hb__; replace HB := ck HB hE__; replace HR := ck HR hE__; clear hE__; clear hb__ hsn)
 | ((with_reducible refine sl 19 ?_); (refine wpL_load rfl 27 (.tmp 18) rfl b (off + k0 * 11) rfl x.cells _ HR.out Try.underlying27 rfl HBI.out ?_); simp only [PT])
 | ((with_reducible refine sl 8 ?_); (refine wpL_newN rfl rfl 27 rfl (.tmp 8) (.tmp 19) rfl x.cells.toArray _ HZI.out rfl (bcells_all _) (fun _ => rfl) (fun _ => rfl) ?_); intro w8 g8 le_g8 lt_g8 hg__ hb__; have HG8 := Hd hg__; have hE__ := cU HB bup hb__; replace HB := ck HB hE__; clear hE__; clear hg__ hb__; simp only [PT])
 | ((with_reducible refine sl 21 ?_); (refine wpL_loadF rfl 3 (.tmp 20) rfl g8 0 rfl (.int .i64 6) HG8.out HC0.out Try.underlying3 rfl ?_); simp only [PT])
 | ((with_reducible refine sl 27 ?_); (refine wpL_loadF rfl 3 (.tmp 26) rfl g8 0 rfl (.int .i64 6) HG8.out HC0.out Try.underlying3 rfl ?_); simp only [PT])
 | ((with_reducible refine sl 31 ?_); (refine wpL_loadF rfl 3 (.tmp 30) rfl g8 0 rfl (.int .i64 6) HG8.out HC0.out Try.underlying3 rfl ?_); simp only [PT])
 | ((with_reducible refine sl 43 ?_); (refine wpL_loadF rfl 3 (.tmp 42) rfl g8 0 rfl (.int .i64 6) HG8.out HC0.out Try.underlying3 rfl ?_); simp only [PT])
 | ((with_reducible refine sl 36 ?_); (refine wpL_loadF rfl 3 (.tmp 35) rfl g8 5 rfl (.int .i64 x.iface) HG8.out HC5.out Try.underlying3 rfl ?_); simp only [PT]))
      go_ret
      exact ⟨rfl, HB.out⟩
    · skip
      have HC0 : Hid (x.cells.toArray[0]? = some (.int .i64 6)) := Hd (by rw [← hk]; rfl)
      have hres : R = false := by rw [← HRR.out]; exact (okS_36 (.inr hk) hs').trans (by rw [HN.out, show x.val.iface = x.iface from rfl]; simpa using hi)
      subst hres
      clear hk
      go_wp2_with (first
 | (go_at_call 66; (refine (snaps_at S B L N (some ⟨b, off, none⟩) n c vs k0 HST.out HN.out _ (HV.out.below HB.out) hn (by omega)).mono ?_); intro e w6 hr; obtain ⟨sad, sc, rfl, hsn, hb__⟩ := hr; have HSN := Hd hsn; have hE__ := cU HB bup hb__; replace HB := ck HB hE__; replace HR := ck HR hE__; clear hE__; clear hb__ hsn)
 | ((with_reducible refine sl 19 ?_); (refine wpL_load rfl 27 (.tmp 18) rfl b (off + k0 * 11) rfl x.cells _ HR.out Try.underlying27 rfl HBI.out ?_); simp only [PT])
 | ((with_reducible refine sl 8 ?_); (refine wpL_newN rfl rfl 27 rfl (.tmp 8) (.tmp 19) rfl x.cells.toArray _ HZI.out rfl (bcells_all _) (fun _ => rfl) (fun _ => rfl) ?_); intro w8 g8 le_g8 lt_g8 hg__ hb__; have HG8 := Hd hg__; have hE__ := cU HB bup hb__; replace HB := ck HB hE__; clear hE__; clear hg__ hb__; simp only [PT])
 | ((with_reducible refine sl 21 ?_); (refine wpL_loadF rfl 3 (.tmp 20) rfl g8 0 rfl (.int .i64 6) HG8.out HC0.out Try.underlying3 rfl ?_); simp only [PT])
 | ((with_reducible refine sl 27 ?_); (refine wpL_loadF rfl 3 (.tmp 26) rfl g8 0 rfl (.int .i64 6) HG8.out HC0.out Try.underlying3 rfl ?_); simp only [PT])
 | ((with_reducible refine sl 31 ?_); (refine wpL_loadF rfl 3 (.tmp 30) rfl g8 0 rfl (.int .i64 6) HG8.out HC0.out Try.underlying3 rfl ?_); simp only [PT])
 | ((with_reducible refine sl 43 ?_); (refine wpL_loadF rfl 3 (.tmp 42) rfl g8 0 rfl (.int .i64 6) HG8.out HC0.out Try.underlying3 rfl ?_); simp only [PT])
 | ((with_reducible refine sl 36 ?_); (refine wpL_loadF rfl 3 (.tmp 35) rfl g8 5 rfl (.int .i64 x.iface) HG8.out HC5.out Try.underlying3 rfl ?_); simp only [PT]))
      go_ret
      exact ⟨rfl, HB.out⟩
  have hk6 := hk
  have hd6 : decide (x.kind = 6) = false := decide_eq_false hk
  have he6 : (x.kind == 6) = false := by simpa using hk
  clear hk
  by_cases hk : x.kind = 4
  · by_cases hi : 0 < N
    · skip
      have HC0 : Hid (x.cells.toArray[0]? = some (.int .i64 4)) := Hd (by rw [← hk]; rfl)
      have hres : R = true := by rw [← HRR.out]; exact (okS_4 hk hs').trans (by rw [HN.out]; simpa using hi)
      subst hres
      clear hk
      go_wp2_with (first
 | (go_at_call 66; (refine (snaps_at S B L N (some ⟨b, off, none⟩) n c vs k0 HST.out HN.out _ (HV.out.below HB.out) hn (by omega)).mono ?_); intro e w6 hr; obtain ⟨sad, sc, rfl, hsn, hb__⟩ := hr; have HSN := Hd hsn; have hE__ := cU HB bup hb__; replace HB := ck HB hE__; replace HR := ck HR hE__; clear hE__; clear hb__ hsn)
 | ((with_reducible refine sl 19 ?_); (refine wpL_load rfl 27 (.tmp 18) rfl b (off + k0 * 11) rfl x.cells _ HR.out Try.underlying27 rfl HBI.out ?_); simp only [PT])
 | ((with_reducible refine sl 8 ?_); (refine wpL_newN rfl rfl 27 rfl (.tmp 8) (.tmp 19) rfl x.cells.toArray _ HZI.out rfl (bcells_all _) (fun _ => rfl) (fun _ => rfl) ?_); intro w8 g8 le_g8 lt_g8 hg__ hb__; have HG8 := Hd hg__; have hE__ := cU HB bup hb__; replace HB := ck HB hE__; clear hE__; clear hg__ hb__; simp only [PT])
 | ((with_reducible refine sl 21 ?_); (refine wpL_loadF rfl 3 (.tmp 20) rfl g8 0 rfl (.int .i64 4) HG8.out HC0.out Try.underlying3 rfl ?_); simp only [PT])
 | ((with_reducible refine sl 27 ?_); (refine wpL_loadF rfl 3 (.tmp 26) rfl g8 0 rfl (.int .i64 4) HG8.out HC0.out Try.underlying3 rfl ?_); simp only [PT])
 | ((with_reducible refine sl 31 ?_); (refine wpL_loadF rfl 3 (.tmp 30) rfl g8 0 rfl (.int .i64 4) HG8.out HC0.out Try.underlying3 rfl ?_); simp only [PT])
 | ((with_reducible refine sl 43 ?_); (refine wpL_loadF rfl 3 (.tmp 42) rfl g8 0 rfl (.int .i64 4) HG8.out HC0.out Try.underlying3 rfl ?_); simp only [PT])
 | ((with_reducible refine sl 36 ?_); (refine wpL_loadF rfl 3 (.tmp 35) rfl g8 5 rfl (.int .i64 x.iface) HG8.out HC5.out Try.underlying3 rfl ?_); simp only [PT]))
      go_ret
      exact ⟨rfl, HB.out⟩
    · skip
      have HC0 : Hid (x.cells.toArray[0]? = some (.int .i64 4)) := Hd (by rw [← hk]; rfl)
      have hres : R = false := by rw [← HRR.out]; exact (okS_4 hk hs').trans (by rw [HN.out]; simpa using hi)
      subst hres
      clear hk
      go_wp2_with (first
 | (go_at_call 66; (refine (snaps_at S B L N (some ⟨b, off, none⟩) n c vs k0 HST.out HN.out _ (HV.out.below HB.out) hn (by omega)).mono ?_); intro e w6 hr; obtain ⟨sad, sc, rfl, hsn, hb__⟩ := hr; have HSN := Hd hsn; have hE__ := cU HB bup hb__; replace HB := ck HB hE__; replace HR := ck HR hE__; clear hE__; clear hb__ hsn)
 | ((with_reducible refine sl 19 ?_); (refine wpL_load rfl 27 (.tmp 18) rfl b (off + k0 * 11) rfl x.cells _ HR.out Try.underlying27 rfl HBI.out ?_); simp only [PT])
 | ((with_reducible refine sl 8 ?_); (refine wpL_newN rfl rfl 27 rfl (.tmp 8) (.tmp 19) rfl x.cells.toArray _ HZI.out rfl (bcells_all _) (fun _ => rfl) (fun _ => rfl) ?_); intro w8 g8 le_g8 lt_g8 hg__ hb__; have HG8 := Hd hg__; have hE__ := cU HB bup hb__; replace HB := ck HB hE__; clear hE__; clear hg__ hb__; simp only [PT])
 | ((with_reducible refine sl 21 ?_); (refine wpL_loadF rfl 3 (.tmp 20) rfl g8 0 rfl (.int .i64 4) HG8.out HC0.out Try.underlying3 rfl ?_); simp only [PT])
 | ((with_reducible refine sl 27 ?_); (refine wpL_loadF rfl 3 (.tmp 26) rfl g8 0 rfl (.int .i64 4) HG8.out HC0.out Try.underlying3 rfl ?_); simp only [PT])
 | ((with_reducible refine sl 31 ?_); (refine wpL_loadF rfl 3 (.tmp 30) rfl g8 0 rfl (.int .i64 4) HG8.out HC0.out Try.underlying3 rfl ?_); simp only [PT])
 | ((with_reducible refine sl 43 ?_); (refine wpL_loadF rfl 3 (.tmp 42) rfl g8 0 rfl (.int .i64 4) HG8.out HC0.out Try.underlying3 rfl ?_); simp only [PT])
 | ((with_reducible refine sl 36 ?_); (refine wpL_loadF rfl 3 (.tmp 35) rfl g8 5 rfl (.int .i64 x.iface) HG8.out HC5.out Try.underlying3 rfl ?_); simp only [PT]))
      go_ret
      exact ⟨rfl, HB.out⟩
  · skip
    have HC0 : Hid (x.cells.toArray[0]? = some (.int .i64 x.kind)) := Hd (by rfl)
    have hres : R = true := by rw [← HRR.out]; exact okS_else hk1 hk3 hk6 hk hs'
    subst hres
    go_wp2_with (first
 | (go_at_call 66; (refine (snaps_at S B L N (some ⟨b, off, none⟩) n c vs k0 HST.out HN.out _ (HV.out.below HB.out) hn (by omega)).mono ?_); intro e w6 hr; obtain ⟨sad, sc, rfl, hsn, hb__⟩ := hr; have HSN := Hd hsn; have hE__ := cU HB bup hb__; replace HB := ck HB hE__; replace HR := ck HR hE__; clear hE__; clear hb__ hsn)
 | ((with_reducible refine sl 19 ?_); (refine wpL_load rfl 27 (.tmp 18) rfl b (off + k0 * 11) rfl x.cells _ HR.out Try.underlying27 rfl HBI.out ?_); simp only [PT])
 | ((with_reducible refine sl 8 ?_); (refine wpL_newN rfl rfl 27 rfl (.tmp 8) (.tmp 19) rfl x.cells.toArray _ HZI.out rfl (bcells_all _) (fun _ => rfl) (fun _ => rfl) ?_); intro w8 g8 le_g8 lt_g8 hg__ hb__; have HG8 := Hd hg__; have hE__ := cU HB bup hb__; replace HB := ck HB hE__; clear hE__; clear hg__ hb__; simp only [PT])
 | ((with_reducible refine sl 21 ?_); (refine wpL_loadF rfl 3 (.tmp 20) rfl g8 0 rfl (.int .i64 x.kind) HG8.out HC0.out Try.underlying3 rfl ?_); simp only [PT])
 | ((with_reducible refine sl 27 ?_); (refine wpL_loadF rfl 3 (.tmp 26) rfl g8 0 rfl (.int .i64 x.kind) HG8.out HC0.out Try.underlying3 rfl ?_); simp only [PT])
 | ((with_reducible refine sl 31 ?_); (refine wpL_loadF rfl 3 (.tmp 30) rfl g8 0 rfl (.int .i64 x.kind) HG8.out HC0.out Try.underlying3 rfl ?_); simp only [PT])
 | ((with_reducible refine sl 43 ?_); (refine wpL_loadF rfl 3 (.tmp 42) rfl g8 0 rfl (.int .i64 x.kind) HG8.out HC0.out Try.underlying3 rfl ?_); simp only [PT])
 | ((with_reducible refine sl 36 ?_); (refine wpL_loadF rfl 3 (.tmp 35) rfl g8 5 rfl (.int .i64 x.iface) HG8.out HC5.out Try.underlying3 rfl ?_); simp only [PT]))
    go_ret
    exact ⟨rfl, HB.out⟩
theorem refBytes1 (v : BlkV) (big : Bool) (w : World) (hv : Blk w v) (hk : v.kind = 1) (hf : SmB v) (hm : mayP v.val = true) (hw : wfB v.val) :
    Calls Try.prog 25 #[.agg v.cells.toArray, .bool big] w (RetB 5 (bytesB big v.val) w) := by
  obtain ⟨z1, z2, z3⟩ := hf.sizes
  obtain ⟨_, hfit, hlink, hifc, hwo, hwn, hlast⟩ := (mayP_iff v.val).1 hm
  obtain ⟨hw1, hw2, hw3, hw4'⟩ := hw
  change 0 ≤ v.link ∧ v.link ≤ 65535 at hlink
  change 0 ≤ v.iface ∧ v.iface ≤ 4294967295 at hifc
  have hoo : ∀ o ∈ vals v.os, okO o := wrongO_zero.1 hwo
  have hon : ∀ o ∈ vals v.ns, okO o := wrongO_zero.1 hwn
  change v.type < 4294967296 at hw1
  change v.snap < 4294967296 at hw2
  change v.time < 18446744073709551616 at hw3
  change v.len < 4294967296 at hw4'
  have HB := Hd (Below.refl w.heap.size w)
  have HV := Hd hv
  have hdn := hv.1.len
  have HDN := Hd hdn
  have hdl : v.dl.length ≤ 1100000 := by omega
  have HGG : Hid (ordB big v.val = v.big) := Hd (by show (if v.kind = 1 then v.big else big) = _; rw [if_pos hk])
  have HTY : Hid (typeB v.val = 168627466) := Hd (by show (if v.kind = 7 then v.type else typeP v.kind) = _; rw [if_neg (by omega), hk]; rfl)
  have ew : IntKind.u64.wrap (v.type : Int) = (v.type : Int) := by rw [IntKind.wrap_u64]; omega
  have HKK := Hd hk
  clear hv hf hm hfit hwo hwn hlast hdn
  obtain ⟨L1, hL1⟩ : ∃ L : List UInt8, L = [] ++ putL 439041101 4 v.big := ⟨_, rfl⟩
  have lL1 : L1.length ≤ 4 := by rw [hL1]; simp [putL4_length]
  have HL1 := Hd hL1
  clear hL1
  obtain ⟨P1, hP1⟩ : ∃ L : List UInt8, L = putL 1 2 v.big := ⟨_, rfl⟩
  have lP1 : P1.length ≤ 2 := by rw [hP1]; rw [putL2_length]; omega
  have HP1 := Hd hP1
  clear hP1
  obtain ⟨L2, hL2⟩ : ∃ L : List UInt8, L = L1 ++ P1 := ⟨_, rfl⟩
  have lL2 : L2.length ≤ 6 := by rw [hL2]; rw [List.length_append]; omega
  have HL2 := Hd hL2
  clear hL2
  obtain ⟨L3, hL3⟩ : ∃ L : List UInt8, L = L2 ++ [0, 0, 255, 255, 255, 255, 255, 255, 255, 255] := ⟨_, rfl⟩
  have lL3 : L3.length ≤ 16 := by rw [hL3]; rw [List.length_append]; simp; omega
  have HL3 := Hd hL3
  clear hL3
  have HFB : Hid (L3 = fieldsB v.big v.val) := Hd (by rw [HL3.out, HL2.out, HL1.out, HP1.out]; unfold fieldsB; simp [show v.val.kind = 1 from HKK.out])
  obtain ⟨PO, hPO⟩ : ∃ L : List UInt8, L = putAll v.big (vals v.os) := ⟨_, rfl⟩
  have lPO : PO.length ≤ 70424 := by rw [hPO]; rw [putAll_length]; split <;> omega
  have HPO := Hd hPO
  clear hPO
  obtain ⟨BD, hBD⟩ : ∃ L : List UInt8, L = L3 ++ PO := ⟨_, rfl⟩
  have HFL : Hid (BD = bodyB v.big v.val) := Hd (by rw [hBD]; unfold bodyB; rw [HFB.out, HPO.out]; rfl)
  have lBD : BD.length ≤ 1300000 := by rw [hBD, List.length_append]; first | omega | (simp; omega)
  have HBD := Hd hBD
  clear hBD
  obtain ⟨N, hN⟩ : ∃ N, N = BD.length + 12 := ⟨_, rfl⟩
  have hNi : (BD.length : Int) + 12 = (N : Int) := by omega
  have hNw : IntKind.i64.wrap ((BD.length : Int) + 12) = (N : Int) := by rw [IntKind.wrap_i64]; omega
  have hNu : IntKind.u64.wrap (N : Int) = (N : Int) := by rw [IntKind.wrap_u64]; omega
  have hNv : IntKind.i64.wrap (N : Int) = (N : Int) := by rw [IntKind.wrap_i64]; omega
  have hNb : N ≤ 1400000 := by omega
  have HSZ : Hid (sizeB v.val = N) := Hd (by rw [hN, HFL.out]; unfold sizeB; rw [bodyB_length v.big]; omega)
  clear hN
  obtain ⟨O1, hO1⟩ : ∃ L : List UInt8, L = [] ++ putL 168627466 4 v.big := ⟨_, rfl⟩
  have lO1 : O1.length ≤ 4 := by rw [hO1]; rw [List.length_append, putL4_length]; simp
  have HO1 := Hd hO1
  clear hO1
  obtain ⟨O2, hO2⟩ : ∃ L : List UInt8, L = O1 ++ putL N 4 v.big := ⟨_, rfl⟩
  have lO2 : O2.length ≤ 8 := by rw [hO2]; rw [List.length_append, putL4_length]; omega
  have HO2 := Hd hO2
  clear hO2
  obtain ⟨O3, hO3⟩ : ∃ L : List UInt8, L = O2 ++ BD := ⟨_, rfl⟩
  have lO3 : O3.length ≤ 1300010 := by rw [hO3]; rw [List.length_append]; omega
  have HO3 := Hd hO3
  clear hO3
  obtain ⟨O4, hO4⟩ : ∃ L : List UInt8, L = O3 ++ putL N 4 v.big := ⟨_, rfl⟩
  have lO4 : O4.length ≤ 1300020 := by rw [hO4]; rw [List.length_append, putL4_length]; omega
  have HO4 := Hd hO4
  clear hO4
  have HFIN : Hid (bytesB big v.val = O4) := Hd (by
    unfold bytesB
    rw [HGG.out, HTY.out, HSZ.out, ← HFL.out, HO4.out, HO3.out, HO2.out, HO1.out]
    simp only [List.append_assoc, List.nil_append])
  go_enter Try.func25, Try.ntmps25
  go_wp2_with (first
 | ((with_reducible refine sl 2 ?_); (refine wpL_boxG rfl 27 (.tmp 0) rfl v.cells.toArray rfl ?_); intro w1 g2 he__ le_g2 lt_g2 hg__ hb__; have HG2 := Hd hg__; have hE__ := cU HB bup hb__; replace HB := ck HB hE__; clear hE__; clear hg__ hb__ he__; have HE := Hd (Below.refl w1.heap.size w1); have HO := Hd (World.ownsRow_nil w1 w1.heap.size 5 1); rw [← show BV [] = [] from rfl] at HO; simp only [PT])
 | ((with_reducible refine sl 10 ?_); (refine wpL_loadF rfl 22 (.tmp 9) rfl g2 2 rfl (.int .u32 (v.type : Int)) (by exact ((HE.out.block _ (lt_of_block HG2.out)).trans HG2.out)) rfl Try.underlying22 rfl ?_); simp only [PT])
 | ((with_reducible refine sl 13 ?_); (refine wpL_loadF rfl 3 (.tmp 12) rfl g2 0 rfl (.int .i64 v.kind) (by exact ((HE.out.block _ (lt_of_block HG2.out)).trans HG2.out)) rfl Try.underlying3 rfl ?_); simp only [PT])
 | ((with_reducible refine sl 17 ?_); (refine wpL_loadF rfl 4 (.tmp 16) rfl g2 1 rfl (.bool v.big) (by exact ((HE.out.block _ (lt_of_block HG2.out)).trans HG2.out)) rfl Try.underlying4 rfl ?_); simp only [PT])
 | (go_at_call 52; (with_reducible show Calls _ _ #[_, Value.int .u64 439041101, _] _ _); (refine (four_int w1.heap.size none ([] : List UInt8).length 0 ([] : List UInt8) _ 439041101 (by first | rfl | omega) v.big _ (by omega) (by first | omega | exact Nat.zero_le _) rfl (own_keep HO.out bup) (Nat.le_trans HE.out.size (bsz bup))).mono ?_); intro e w2 hr; rw [← HL1.out] at hr; obtain ⟨⟨ad1, c1, rfl, ho__⟩, hb__⟩ := hr; replace HE := cEb HE bup hb__; clear HO; have HO := Hd ho__; clear ho__ hb__)
 | (go_at_call 53; (with_reducible show Calls _ _ #[Value.int .u64 1, Value.int .i64 2, _] _ _); (refine (refPut_any 1 2 v.big _ (by omega)).mono ?_); intro e w3 hr; rw [← HP1.out] at hr; unfold RetB at hr; obtain ⟨adq, cq, rfl, ho__, hb__⟩ := hr; have BP1 := Hd (Bs.of_own ho__); replace HO := cOa HO bup hb__; replace HE := cE0 HE bup hb__; clear hb__ ho__)
 | ((with_reducible refine sl 24 ?_); (refine wpL_appL elB rfl (.tmp 21) (.tmp 23) rfl w1.heap.size rfl (own_keep HO.out bup) rfl (BP1.out.below bup) L2 HL2.out.symm (by omega) (Nat.le_trans HE.out.size (bsz bup)) ?_); intro ad2 c2 w4 ho__ hb__; replace HE := cEb HE bup hb__; clear HO; have HO := Hd ho__; clear ho__ hb__; simp only [PT])
 | ((with_reducible refine sl 26 ?_); (refine wpL_lit rfl 10 _ rfl [0, 0, 255, 255, 255, 255, 255, 255, 255, 255] rfl (by decide) (by decide) (by rfl) ?_); intro w5 adl le__ ho__ hb__; have BL1 := Hd (Bs.of_own ho__); replace HO := cOa HO bup hb__; replace HE := cE0 HE bup hb__; clear hb__ ho__ le__; simp only [PT])
 | ((with_reducible refine sl 27 ?_); (refine wpL_appL elB rfl (.tmp 25) (.tmp 26) rfl w1.heap.size rfl (own_keep HO.out bup) rfl (BL1.out.below bup) L3 HL3.out.symm (by omega) (Nat.le_trans HE.out.size (bsz bup)) ?_); intro ad3 c3 w6 ho__ hb__; replace HE := cEb HE bup hb__; clear HO; have HO := Hd ho__; clear ho__ hb__; simp only [PT])
 | ((with_reducible refine sl 119 ?_); (refine wpL_loadF rfl 25 (.tmp 118) rfl g2 10 rfl (.slice v.oad v.on v.oc) (by exact ((HE.out.block _ (lt_of_block HG2.out)).trans HG2.out)) rfl Try.underlying25 rfl ?_); simp only [PT])
 | (go_at_call 56; (with_reducible show Calls _ _ #[Value.slice v.oad _ _, _] _ _); (refine (refOptPut_any v.oad v.on v.oc v.os v.big _ (HV.out.2.2.below ((HB.out.trans (HE.out.mono HB.out.size)).trans (Below.mono bup (Nat.le_trans HB.out.size HE.out.size)))) (by omega) hoo).mono ?_); intro e wp hr; rw [← HPO.out] at hr; unfold RetB at hr; obtain ⟨adp, cp, rfl, ho__, hb__⟩ := hr; have BPO := Hd (Bs.of_own ho__); replace HO := cOa HO bup hb__; replace HE := cE0 HE bup hb__; clear hb__ ho__)
 | ((with_reducible refine sl 122 ?_); (refine wpL_appL elB rfl (.tmp 117) (.tmp 121) rfl w1.heap.size rfl (own_keep HO.out bup) rfl (BPO.out.below bup) BD HBD.out.symm (by omega) (Nat.le_trans HE.out.size (bsz bup)) ?_); intro adb cb wb ho__ hb__; replace HE := cEb HE bup hb__; clear HO; have HO := Hd ho__; clear ho__ hb__; have HS := Hd (Bs.of_own HO.out); have HF := Hd (Below.refl wb.heap.size wb); have HP := Hd (World.ownsRow_nil wb wb.heap.size 5 1); rw [← show BV [] = [] from rfl] at HP; simp only [PT])
 | (go_at_call 52; (with_reducible show Calls _ _ #[Value.slice none _ _, _, _] _ _); (refine (four_int wb.heap.size none ([] : List UInt8).length 0 ([] : List UInt8) _ 168627466 (by first | rfl | omega) v.big _ (by omega) (by first | omega | exact Nat.zero_le _) rfl (own_keep HP.out bup) (Nat.le_trans HF.out.size (bsz bup))).mono ?_); intro e wx hr; rw [← HO1.out] at hr; obtain ⟨⟨adx, cx, rfl, ho__⟩, hb__⟩ := hr; replace HF := cEb HF bup hb__; clear HP; have HP := Hd ho__; clear ho__ hb__)
 | (go_at_call 52; (with_reducible show Calls _ _ #[Value.slice adx _ _, _, _] _ _); (refine (four_int wb.heap.size adx O1.length cx O1 _ N (by first | rfl | omega) v.big _ (by omega) (by first | omega | exact Nat.zero_le _) rfl (own_keep HP.out bup) (Nat.le_trans HF.out.size (bsz bup))).mono ?_); intro e wy hr; rw [← HO2.out] at hr; obtain ⟨⟨ady, cy, rfl, ho__⟩, hb__⟩ := hr; replace HF := cEb HF bup hb__; clear HP; have HP := Hd ho__; clear ho__ hb__)
 | ((with_reducible refine sl 135 ?_); (refine wpL_appL elB rfl (.tmp 133) (.tmp 134) rfl wb.heap.size rfl (own_keep HP.out bup) rfl (HS.out.below (HF.out.trans (Below.mono bup HF.out.size))) O3 HO3.out.symm (by omega) (Nat.le_trans HF.out.size (bsz bup)) ?_); intro adw cw ww ho__ hb__; replace HF := cEb HF bup hb__; clear HP; have HP := Hd ho__; clear ho__ hb__; simp only [PT])
 | (go_at_call 52; (with_reducible show Calls _ _ #[Value.slice adw _ _, _, _] _ _); (refine (four_int wb.heap.size adw O3.length cw O3 _ N (by first | rfl | omega) v.big _ (by omega) (by first | omega | exact Nat.zero_le _) rfl (own_keep HP.out bup) (Nat.le_trans HF.out.size (bsz bup))).mono ?_); intro e wz hr; rw [← HO4.out] at hr; obtain ⟨⟨adz, cz, rfl, ho__⟩, hb__⟩ := hr; replace HF := cEb HF bup hb__; clear HP; have HP := Hd ho__; clear ho__ hb__))
  go_ret
  exact ⟨adz, cz, by rw [HFIN.out]; rfl, by rw [HFIN.out]; exact own_base HP.out (Nat.le_trans HB.out.size HE.out.size), HB.out.trans ((HE.out.trans (HF.out.mono HE.out.size)).mono HB.out.size)⟩
theorem refBytes2 (v : BlkV) (big : Bool) (w : World) (hv : Blk w v) (hk : v.kind = 2) (hf : SmB v) (hm : mayP v.val = true) (hw : wfB v.val) :
    Calls Try.prog 25 #[.agg v.cells.toArray, .bool big] w (RetB 5 (bytesB big v.val) w) := by
  obtain ⟨z1, z2, z3⟩ := hf.sizes
  obtain ⟨_, hfit, hlink, hifc, hwo, hwn, hlast⟩ := (mayP_iff v.val).1 hm
  obtain ⟨hw1, hw2, hw3, hw4'⟩ := hw
  change 0 ≤ v.link ∧ v.link ≤ 65535 at hlink
  change 0 ≤ v.iface ∧ v.iface ≤ 4294967295 at hifc
  have hoo : ∀ o ∈ vals v.os, okO o := wrongO_zero.1 hwo
  have hon : ∀ o ∈ vals v.ns, okO o := wrongO_zero.1 hwn
  change v.type < 4294967296 at hw1
  change v.snap < 4294967296 at hw2
  change v.time < 18446744073709551616 at hw3
  change v.len < 4294967296 at hw4'
  have HB := Hd (Below.refl w.heap.size w)
  have HV := Hd hv
  have hdn := hv.1.len
  have HDN := Hd hdn
  have hdl : v.dl.length ≤ 1100000 := by omega
  have HGG : Hid (ordB big v.val = big) := Hd (by show (if v.kind = 1 then v.big else big) = _; rw [if_neg (by omega)])
  have HTY : Hid (typeB v.val = 1) := Hd (by show (if v.kind = 7 then v.type else typeP v.kind) = _; rw [if_neg (by omega), hk]; rfl)
  have ew : IntKind.u64.wrap (v.type : Int) = (v.type : Int) := by rw [IntKind.wrap_u64]; omega
  have HKK := Hd hk
  clear hv hf hm hfit hwo hwn hlast hdn
  obtain ⟨lk, hlk⟩ : ∃ n, n = v.link.toNat := ⟨_, rfl⟩
  have hlk2 : IntKind.u64.wrap v.link = (lk : Int) := by rw [IntKind.wrap_u64]; omega
  have hlk3 : lk ≤ 65535 := by omega
  have HLK := Hd hlk
  clear hlk
  have es : IntKind.u64.wrap (v.snap : Int) = (v.snap : Int) := by rw [IntKind.wrap_u64]; omega
  obtain ⟨P1, hP1⟩ : ∃ L : List UInt8, L = putL lk 2 big := ⟨_, rfl⟩
  have lP1 : P1.length ≤ 2 := by rw [hP1]; rw [putL2_length]; omega
  have HP1 := Hd hP1
  clear hP1
  obtain ⟨L1, hL1⟩ : ∃ L : List UInt8, L = [] ++ P1 := ⟨_, rfl⟩
  have lL1 : L1.length ≤ 2 := by rw [hL1]; simpa using lP1
  have HL1 := Hd hL1
  clear hL1
  obtain ⟨L2, hL2⟩ : ∃ L : List UInt8, L = L1 ++ [0, 0] := ⟨_, rfl⟩
  have lL2 : L2.length ≤ 4 := by rw [hL2]; rw [List.length_append]; simp; omega
  have HL2 := Hd hL2
  clear hL2
  obtain ⟨L3, hL3⟩ : ∃ L : List UInt8, L = L2 ++ putL v.snap 4 big := ⟨_, rfl⟩
  have lL3 : L3.length ≤ 8 := by rw [hL3]; rw [List.length_append, putL4_length]; omega
  have HL3 := Hd hL3
  clear hL3
  have HFB : Hid (L3 = fieldsB big v.val) := Hd (by rw [HL3.out, HL2.out, HL1.out, HP1.out, HLK.out]; unfold fieldsB; simp [show v.val.kind = 2 from HKK.out]; rfl)
  obtain ⟨PO, hPO⟩ : ∃ L : List UInt8, L = putAll big (vals v.os) := ⟨_, rfl⟩
  have lPO : PO.length ≤ 70424 := by rw [hPO]; rw [putAll_length]; split <;> omega
  have HPO := Hd hPO
  clear hPO
  obtain ⟨BD, hBD⟩ : ∃ L : List UInt8, L = L3 ++ PO := ⟨_, rfl⟩
  have HFL : Hid (BD = bodyB big v.val) := Hd (by rw [hBD]; unfold bodyB; rw [HFB.out, HPO.out]; rfl)
  have lBD : BD.length ≤ 1300000 := by rw [hBD, List.length_append]; first | omega | (simp; omega)
  have HBD := Hd hBD
  clear hBD
  obtain ⟨N, hN⟩ : ∃ N, N = BD.length + 12 := ⟨_, rfl⟩
  have hNi : (BD.length : Int) + 12 = (N : Int) := by omega
  have hNw : IntKind.i64.wrap ((BD.length : Int) + 12) = (N : Int) := by rw [IntKind.wrap_i64]; omega
  have hNu : IntKind.u64.wrap (N : Int) = (N : Int) := by rw [IntKind.wrap_u64]; omega
  have hNv : IntKind.i64.wrap (N : Int) = (N : Int) := by rw [IntKind.wrap_i64]; omega
  have hNb : N ≤ 1400000 := by omega
  have HSZ : Hid (sizeB v.val = N) := Hd (by rw [hN, HFL.out]; unfold sizeB; rw [bodyB_length big]; omega)
  clear hN
  obtain ⟨O1, hO1⟩ : ∃ L : List UInt8, L = [] ++ putL 1 4 big := ⟨_, rfl⟩
  have lO1 : O1.length ≤ 4 := by rw [hO1]; rw [List.length_append, putL4_length]; simp
  have HO1 := Hd hO1
  clear hO1
  obtain ⟨O2, hO2⟩ : ∃ L : List UInt8, L = O1 ++ putL N 4 big := ⟨_, rfl⟩
  have lO2 : O2.length ≤ 8 := by rw [hO2]; rw [List.length_append, putL4_length]; omega
  have HO2 := Hd hO2
  clear hO2
  obtain ⟨O3, hO3⟩ : ∃ L : List UInt8, L = O2 ++ BD := ⟨_, rfl⟩
  have lO3 : O3.length ≤ 1300010 := by rw [hO3]; rw [List.length_append]; omega
  have HO3 := Hd hO3
  clear hO3
  obtain ⟨O4, hO4⟩ : ∃ L : List UInt8, L = O3 ++ putL N 4 big := ⟨_, rfl⟩
  have lO4 : O4.length ≤ 1300020 := by rw [hO4]; rw [List.length_append, putL4_length]; omega
  have HO4 := Hd hO4
  clear hO4
  have HFIN : Hid (bytesB big v.val = O4) := Hd (by
    unfold bytesB
    rw [HGG.out, HTY.out, HSZ.out, ← HFL.out, HO4.out, HO3.out, HO2.out, HO1.out]
    simp only [List.append_assoc, List.nil_append])
  go_enter Try.func25, Try.ntmps25
  go_wp2_with (first
 | ((with_reducible refine sl 2 ?_); (refine wpL_boxG rfl 27 (.tmp 0) rfl v.cells.toArray rfl ?_); intro w1 g2 he__ le_g2 lt_g2 hg__ hb__; have HG2 := Hd hg__; have hE__ := cU HB bup hb__; replace HB := ck HB hE__; clear hE__; clear hg__ hb__ he__; have HE := Hd (Below.refl w1.heap.size w1); have HO := Hd (World.ownsRow_nil w1 w1.heap.size 5 1); rw [← show BV [] = [] from rfl] at HO; simp only [PT])
 | ((with_reducible refine sl 10 ?_); (refine wpL_loadF rfl 22 (.tmp 9) rfl g2 2 rfl (.int .u32 (v.type : Int)) (by exact ((HE.out.block _ (lt_of_block HG2.out)).trans HG2.out)) rfl Try.underlying22 rfl ?_); simp only [PT])
 | ((with_reducible refine sl 13 ?_); (refine wpL_loadF rfl 3 (.tmp 12) rfl g2 0 rfl (.int .i64 v.kind) (by exact ((HE.out.block _ (lt_of_block HG2.out)).trans HG2.out)) rfl Try.underlying3 rfl ?_); simp only [PT])
 | ((with_reducible refine sl 32 ?_); (refine wpL_loadF rfl 3 (.tmp 31) rfl g2 3 rfl (.int .i64 v.link) (by exact ((HE.out.block _ (lt_of_block HG2.out)).trans HG2.out)) rfl Try.underlying3 rfl ?_); simp only [PT])
 | ((with_reducible refine sl 42 ?_); (refine wpL_loadF rfl 22 (.tmp 41) rfl g2 4 rfl (.int .u32 (v.snap : Int)) (by exact ((HE.out.block _ (lt_of_block HG2.out)).trans HG2.out)) rfl Try.underlying22 rfl ?_); simp only [PT])
 | (go_at_call 53; (with_reducible show Calls _ _ #[_, Value.int .i64 2, _] _ _); (refine (refPut_any lk 2 big _ (by omega)).mono ?_); intro e w3 hr; rw [← HP1.out] at hr; unfold RetB at hr; obtain ⟨adq, cq, rfl, ho__, hb__⟩ := hr; have BP1 := Hd (Bs.of_own ho__); replace HO := cOa HO bup hb__; replace HE := cE0 HE bup hb__; clear hb__ ho__)
 | ((with_reducible refine sl 36 ?_); (refine wpL_appL elB rfl (.tmp 30) (.tmp 35) rfl w1.heap.size rfl (own_keep HO.out bup) rfl (BP1.out.below bup) L1 HL1.out.symm (by omega) (Nat.le_trans HE.out.size (bsz bup)) ?_); intro ad1 c1 w4 ho__ hb__; replace HE := cEb HE bup hb__; clear HO; have HO := Hd ho__; clear ho__ hb__; simp only [PT])
 | ((with_reducible refine sl 38 ?_); (refine wpL_lit rfl 2 _ rfl [0, 0] rfl (by decide) (by decide) (by rfl) ?_); intro w5 adl le__ ho__ hb__; have BL1 := Hd (Bs.of_own ho__); replace HO := cOa HO bup hb__; replace HE := cE0 HE bup hb__; clear hb__ ho__ le__; simp only [PT])
 | ((with_reducible refine sl 39 ?_); (refine wpL_appL elB rfl (.tmp 37) (.tmp 38) rfl w1.heap.size rfl (own_keep HO.out bup) rfl (BL1.out.below bup) L2 HL2.out.symm (by omega) (Nat.le_trans HE.out.size (bsz bup)) ?_); intro ad2 c2 w6 ho__ hb__; replace HE := cEb HE bup hb__; clear HO; have HO := Hd ho__; clear ho__ hb__; simp only [PT])
 | (go_at_call 52; (with_reducible show Calls _ _ #[Value.slice ad2 _ _, _, _] _ _); (refine (four_int w1.heap.size ad2 L2.length c2 L2 _ v.snap (by first | rfl | omega) big _ (by omega) (by first | omega | exact Nat.zero_le _) rfl (own_keep HO.out bup) (Nat.le_trans HE.out.size (bsz bup))).mono ?_); intro e w7 hr; rw [← HL3.out] at hr; obtain ⟨⟨ad3, c3, rfl, ho__⟩, hb__⟩ := hr; replace HE := cEb HE bup hb__; clear HO; have HO := Hd ho__; clear ho__ hb__)
 | ((with_reducible refine sl 119 ?_); (refine wpL_loadF rfl 25 (.tmp 118) rfl g2 10 rfl (.slice v.oad v.on v.oc) (by exact ((HE.out.block _ (lt_of_block HG2.out)).trans HG2.out)) rfl Try.underlying25 rfl ?_); simp only [PT])
 | (go_at_call 56; (with_reducible show Calls _ _ #[Value.slice v.oad _ _, _] _ _); (refine (refOptPut_any v.oad v.on v.oc v.os big _ (HV.out.2.2.below ((HB.out.trans (HE.out.mono HB.out.size)).trans (Below.mono bup (Nat.le_trans HB.out.size HE.out.size)))) (by omega) hoo).mono ?_); intro e wp hr; rw [← HPO.out] at hr; unfold RetB at hr; obtain ⟨adp, cp, rfl, ho__, hb__⟩ := hr; have BPO := Hd (Bs.of_own ho__); replace HO := cOa HO bup hb__; replace HE := cE0 HE bup hb__; clear hb__ ho__)
 | ((with_reducible refine sl 122 ?_); (refine wpL_appL elB rfl (.tmp 117) (.tmp 121) rfl w1.heap.size rfl (own_keep HO.out bup) rfl (BPO.out.below bup) BD HBD.out.symm (by omega) (Nat.le_trans HE.out.size (bsz bup)) ?_); intro adb cb wb ho__ hb__; replace HE := cEb HE bup hb__; clear HO; have HO := Hd ho__; clear ho__ hb__; have HS := Hd (Bs.of_own HO.out); have HF := Hd (Below.refl wb.heap.size wb); have HP := Hd (World.ownsRow_nil wb wb.heap.size 5 1); rw [← show BV [] = [] from rfl] at HP; simp only [PT])
 | (go_at_call 52; (with_reducible show Calls _ _ #[Value.slice none _ _, _, _] _ _); (refine (four_int wb.heap.size none ([] : List UInt8).length 0 ([] : List UInt8) _ 1 (by first | rfl | omega) big _ (by omega) (by first | omega | exact Nat.zero_le _) rfl (own_keep HP.out bup) (Nat.le_trans HF.out.size (bsz bup))).mono ?_); intro e wx hr; rw [← HO1.out] at hr; obtain ⟨⟨adx, cx, rfl, ho__⟩, hb__⟩ := hr; replace HF := cEb HF bup hb__; clear HP; have HP := Hd ho__; clear ho__ hb__)
 | (go_at_call 52; (with_reducible show Calls _ _ #[Value.slice adx _ _, _, _] _ _); (refine (four_int wb.heap.size adx O1.length cx O1 _ N (by first | rfl | omega) big _ (by omega) (by first | omega | exact Nat.zero_le _) rfl (own_keep HP.out bup) (Nat.le_trans HF.out.size (bsz bup))).mono ?_); intro e wy hr; rw [← HO2.out] at hr; obtain ⟨⟨ady, cy, rfl, ho__⟩, hb__⟩ := hr; replace HF := cEb HF bup hb__; clear HP; have HP := Hd ho__; clear ho__ hb__)
 | ((with_reducible refine sl 135 ?_); (refine wpL_appL elB rfl (.tmp 133) (.tmp 134) rfl wb.heap.size rfl (own_keep HP.out bup) rfl (HS.out.below (HF.out.trans (Below.mono bup HF.out.size))) O3 HO3.out.symm (by omega) (Nat.le_trans HF.out.size (bsz bup)) ?_); intro adw cw ww ho__ hb__; replace HF := cEb HF bup hb__; clear HP; have HP := Hd ho__; clear ho__ hb__; simp only [PT])
 | (go_at_call 52; (with_reducible show Calls _ _ #[Value.slice adw _ _, _, _] _ _); (refine (four_int wb.heap.size adw O3.length cw O3 _ N (by first | rfl | omega) big _ (by omega) (by first | omega | exact Nat.zero_le _) rfl (own_keep HP.out bup) (Nat.le_trans HF.out.size (bsz bup))).mono ?_); intro e wz hr; rw [← HO4.out] at hr; obtain ⟨⟨adz, cz, rfl, ho__⟩, hb__⟩ := hr; replace HF := cEb HF bup hb__; clear HP; have HP := Hd ho__; clear ho__ hb__))
  go_ret
  exact ⟨adz, cz, by rw [HFIN.out]; rfl, by rw [HFIN.out]; exact own_base HP.out (Nat.le_trans HB.out.size HE.out.size), HB.out.trans ((HE.out.trans (HF.out.mono HE.out.size)).mono HB.out.size)⟩
theorem four_nil (N : Nat) (big : Bool) (w : World) (hN : N ≤ 18446744073709551615) : Calls Try.prog 52 #[.slice none 0 0, .int .u64 N, .bool big] w (RetB 5 (putL N 4 big) w) :=
  (four_any w.heap.size none 0 [] N big w hN (Nat.zero_le _) (World.ownsRow_nil w w.heap.size 5 1) (Nat.le_refl _)).mono fun e w' h => by
    obtain ⟨⟨ad, c, he, ho⟩, hb⟩ := h
    exact ⟨ad, c, he, ho, hb⟩
theorem refBytes4 (v : BlkV) (big : Bool) (w : World) (hv : Blk w v) (hk : v.kind = 4) (hf : SmB v) (hm : mayP v.val = true) (hw : wfB v.val) :
    Calls Try.prog 25 #[.agg v.cells.toArray, .bool big] w (RetB 5 (bytesB big v.val) w) := by
  obtain ⟨z1, z2, z3⟩ := hf.sizes
  obtain ⟨_, hfit, hlink, hifc, hwo, hwn, hlast⟩ := (mayP_iff v.val).1 hm
  obtain ⟨hw1, hw2, hw3, hw4'⟩ := hw
  change 0 ≤ v.link ∧ v.link ≤ 65535 at hlink
  change 0 ≤ v.iface ∧ v.iface ≤ 4294967295 at hifc
  have hoo : ∀ o ∈ vals v.os, okO o := wrongO_zero.1 hwo
  have hon : ∀ o ∈ vals v.ns, okO o := wrongO_zero.1 hwn
  change v.type < 4294967296 at hw1
  change v.snap < 4294967296 at hw2
  change v.time < 18446744073709551616 at hw3
  change v.len < 4294967296 at hw4'
  have HB := Hd (Below.refl w.heap.size w)
  have HV := Hd hv
  have hdn := hv.1.len
  have HDN := Hd hdn
  have hdl : v.dl.length ≤ 1100000 := by omega
  have HGG : Hid (ordB big v.val = big) := Hd (by show (if v.kind = 1 then v.big else big) = _; rw [if_neg (by omega)])
  have HTY : Hid (typeB v.val = 3) := Hd (by show (if v.kind = 7 then v.type else typeP v.kind) = _; rw [if_neg (by omega), hk]; rfl)
  have ew : IntKind.u64.wrap (v.type : Int) = (v.type : Int) := by rw [IntKind.wrap_u64]; omega
  have HKK := Hd hk
  clear hv hf hm hfit hwo hwn hlast hdn
  have ele : IntKind.u64.wrap (v.len : Int) = (v.len : Int) := by rw [IntKind.wrap_u64]; omega
  obtain ⟨L1, hL1⟩ : ∃ L : List UInt8, L = putL v.len 4 big := ⟨_, rfl⟩
  have lL1 : L1.length ≤ 4 := by rw [hL1]; rw [putL4_length]; omega
  have HL1 := Hd hL1
  clear hL1
  obtain ⟨PD, hPD⟩ : ∃ L : List UInt8, L = padL v.dl := ⟨_, rfl⟩
  have lPD : PD.length ≤ 1100003 := by rw [hPD]; rw [padL_length]; unfold padN; omega
  have HPD := Hd hPD
  clear hPD
  obtain ⟨L2, hL2⟩ : ∃ L : List UInt8, L = L1 ++ PD := ⟨_, rfl⟩
  have lL2 : L2.length ≤ 1100010 := by rw [hL2]; rw [List.length_append]; omega
  have HL2 := Hd hL2
  clear hL2
  have HFB : Hid (L2 = fieldsB big v.val) := Hd (by rw [HL2.out, HL1.out, HPD.out]; unfold fieldsB; simp [show v.val.kind = 4 from HKK.out]; rfl)
  obtain ⟨PO, hPO⟩ : ∃ L : List UInt8, L = putAll big (vals v.os) := ⟨_, rfl⟩
  have lPO : PO.length ≤ 70424 := by rw [hPO]; rw [putAll_length]; split <;> omega
  have HPO := Hd hPO
  clear hPO
  obtain ⟨BD, hBD⟩ : ∃ L : List UInt8, L = L2 ++ PO := ⟨_, rfl⟩
  have HFL : Hid (BD = bodyB big v.val) := Hd (by rw [hBD]; unfold bodyB; rw [HFB.out, HPO.out]; rfl)
  have lBD : BD.length ≤ 1300000 := by rw [hBD, List.length_append]; first | omega | (simp; omega)
  have HBD := Hd hBD
  clear hBD
  obtain ⟨N, hN⟩ : ∃ N, N = BD.length + 12 := ⟨_, rfl⟩
  have hNi : (BD.length : Int) + 12 = (N : Int) := by omega
  have hNw : IntKind.i64.wrap ((BD.length : Int) + 12) = (N : Int) := by rw [IntKind.wrap_i64]; omega
  have hNu : IntKind.u64.wrap (N : Int) = (N : Int) := by rw [IntKind.wrap_u64]; omega
  have hNv : IntKind.i64.wrap (N : Int) = (N : Int) := by rw [IntKind.wrap_i64]; omega
  have hNb : N ≤ 1400000 := by omega
  have HSZ : Hid (sizeB v.val = N) := Hd (by rw [hN, HFL.out]; unfold sizeB; rw [bodyB_length big]; omega)
  clear hN
  obtain ⟨O1, hO1⟩ : ∃ L : List UInt8, L = [] ++ putL 3 4 big := ⟨_, rfl⟩
  have lO1 : O1.length ≤ 4 := by rw [hO1]; rw [List.length_append, putL4_length]; simp
  have HO1 := Hd hO1
  clear hO1
  obtain ⟨O2, hO2⟩ : ∃ L : List UInt8, L = O1 ++ putL N 4 big := ⟨_, rfl⟩
  have lO2 : O2.length ≤ 8 := by rw [hO2]; rw [List.length_append, putL4_length]; omega
  have HO2 := Hd hO2
  clear hO2
  obtain ⟨O3, hO3⟩ : ∃ L : List UInt8, L = O2 ++ BD := ⟨_, rfl⟩
  have lO3 : O3.length ≤ 1300010 := by rw [hO3]; rw [List.length_append]; omega
  have HO3 := Hd hO3
  clear hO3
  obtain ⟨O4, hO4⟩ : ∃ L : List UInt8, L = O3 ++ putL N 4 big := ⟨_, rfl⟩
  have lO4 : O4.length ≤ 1300020 := by rw [hO4]; rw [List.length_append, putL4_length]; omega
  have HO4 := Hd hO4
  clear hO4
  have HFIN : Hid (bytesB big v.val = O4) := Hd (by
    unfold bytesB
    rw [HGG.out, HTY.out, HSZ.out, ← HFL.out, HO4.out, HO3.out, HO2.out, HO1.out]
    simp only [List.append_assoc, List.nil_append])
  go_enter Try.func25, Try.ntmps25
  go_wp2_with (first
 | ((with_reducible refine sl 2 ?_); (refine wpL_boxG rfl 27 (.tmp 0) rfl v.cells.toArray rfl ?_); intro w1 g2 he__ le_g2 lt_g2 hg__ hb__; have HG2 := Hd hg__; have hE__ := cU HB bup hb__; replace HB := ck HB hE__; clear hE__; clear hg__ hb__ he__; have HE := Hd (Below.refl w1.heap.size w1); have HO := Hd (World.ownsRow_nil w1 w1.heap.size 5 1); rw [← show BV [] = [] from rfl] at HO; simp only [PT])
 | ((with_reducible refine sl 10 ?_); (refine wpL_loadF rfl 22 (.tmp 9) rfl g2 2 rfl (.int .u32 (v.type : Int)) (by exact ((HE.out.block _ (lt_of_block HG2.out)).trans HG2.out)) rfl Try.underlying22 rfl ?_); simp only [PT])
 | ((with_reducible refine sl 13 ?_); (refine wpL_loadF rfl 3 (.tmp 12) rfl g2 0 rfl (.int .i64 v.kind) (by exact ((HE.out.block _ (lt_of_block HG2.out)).trans HG2.out)) rfl Try.underlying3 rfl ?_); simp only [PT]))
  refine wp_region_held_drew (S := fun u => u.heap[g2]? = some (.cells v.cells.toArray 27 (0, 0))) (by kernel_rfl) ?_ (fun hHeld => ?_); (focus (exact ((HE.out.block _ (lt_of_block HG2.out)).trans HG2.out))); (refine tk 0 (oi := ⟨some 77, _, _, _, _, _⟩) (v := ?_) rfl (by kernel_rfl) (.inl ⟨by rfl, ?_⟩) hHeld ?_; rotate_left; focus (intro w hSw; (try dsimp only at hSw); go_simp; try with_reducible rfl)); simp only [PT]; (refine tk 1 (oi := ⟨some 78, _, _, _, _, _⟩) (v := ?_) rfl (by kernel_rfl) (.inl ⟨by rfl, ?_⟩) hHeld ?_; rotate_left; focus (intro w hSw; (try dsimp only at hSw); go_simp; try with_reducible rfl)); simp only [PT]; refine' tk 2 (oi := ⟨some 79, _, _, _, _, _⟩) (v := _) rfl (by kernel_rfl) (yields_loadF rfl 22 (.tmp 78) rfl g2 7 rfl (.int .u32 (v.len : Int)) (fun u hu => hu) rfl Try.underlying22 rfl) hHeld ?_; simp only [PT]; (refine' tk 3 (oi := ⟨some 80, _, _, _, _, _⟩) (v := (.int .u64 (v.len : Int))) rfl (by kernel_rfl) (.inl ⟨by rfl, ?_⟩) hHeld ?_; focus (intro w hSw; (try dsimp only at hSw); go_simp; first | done | rfl | (simp [*]; done) | (simp [*]; omega))); simp only [PT]; (refine tk 4 (oi := ⟨some 81, _, _, _, _, _⟩) (v := ?_) rfl (by kernel_rfl) (.inl ⟨by rfl, ?_⟩) hHeld ?_; rotate_left; focus (intro w hSw; (try dsimp only at hSw); go_simp; try with_reducible rfl)); simp only [PT]; (refine tk 6 (oi := ⟨some 83, _, _, _, _, _⟩) (v := ?_) rfl (by kernel_rfl) (.inl ⟨by rfl, ?_⟩) hHeld ?_; rotate_left; focus (intro w hSw; (try dsimp only at hSw); go_simp; try with_reducible rfl)); simp only [PT]; refine' tk 7 (oi := ⟨some 84, _, _, _, _, _⟩) (v := _) rfl (by kernel_rfl) (yields_loadF rfl 24 (.tmp 83) rfl g2 8 rfl (.slice v.dad v.dn v.dc) (fun u hu => hu) rfl Try.underlying24 rfl) hHeld ?_; simp only [PT]; refine wpAnyH_ready (rs := [5]) (by kernel_rfl) (by simp) ?_; refine (AllReadyH.cons (o := ⟨some 82, _, _, _, _, _⟩) rfl (fun K hK => ?_) AllReadyH.nil); (focus (go_simp; (refine (four_nil v.len big _ (by omega)).mono ?_); intro e w2 hr; rw [← HL1.out] at hr; unfold RetB at hr; obtain ⟨ad1, c1, rfl, ho__, hb__⟩ := hr; (try replace BPD := cB1 BPD (Below.trans bup hb__)); clear HO; have HO := Hd (own_base (base' := w1.heap.size) ho__ (Nat.le_trans HE.out.size (bsz bup))); replace HE := cE0 HE bup hb__; clear ho__ hb__; go_wp2_with fail)); refine hK.out _ _ ?_ (fun hHeld => ?_); (focus (exact ((HE.out.block _ (lt_of_block HG2.out)).trans HG2.out))); clear hK K; (try simp only [PT]); refine wpAnyH_ready (rs := [8]) (by kernel_rfl) (by simp) ?_; refine (AllReadyH.cons (o := ⟨some 85, _, _, _, _, _⟩) rfl (fun K hK => ?_) AllReadyH.nil); (focus (go_simp; (refine (refPadded_any v.dad v.dn v.dc v.dl _ (HV.out.1.below ((HB.out.trans (HE.out.mono HB.out.size)).trans (Below.mono bup (Nat.le_trans HB.out.size HE.out.size)))) (by omega)).mono ?_); intro e w6 hr; rw [← HPD.out] at hr; unfold RetB at hr; obtain ⟨adq, cq, rfl, ho__, hb__⟩ := hr; have BPD := Hd (Bs.of_own ho__); replace HO := cOa HO bup hb__; replace HE := cE0 HE bup hb__; clear hb__ ho__; go_wp2_with fail)); refine hK.out _ _ ?_ (fun hHeld => ?_); (focus (exact ((HE.out.block _ (lt_of_block HG2.out)).trans HG2.out))); clear hK K; (try simp only [PT]); refine wpAnyH_ready (rs := [9]) (by kernel_rfl) (by simp) ?_; refine (AllReadyH.cons (o := ⟨some 86, _, _, _, _, _⟩) rfl (fun K hK => ?_) AllReadyH.nil); ((refine step_appL elB rfl (.tmp 82) (.tmp 85) rfl w1.heap.size rfl (own_keep HO.out bup) rfl (BPD.out.below bup) L2 HL2.out.symm (by omega) (Nat.le_trans HE.out.size (bsz bup)) ?_); intro ad2 c2 w7 ho__ hb__; replace HE := cEb HE bup hb__; clear HO; have HO := Hd ho__; clear ho__ hb__); refine hK.out _ _ ?_ (fun hHeld => ?_); (focus (exact ((HE.out.block _ (lt_of_block HG2.out)).trans HG2.out))); clear hK K; (try simp only [PT]); (refine tk 10 (oi := ⟨some 6, _, _, _, _, _⟩) (v := ?_) rfl (by kernel_rfl) (.inl ⟨by rfl, ?_⟩) hHeld ?_; rotate_left; focus (intro w hSw; (try dsimp only at hSw); go_simp; try with_reducible rfl)); simp only [PT]
  refine wpAnyH_done (by kernel_rfl) ?_ _
  all_goals
    go_wp2_with (first
 | ((with_reducible refine sl 119 ?_); (refine wpL_loadF rfl 25 (.tmp 118) rfl g2 10 rfl (.slice v.oad v.on v.oc) (by exact ((HE.out.block _ (lt_of_block HG2.out)).trans HG2.out)) rfl Try.underlying25 rfl ?_); simp only [PT])
 | (go_at_call 56; (with_reducible show Calls _ _ #[Value.slice v.oad _ _, _] _ _); (refine (refOptPut_any v.oad v.on v.oc v.os big _ (HV.out.2.2.below ((HB.out.trans (HE.out.mono HB.out.size)).trans (Below.mono bup (Nat.le_trans HB.out.size HE.out.size)))) (by omega) hoo).mono ?_); intro e wp hr; rw [← HPO.out] at hr; unfold RetB at hr; obtain ⟨adp, cp, rfl, ho__, hb__⟩ := hr; have BPO := Hd (Bs.of_own ho__); replace HO := cOa HO bup hb__; replace HE := cE0 HE bup hb__; clear hb__ ho__)
 | ((with_reducible refine sl 122 ?_); (refine wpL_appL elB rfl (.tmp 117) (.tmp 121) rfl w1.heap.size rfl (own_keep HO.out bup) rfl (BPO.out.below bup) BD HBD.out.symm (by omega) (Nat.le_trans HE.out.size (bsz bup)) ?_); intro adb cb wb ho__ hb__; replace HE := cEb HE bup hb__; clear HO; have HO := Hd ho__; clear ho__ hb__; have HS := Hd (Bs.of_own HO.out); have HF := Hd (Below.refl wb.heap.size wb); have HP := Hd (World.ownsRow_nil wb wb.heap.size 5 1); rw [← show BV [] = [] from rfl] at HP; simp only [PT])
 | (go_at_call 52; (with_reducible show Calls _ _ #[Value.slice none _ _, _, _] _ _); (refine (four_int wb.heap.size none ([] : List UInt8).length 0 ([] : List UInt8) _ 3 (by first | rfl | omega) big _ (by omega) (by first | omega | exact Nat.zero_le _) rfl (own_keep HP.out bup) (Nat.le_trans HF.out.size (bsz bup))).mono ?_); intro e wx hr; rw [← HO1.out] at hr; obtain ⟨⟨adx, cx, rfl, ho__⟩, hb__⟩ := hr; replace HF := cEb HF bup hb__; clear HP; have HP := Hd ho__; clear ho__ hb__)
 | (go_at_call 52; (with_reducible show Calls _ _ #[Value.slice adx _ _, _, _] _ _); (refine (four_int wb.heap.size adx O1.length cx O1 _ N (by first | rfl | omega) big _ (by omega) (by first | omega | exact Nat.zero_le _) rfl (own_keep HP.out bup) (Nat.le_trans HF.out.size (bsz bup))).mono ?_); intro e wy hr; rw [← HO2.out] at hr; obtain ⟨⟨ady, cy, rfl, ho__⟩, hb__⟩ := hr; replace HF := cEb HF bup hb__; clear HP; have HP := Hd ho__; clear ho__ hb__)
 | ((with_reducible refine sl 135 ?_); (refine wpL_appL elB rfl (.tmp 133) (.tmp 134) rfl wb.heap.size rfl (own_keep HP.out bup) rfl (HS.out.below (HF.out.trans (Below.mono bup HF.out.size))) O3 HO3.out.symm (by omega) (Nat.le_trans HF.out.size (bsz bup)) ?_); intro adw cw ww ho__ hb__; replace HF := cEb HF bup hb__; clear HP; have HP := Hd ho__; clear ho__ hb__; simp only [PT])
 | (go_at_call 52; (with_reducible show Calls _ _ #[Value.slice adw _ _, _, _] _ _); (refine (four_int wb.heap.size adw O3.length cw O3 _ N (by first | rfl | omega) big _ (by omega) (by first | omega | exact Nat.zero_le _) rfl (own_keep HP.out bup) (Nat.le_trans HF.out.size (bsz bup))).mono ?_); intro e wz hr; rw [← HO4.out] at hr; obtain ⟨⟨adz, cz, rfl, ho__⟩, hb__⟩ := hr; replace HF := cEb HF bup hb__; clear HP; have HP := Hd ho__; clear ho__ hb__))
    go_ret
    exact ⟨adz, cz, by rw [HFIN.out]; rfl, by rw [HFIN.out]; exact own_base HP.out (Nat.le_trans HB.out.size HE.out.size), HB.out.trans ((HE.out.trans (HF.out.mono HE.out.size)).mono HB.out.size)⟩
theorem refBytes5a (v : BlkV) (big : Bool) (w : World) (hv : Blk w v) (hk : v.kind = 5) (hne : vals v.ns = []) (hf : SmB v) (hm : mayP v.val = true) (hw : wfB v.val) :
    Calls Try.prog 25 #[.agg v.cells.toArray, .bool big] w (RetB 5 (bytesB big v.val) w) := by
  obtain ⟨z1, z2, z3⟩ := hf.sizes
  obtain ⟨_, hfit, hlink, hifc, hwo, hwn, hlast⟩ := (mayP_iff v.val).1 hm
  obtain ⟨hw1, hw2, hw3, hw4'⟩ := hw
  change 0 ≤ v.link ∧ v.link ≤ 65535 at hlink
  change 0 ≤ v.iface ∧ v.iface ≤ 4294967295 at hifc
  have hoo : ∀ o ∈ vals v.os, okO o := wrongO_zero.1 hwo
  have hon : ∀ o ∈ vals v.ns, okO o := wrongO_zero.1 hwn
  change v.type < 4294967296 at hw1
  change v.snap < 4294967296 at hw2
  change v.time < 18446744073709551616 at hw3
  change v.len < 4294967296 at hw4'
  have HB := Hd (Below.refl w.heap.size w)
  have HV := Hd hv
  have hdn := hv.1.len
  have HDN := Hd hdn
  have hdl : v.dl.length ≤ 1100000 := by omega
  have HGG : Hid (ordB big v.val = big) := Hd (by show (if v.kind = 1 then v.big else big) = _; rw [if_neg (by omega)])
  have HTY : Hid (typeB v.val = 4) := Hd (by show (if v.kind = 7 then v.type else typeP v.kind) = _; rw [if_neg (by omega), hk]; rfl)
  have ew : IntKind.u64.wrap (v.type : Int) = (v.type : Int) := by rw [IntKind.wrap_u64]; omega
  have HKK := Hd hk
  clear hv hf hm hfit hwo hwn hlast hdn
  obtain ⟨PN, hPN⟩ : ∃ L : List UInt8, L = putAll big (vals v.ns) := ⟨_, rfl⟩
  have lPN : PN.length ≤ 70424 := by rw [hPN]; rw [putAll_length]; split <;> omega
  have HPN := Hd hPN
  clear hPN
  obtain ⟨L1, hL1⟩ : ∃ L : List UInt8, L = [] ++ PN := ⟨_, rfl⟩
  have lL1 : L1.length ≤ 70424 := by rw [hL1]; simpa using lPN
  have HL1 := Hd hL1
  clear hL1
  have hl0 : (L1.length : Int) = 0 := by
    have : L1.length = 0 := by rw [HL1.out, HPN.out, hne]; rfl
    omega
  have HFB : Hid ([0, 0, 0, 0] = fieldsB big v.val) := Hd (by
    unfold fieldsB namesB; simp [show v.val.kind = 5 from HKK.out]
    exact fun h => absurd (show v.val.names = [] from hne) h)
  clear hne
  obtain ⟨PO, hPO⟩ : ∃ L : List UInt8, L = putAll big (vals v.os) := ⟨_, rfl⟩
  have lPO : PO.length ≤ 70424 := by rw [hPO]; rw [putAll_length]; split <;> omega
  have HPO := Hd hPO
  clear hPO
  obtain ⟨BD, hBD⟩ : ∃ L : List UInt8, L = [0, 0, 0, 0] ++ PO := ⟨_, rfl⟩
  have HFL : Hid (BD = bodyB big v.val) := Hd (by rw [hBD]; unfold bodyB; rw [HFB.out, HPO.out]; rfl)
  have lBD : BD.length ≤ 1300000 := by rw [hBD, List.length_append]; first | omega | (simp; omega)
  have HBD := Hd hBD
  clear hBD
  obtain ⟨N, hN⟩ : ∃ N, N = BD.length + 12 := ⟨_, rfl⟩
  have hNi : (BD.length : Int) + 12 = (N : Int) := by omega
  have hNw : IntKind.i64.wrap ((BD.length : Int) + 12) = (N : Int) := by rw [IntKind.wrap_i64]; omega
  have hNu : IntKind.u64.wrap (N : Int) = (N : Int) := by rw [IntKind.wrap_u64]; omega
  have hNv : IntKind.i64.wrap (N : Int) = (N : Int) := by rw [IntKind.wrap_i64]; omega
  have hNb : N ≤ 1400000 := by omega
  have HSZ : Hid (sizeB v.val = N) := Hd (by rw [hN, HFL.out]; unfold sizeB; rw [bodyB_length big]; omega)
  clear hN
  obtain ⟨O1, hO1⟩ : ∃ L : List UInt8, L = [] ++ putL 4 4 big := ⟨_, rfl⟩
  have lO1 : O1.length ≤ 4 := by rw [hO1]; rw [List.length_append, putL4_length]; simp
  have HO1 := Hd hO1
  clear hO1
  obtain ⟨O2, hO2⟩ : ∃ L : List UInt8, L = O1 ++ putL N 4 big := ⟨_, rfl⟩
  have lO2 : O2.length ≤ 8 := by rw [hO2]; rw [List.length_append, putL4_length]; omega
  have HO2 := Hd hO2
  clear hO2
  obtain ⟨O3, hO3⟩ : ∃ L : List UInt8, L = O2 ++ BD := ⟨_, rfl⟩
  have lO3 : O3.length ≤ 1300010 := by rw [hO3]; rw [List.length_append]; omega
  have HO3 := Hd hO3
  clear hO3
  obtain ⟨O4, hO4⟩ : ∃ L : List UInt8, L = O3 ++ putL N 4 big := ⟨_, rfl⟩
  have lO4 : O4.length ≤ 1300020 := by rw [hO4]; rw [List.length_append, putL4_length]; omega
  have HO4 := Hd hO4
  clear hO4
  have HFIN : Hid (bytesB big v.val = O4) := Hd (by
    unfold bytesB
    rw [HGG.out, HTY.out, HSZ.out, ← HFL.out, HO4.out, HO3.out, HO2.out, HO1.out]
    simp only [List.append_assoc, List.nil_append])
  go_enter Try.func25, Try.ntmps25
  go_wp2_with (first
 | ((with_reducible refine sl 2 ?_); (refine wpL_boxG rfl 27 (.tmp 0) rfl v.cells.toArray rfl ?_); intro w1 g2 he__ le_g2 lt_g2 hg__ hb__; have HG2 := Hd hg__; have hE__ := cU HB bup hb__; replace HB := ck HB hE__; clear hE__; clear hg__ hb__ he__; have HE := Hd (Below.refl w1.heap.size w1); have HO := Hd (World.ownsRow_nil w1 w1.heap.size 5 1); rw [← show BV [] = [] from rfl] at HO; simp only [PT])
 | ((with_reducible refine sl 10 ?_); (refine wpL_loadF rfl 22 (.tmp 9) rfl g2 2 rfl (.int .u32 (v.type : Int)) (by exact ((HE.out.block _ (lt_of_block HG2.out)).trans HG2.out)) rfl Try.underlying22 rfl ?_); simp only [PT])
 | ((with_reducible refine sl 13 ?_); (refine wpL_loadF rfl 3 (.tmp 12) rfl g2 0 rfl (.int .i64 v.kind) (by exact ((HE.out.block _ (lt_of_block HG2.out)).trans HG2.out)) rfl Try.underlying3 rfl ?_); simp only [PT])
 | ((with_reducible refine sl 91 ?_); (refine wpL_loadF rfl 25 (.tmp 90) rfl g2 9 rfl (.slice v.nad v.nn v.nc) (by exact ((HE.out.block _ (lt_of_block HG2.out)).trans HG2.out)) rfl Try.underlying25 rfl ?_); simp only [PT])
 | (go_at_call 56; (with_reducible show Calls _ _ #[Value.slice v.nad _ _, _] _ _); (refine (refOptPut_any v.nad v.nn v.nc v.ns big _ (HV.out.2.1.below ((HB.out.trans (HE.out.mono HB.out.size)).trans (Below.mono bup (Nat.le_trans HB.out.size HE.out.size)))) (by omega) hon).mono ?_); intro e w3 hr; rw [← HPN.out] at hr; unfold RetB at hr; obtain ⟨adq, cq, rfl, ho__, hb__⟩ := hr; have BPN := Hd (Bs.of_own ho__); replace HO := cOa HO bup hb__; replace HE := cE0 HE bup hb__; clear hb__ ho__)
 | ((with_reducible refine sl 94 ?_); (refine wpL_appL elB rfl (.tmp 89) (.tmp 93) rfl w1.heap.size rfl (own_keep HO.out bup) rfl (BPN.out.below bup) L1 HL1.out.symm (by omega) (Nat.le_trans HE.out.size (bsz bup)) ?_); intro ad1 c1 w4 ho__ hb__; replace HE := cEb HE bup hb__; clear HO; have HO := Hd ho__; clear ho__ hb__; simp only [PT])
 | ((with_reducible refine sl 98 ?_); (refine wpL_lit rfl 4 _ rfl [0, 0, 0, 0] rfl (by decide) (by decide) (by rfl) ?_); intro w5 adl le__ ho__ hb__; clear HO; have HO := Hd (own_base (base' := w1.heap.size) ho__ (Nat.le_trans HE.out.size (bsz bup))); replace HE := cE0 HE bup hb__; clear hb__ ho__ le__; simp only [PT])
 | ((with_reducible refine sl 119 ?_); (refine wpL_loadF rfl 25 (.tmp 118) rfl g2 10 rfl (.slice v.oad v.on v.oc) (by exact ((HE.out.block _ (lt_of_block HG2.out)).trans HG2.out)) rfl Try.underlying25 rfl ?_); simp only [PT])
 | (go_at_call 56; (with_reducible show Calls _ _ #[Value.slice v.oad _ _, _] _ _); (refine (refOptPut_any v.oad v.on v.oc v.os big _ (HV.out.2.2.below ((HB.out.trans (HE.out.mono HB.out.size)).trans (Below.mono bup (Nat.le_trans HB.out.size HE.out.size)))) (by omega) hoo).mono ?_); intro e wp hr; rw [← HPO.out] at hr; unfold RetB at hr; obtain ⟨adp, cp, rfl, ho__, hb__⟩ := hr; have BPO := Hd (Bs.of_own ho__); replace HO := cOa HO bup hb__; replace HE := cE0 HE bup hb__; clear hb__ ho__)
 | ((with_reducible refine sl 122 ?_); (refine wpL_appL elB rfl (.tmp 117) (.tmp 121) rfl w1.heap.size rfl (own_keep HO.out bup) rfl (BPO.out.below bup) BD HBD.out.symm (by omega) (Nat.le_trans HE.out.size (bsz bup)) ?_); intro adb cb wb ho__ hb__; replace HE := cEb HE bup hb__; clear HO; have HO := Hd ho__; clear ho__ hb__; have HS := Hd (Bs.of_own HO.out); have HF := Hd (Below.refl wb.heap.size wb); have HP := Hd (World.ownsRow_nil wb wb.heap.size 5 1); rw [← show BV [] = [] from rfl] at HP; simp only [PT])
 | (go_at_call 52; (with_reducible show Calls _ _ #[Value.slice none _ _, _, _] _ _); (refine (four_int wb.heap.size none ([] : List UInt8).length 0 ([] : List UInt8) _ 4 (by first | rfl | omega) big _ (by omega) (by first | omega | exact Nat.zero_le _) rfl (own_keep HP.out bup) (Nat.le_trans HF.out.size (bsz bup))).mono ?_); intro e wx hr; rw [← HO1.out] at hr; obtain ⟨⟨adx, cx, rfl, ho__⟩, hb__⟩ := hr; replace HF := cEb HF bup hb__; clear HP; have HP := Hd ho__; clear ho__ hb__)
 | (go_at_call 52; (with_reducible show Calls _ _ #[Value.slice adx _ _, _, _] _ _); (refine (four_int wb.heap.size adx O1.length cx O1 _ N (by first | rfl | omega) big _ (by omega) (by first | omega | exact Nat.zero_le _) rfl (own_keep HP.out bup) (Nat.le_trans HF.out.size (bsz bup))).mono ?_); intro e wy hr; rw [← HO2.out] at hr; obtain ⟨⟨ady, cy, rfl, ho__⟩, hb__⟩ := hr; replace HF := cEb HF bup hb__; clear HP; have HP := Hd ho__; clear ho__ hb__)
 | ((with_reducible refine sl 135 ?_); (refine wpL_appL elB rfl (.tmp 133) (.tmp 134) rfl wb.heap.size rfl (own_keep HP.out bup) rfl (HS.out.below (HF.out.trans (Below.mono bup HF.out.size))) O3 HO3.out.symm (by omega) (Nat.le_trans HF.out.size (bsz bup)) ?_); intro adw cw ww ho__ hb__; replace HF := cEb HF bup hb__; clear HP; have HP := Hd ho__; clear ho__ hb__; simp only [PT])
 | (go_at_call 52; (with_reducible show Calls _ _ #[Value.slice adw _ _, _, _] _ _); (refine (four_int wb.heap.size adw O3.length cw O3 _ N (by first | rfl | omega) big _ (by omega) (by first | omega | exact Nat.zero_le _) rfl (own_keep HP.out bup) (Nat.le_trans HF.out.size (bsz bup))).mono ?_); intro e wz hr; rw [← HO4.out] at hr; obtain ⟨⟨adz, cz, rfl, ho__⟩, hb__⟩ := hr; replace HF := cEb HF bup hb__; clear HP; have HP := Hd ho__; clear ho__ hb__))
  go_ret
  exact ⟨adz, cz, by rw [HFIN.out]; rfl, by rw [HFIN.out]; exact own_base HP.out (Nat.le_trans HB.out.size HE.out.size), HB.out.trans ((HE.out.trans (HF.out.mono HE.out.size)).mono HB.out.size)⟩
theorem refBytes5b (v : BlkV) (big : Bool) (w : World) (hv : Blk w v) (hk : v.kind = 5) (hne : ¬ vals v.ns = []) (hf : SmB v) (hm : mayP v.val = true) (hw : wfB v.val) :
    Calls Try.prog 25 #[.agg v.cells.toArray, .bool big] w (RetB 5 (bytesB big v.val) w) := by
  obtain ⟨z1, z2, z3⟩ := hf.sizes
  obtain ⟨_, hfit, hlink, hifc, hwo, hwn, hlast⟩ := (mayP_iff v.val).1 hm
  obtain ⟨hw1, hw2, hw3, hw4'⟩ := hw
  change 0 ≤ v.link ∧ v.link ≤ 65535 at hlink
  change 0 ≤ v.iface ∧ v.iface ≤ 4294967295 at hifc
  have hoo : ∀ o ∈ vals v.os, okO o := wrongO_zero.1 hwo
  have hon : ∀ o ∈ vals v.ns, okO o := wrongO_zero.1 hwn
  change v.type < 4294967296 at hw1
  change v.snap < 4294967296 at hw2
  change v.time < 18446744073709551616 at hw3
  change v.len < 4294967296 at hw4'
  have HB := Hd (Below.refl w.heap.size w)
  have HV := Hd hv
  have hdn := hv.1.len
  have HDN := Hd hdn
  have hdl : v.dl.length ≤ 1100000 := by omega
  have HGG : Hid (ordB big v.val = big) := Hd (by show (if v.kind = 1 then v.big else big) = _; rw [if_neg (by omega)])
  have HTY : Hid (typeB v.val = 4) := Hd (by show (if v.kind = 7 then v.type else typeP v.kind) = _; rw [if_neg (by omega), hk]; rfl)
  have ew : IntKind.u64.wrap (v.type : Int) = (v.type : Int) := by rw [IntKind.wrap_u64]; omega
  have HKK := Hd hk
  clear hv hf hm hfit hwo hwn hlast hdn
  obtain ⟨PN, hPN⟩ : ∃ L : List UInt8, L = putAll big (vals v.ns) := ⟨_, rfl⟩
  have lPN : PN.length ≤ 70424 := by rw [hPN]; rw [putAll_length]; split <;> omega
  have HPN := Hd hPN
  clear hPN
  obtain ⟨L1, hL1⟩ : ∃ L : List UInt8, L = [] ++ PN := ⟨_, rfl⟩
  have lL1 : L1.length ≤ 70424 := by rw [hL1]; simpa using lPN
  have HL1 := Hd hL1
  clear hL1
  have hl0 : ¬ (L1.length : Int) = 0 := by
    have : L1.length = sizeO (vals v.ns) + 4 := by rw [HL1.out, HPN.out, List.nil_append, putAll_length]; rw [if_neg (by simpa using hne)]
    omega
  have HFB : Hid (L1 = fieldsB big v.val) := Hd (by
    rw [HL1.out, HPN.out]; unfold fieldsB namesB; simp [show v.val.kind = 5 from HKK.out]
    rw [if_neg (show ¬ v.val.names = [] from hne)]
    rfl)
  clear hne
  obtain ⟨PO, hPO⟩ : ∃ L : List UInt8, L = putAll big (vals v.os) := ⟨_, rfl⟩
  have lPO : PO.length ≤ 70424 := by rw [hPO]; rw [putAll_length]; split <;> omega
  have HPO := Hd hPO
  clear hPO
  obtain ⟨BD, hBD⟩ : ∃ L : List UInt8, L = L1 ++ PO := ⟨_, rfl⟩
  have HFL : Hid (BD = bodyB big v.val) := Hd (by rw [hBD]; unfold bodyB; rw [HFB.out, HPO.out]; rfl)
  have lBD : BD.length ≤ 1300000 := by rw [hBD, List.length_append]; first | omega | (simp; omega)
  have HBD := Hd hBD
  clear hBD
  obtain ⟨N, hN⟩ : ∃ N, N = BD.length + 12 := ⟨_, rfl⟩
  have hNi : (BD.length : Int) + 12 = (N : Int) := by omega
  have hNw : IntKind.i64.wrap ((BD.length : Int) + 12) = (N : Int) := by rw [IntKind.wrap_i64]; omega
  have hNu : IntKind.u64.wrap (N : Int) = (N : Int) := by rw [IntKind.wrap_u64]; omega
  have hNv : IntKind.i64.wrap (N : Int) = (N : Int) := by rw [IntKind.wrap_i64]; omega
  have hNb : N ≤ 1400000 := by omega
  have HSZ : Hid (sizeB v.val = N) := Hd (by rw [hN, HFL.out]; unfold sizeB; rw [bodyB_length big]; omega)
  clear hN
  obtain ⟨O1, hO1⟩ : ∃ L : List UInt8, L = [] ++ putL 4 4 big := ⟨_, rfl⟩
  have lO1 : O1.length ≤ 4 := by rw [hO1]; rw [List.length_append, putL4_length]; simp
  have HO1 := Hd hO1
  clear hO1
  obtain ⟨O2, hO2⟩ : ∃ L : List UInt8, L = O1 ++ putL N 4 big := ⟨_, rfl⟩
  have lO2 : O2.length ≤ 8 := by rw [hO2]; rw [List.length_append, putL4_length]; omega
  have HO2 := Hd hO2
  clear hO2
  obtain ⟨O3, hO3⟩ : ∃ L : List UInt8, L = O2 ++ BD := ⟨_, rfl⟩
  have lO3 : O3.length ≤ 1300010 := by rw [hO3]; rw [List.length_append]; omega
  have HO3 := Hd hO3
  clear hO3
  obtain ⟨O4, hO4⟩ : ∃ L : List UInt8, L = O3 ++ putL N 4 big := ⟨_, rfl⟩
  have lO4 : O4.length ≤ 1300020 := by rw [hO4]; rw [List.length_append, putL4_length]; omega
  have HO4 := Hd hO4
  clear hO4
  have HFIN : Hid (bytesB big v.val = O4) := Hd (by
    unfold bytesB
    rw [HGG.out, HTY.out, HSZ.out, ← HFL.out, HO4.out, HO3.out, HO2.out, HO1.out]
    simp only [List.append_assoc, List.nil_append])
  go_enter Try.func25, Try.ntmps25
  go_wp2_with (first
 | ((with_reducible refine sl 2 ?_); (refine wpL_boxG rfl 27 (.tmp 0) rfl v.cells.toArray rfl ?_); intro w1 g2 he__ le_g2 lt_g2 hg__ hb__; have HG2 := Hd hg__; have hE__ := cU HB bup hb__; replace HB := ck HB hE__; clear hE__; clear hg__ hb__ he__; have HE := Hd (Below.refl w1.heap.size w1); have HO := Hd (World.ownsRow_nil w1 w1.heap.size 5 1); rw [← show BV [] = [] from rfl] at HO; simp only [PT])
 | ((with_reducible refine sl 10 ?_); (refine wpL_loadF rfl 22 (.tmp 9) rfl g2 2 rfl (.int .u32 (v.type : Int)) (by exact ((HE.out.block _ (lt_of_block HG2.out)).trans HG2.out)) rfl Try.underlying22 rfl ?_); simp only [PT])
 | ((with_reducible refine sl 13 ?_); (refine wpL_loadF rfl 3 (.tmp 12) rfl g2 0 rfl (.int .i64 v.kind) (by exact ((HE.out.block _ (lt_of_block HG2.out)).trans HG2.out)) rfl Try.underlying3 rfl ?_); simp only [PT])
 | ((with_reducible refine sl 91 ?_); (refine wpL_loadF rfl 25 (.tmp 90) rfl g2 9 rfl (.slice v.nad v.nn v.nc) (by exact ((HE.out.block _ (lt_of_block HG2.out)).trans HG2.out)) rfl Try.underlying25 rfl ?_); simp only [PT])
 | (go_at_call 56; (with_reducible show Calls _ _ #[Value.slice v.nad _ _, _] _ _); (refine (refOptPut_any v.nad v.nn v.nc v.ns big _ (HV.out.2.1.below ((HB.out.trans (HE.out.mono HB.out.size)).trans (Below.mono bup (Nat.le_trans HB.out.size HE.out.size)))) (by omega) hon).mono ?_); intro e w3 hr; rw [← HPN.out] at hr; unfold RetB at hr; obtain ⟨adq, cq, rfl, ho__, hb__⟩ := hr; have BPN := Hd (Bs.of_own ho__); replace HO := cOa HO bup hb__; replace HE := cE0 HE bup hb__; clear hb__ ho__)
 | ((with_reducible refine sl 94 ?_); (refine wpL_appL elB rfl (.tmp 89) (.tmp 93) rfl w1.heap.size rfl (own_keep HO.out bup) rfl (BPN.out.below bup) L1 HL1.out.symm (by omega) (Nat.le_trans HE.out.size (bsz bup)) ?_); intro ad1 c1 w4 ho__ hb__; replace HE := cEb HE bup hb__; clear HO; have HO := Hd ho__; clear ho__ hb__; simp only [PT])
 | ((with_reducible refine sl 119 ?_); (refine wpL_loadF rfl 25 (.tmp 118) rfl g2 10 rfl (.slice v.oad v.on v.oc) (by exact ((HE.out.block _ (lt_of_block HG2.out)).trans HG2.out)) rfl Try.underlying25 rfl ?_); simp only [PT])
 | (go_at_call 56; (with_reducible show Calls _ _ #[Value.slice v.oad _ _, _] _ _); (refine (refOptPut_any v.oad v.on v.oc v.os big _ (HV.out.2.2.below ((HB.out.trans (HE.out.mono HB.out.size)).trans (Below.mono bup (Nat.le_trans HB.out.size HE.out.size)))) (by omega) hoo).mono ?_); intro e wp hr; rw [← HPO.out] at hr; unfold RetB at hr; obtain ⟨adp, cp, rfl, ho__, hb__⟩ := hr; have BPO := Hd (Bs.of_own ho__); replace HO := cOa HO bup hb__; replace HE := cE0 HE bup hb__; clear hb__ ho__)
 | ((with_reducible refine sl 122 ?_); (refine wpL_appL elB rfl (.tmp 117) (.tmp 121) rfl w1.heap.size rfl (own_keep HO.out bup) rfl (BPO.out.below bup) BD HBD.out.symm (by omega) (Nat.le_trans HE.out.size (bsz bup)) ?_); intro adb cb wb ho__ hb__; replace HE := cEb HE bup hb__; clear HO; have HO := Hd ho__; clear ho__ hb__; have HS := Hd (Bs.of_own HO.out); have HF := Hd (Below.refl wb.heap.size wb); have HP := Hd (World.ownsRow_nil wb wb.heap.size 5 1); rw [← show BV [] = [] from rfl] at HP; simp only [PT])
 | (go_at_call 52; (with_reducible show Calls _ _ #[Value.slice none _ _, _, _] _ _); (refine (four_int wb.heap.size none ([] : List UInt8).length 0 ([] : List UInt8) _ 4 (by first | rfl | omega) big _ (by omega) (by first | omega | exact Nat.zero_le _) rfl (own_keep HP.out bup) (Nat.le_trans HF.out.size (bsz bup))).mono ?_); intro e wx hr; rw [← HO1.out] at hr; obtain ⟨⟨adx, cx, rfl, ho__⟩, hb__⟩ := hr; replace HF := cEb HF bup hb__; clear HP; have HP := Hd ho__; clear ho__ hb__)
 | (go_at_call 52; (with_reducible show Calls _ _ #[Value.slice adx _ _, _, _] _ _); (refine (four_int wb.heap.size adx O1.length cx O1 _ N (by first | rfl | omega) big _ (by omega) (by first | omega | exact Nat.zero_le _) rfl (own_keep HP.out bup) (Nat.le_trans HF.out.size (bsz bup))).mono ?_); intro e wy hr; rw [← HO2.out] at hr; obtain ⟨⟨ady, cy, rfl, ho__⟩, hb__⟩ := hr; replace HF := cEb HF bup hb__; clear HP; have HP := Hd ho__; clear ho__ hb__)
 | ((with_reducible refine sl 135 ?_); (refine wpL_appL elB rfl (.tmp 133) (.tmp 134) rfl wb.heap.size rfl (own_keep HP.out bup) rfl (HS.out.below (HF.out.trans (Below.mono bup HF.out.size))) O3 HO3.out.symm (by omega) (Nat.le_trans HF.out.size (bsz bup)) ?_); intro adw cw ww ho__ hb__; replace HF := cEb HF bup hb__; clear HP; have HP := Hd ho__; clear ho__ hb__; simp only [PT])
 | (go_at_call 52; (with_reducible show Calls _ _ #[Value.slice adw _ _, _, _] _ _); (refine (four_int wb.heap.size adw O3.length cw O3 _ N (by first | rfl | omega) big _ (by omega) (by first | omega | exact Nat.zero_le _) rfl (own_keep HP.out bup) (Nat.le_trans HF.out.size (bsz bup))).mono ?_); intro e wz hr; rw [← HO4.out] at hr; obtain ⟨⟨adz, cz, rfl, ho__⟩, hb__⟩ := hr; replace HF := cEb HF bup hb__; clear HP; have HP := Hd ho__; clear ho__ hb__))
  go_ret
  exact ⟨adz, cz, by rw [HFIN.out]; rfl, by rw [HFIN.out]; exact own_base HP.out (Nat.le_trans HB.out.size HE.out.size), HB.out.trans ((HE.out.trans (HF.out.mono HE.out.size)).mono HB.out.size)⟩
theorem refBytes6 (v : BlkV) (big : Bool) (w : World) (hv : Blk w v) (hk : v.kind = 6) (hf : SmB v) (hm : mayP v.val = true) (hw : wfB v.val) :
    Calls Try.prog 25 #[.agg v.cells.toArray, .bool big] w (RetB 5 (bytesB big v.val) w) := by
  obtain ⟨z1, z2, z3⟩ := hf.sizes
  obtain ⟨_, hfit, hlink, hifc, hwo, hwn, hlast⟩ := (mayP_iff v.val).1 hm
  obtain ⟨hw1, hw2, hw3, hw4'⟩ := hw
  change 0 ≤ v.link ∧ v.link ≤ 65535 at hlink
  change 0 ≤ v.iface ∧ v.iface ≤ 4294967295 at hifc
  have hoo : ∀ o ∈ vals v.os, okO o := wrongO_zero.1 hwo
  have hon : ∀ o ∈ vals v.ns, okO o := wrongO_zero.1 hwn
  change v.type < 4294967296 at hw1
  change v.snap < 4294967296 at hw2
  change v.time < 18446744073709551616 at hw3
  change v.len < 4294967296 at hw4'
  have HB := Hd (Below.refl w.heap.size w)
  have HV := Hd hv
  have hdn := hv.1.len
  have HDN := Hd hdn
  have hdl : v.dl.length ≤ 1100000 := by omega
  have HGG : Hid (ordB big v.val = big) := Hd (by show (if v.kind = 1 then v.big else big) = _; rw [if_neg (by omega)])
  have HTY : Hid (typeB v.val = 5) := Hd (by show (if v.kind = 7 then v.type else typeP v.kind) = _; rw [if_neg (by omega), hk]; rfl)
  have ew : IntKind.u64.wrap (v.type : Int) = (v.type : Int) := by rw [IntKind.wrap_u64]; omega
  have HKK := Hd hk
  clear hv hf hm hfit hwo hwn hlast hdn
  obtain ⟨fi, hfi⟩ : ∃ n, n = v.iface.toNat := ⟨_, rfl⟩
  have hfi2 : IntKind.u64.wrap v.iface = (fi : Int) := by rw [IntKind.wrap_u64]; omega
  have hfi3 : fi ≤ 4294967295 := by omega
  have HFI := Hd hfi
  clear hfi
  obtain ⟨L1, hL1⟩ : ∃ L : List UInt8, L = [] ++ putL fi 4 big := ⟨_, rfl⟩
  have lL1 : L1.length ≤ 4 := by rw [hL1]; simp [putL4_length]
  have HL1 := Hd hL1
  clear hL1
  obtain ⟨L2, hL2⟩ : ∃ L : List UInt8, L = L1 ++ timeB big v.time := ⟨_, rfl⟩
  have lL2 : L2.length ≤ 12 := by rw [hL2]; rw [List.length_append]; unfold timeB; simp only [List.length_append, putL4_length]; omega
  have HL2 := Hd hL2
  clear hL2
  have HFB : Hid (L2 = fieldsB big v.val) := Hd (by rw [HL2.out, HL1.out, HFI.out]; unfold fieldsB; simp [show v.val.kind = 6 from HKK.out]; rfl)
  obtain ⟨PO, hPO⟩ : ∃ L : List UInt8, L = putAll big (vals v.os) := ⟨_, rfl⟩
  have lPO : PO.length ≤ 70424 := by rw [hPO]; rw [putAll_length]; split <;> omega
  have HPO := Hd hPO
  clear hPO
  obtain ⟨BD, hBD⟩ : ∃ L : List UInt8, L = L2 ++ PO := ⟨_, rfl⟩
  have HFL : Hid (BD = bodyB big v.val) := Hd (by rw [hBD]; unfold bodyB; rw [HFB.out, HPO.out]; rfl)
  have lBD : BD.length ≤ 1300000 := by rw [hBD, List.length_append]; first | omega | (simp; omega)
  have HBD := Hd hBD
  clear hBD
  obtain ⟨N, hN⟩ : ∃ N, N = BD.length + 12 := ⟨_, rfl⟩
  have hNi : (BD.length : Int) + 12 = (N : Int) := by omega
  have hNw : IntKind.i64.wrap ((BD.length : Int) + 12) = (N : Int) := by rw [IntKind.wrap_i64]; omega
  have hNu : IntKind.u64.wrap (N : Int) = (N : Int) := by rw [IntKind.wrap_u64]; omega
  have hNv : IntKind.i64.wrap (N : Int) = (N : Int) := by rw [IntKind.wrap_i64]; omega
  have hNb : N ≤ 1400000 := by omega
  have HSZ : Hid (sizeB v.val = N) := Hd (by rw [hN, HFL.out]; unfold sizeB; rw [bodyB_length big]; omega)
  clear hN
  obtain ⟨O1, hO1⟩ : ∃ L : List UInt8, L = [] ++ putL 5 4 big := ⟨_, rfl⟩
  have lO1 : O1.length ≤ 4 := by rw [hO1]; rw [List.length_append, putL4_length]; simp
  have HO1 := Hd hO1
  clear hO1
  obtain ⟨O2, hO2⟩ : ∃ L : List UInt8, L = O1 ++ putL N 4 big := ⟨_, rfl⟩
  have lO2 : O2.length ≤ 8 := by rw [hO2]; rw [List.length_append, putL4_length]; omega
  have HO2 := Hd hO2
  clear hO2
  obtain ⟨O3, hO3⟩ : ∃ L : List UInt8, L = O2 ++ BD := ⟨_, rfl⟩
  have lO3 : O3.length ≤ 1300010 := by rw [hO3]; rw [List.length_append]; omega
  have HO3 := Hd hO3
  clear hO3
  obtain ⟨O4, hO4⟩ : ∃ L : List UInt8, L = O3 ++ putL N 4 big := ⟨_, rfl⟩
  have lO4 : O4.length ≤ 1300020 := by rw [hO4]; rw [List.length_append, putL4_length]; omega
  have HO4 := Hd hO4
  clear hO4
  have HFIN : Hid (bytesB big v.val = O4) := Hd (by
    unfold bytesB
    rw [HGG.out, HTY.out, HSZ.out, ← HFL.out, HO4.out, HO3.out, HO2.out, HO1.out]
    simp only [List.append_assoc, List.nil_append])
  go_enter Try.func25, Try.ntmps25
  go_wp2_with (first
 | ((with_reducible refine sl 2 ?_); (refine wpL_boxG rfl 27 (.tmp 0) rfl v.cells.toArray rfl ?_); intro w1 g2 he__ le_g2 lt_g2 hg__ hb__; have HG2 := Hd hg__; have hE__ := cU HB bup hb__; replace HB := ck HB hE__; clear hE__; clear hg__ hb__ he__; have HE := Hd (Below.refl w1.heap.size w1); have HO := Hd (World.ownsRow_nil w1 w1.heap.size 5 1); rw [← show BV [] = [] from rfl] at HO; simp only [PT])
 | ((with_reducible refine sl 10 ?_); (refine wpL_loadF rfl 22 (.tmp 9) rfl g2 2 rfl (.int .u32 (v.type : Int)) (by exact ((HE.out.block _ (lt_of_block HG2.out)).trans HG2.out)) rfl Try.underlying22 rfl ?_); simp only [PT])
 | ((with_reducible refine sl 13 ?_); (refine wpL_loadF rfl 3 (.tmp 12) rfl g2 0 rfl (.int .i64 v.kind) (by exact ((HE.out.block _ (lt_of_block HG2.out)).trans HG2.out)) rfl Try.underlying3 rfl ?_); simp only [PT]))
  refine wp_region_held_drew (S := fun u => u.heap[g2]? = some (.cells v.cells.toArray 27 (0, 0))) (by kernel_rfl) ?_ (fun hHeld => ?_); (focus (exact ((HE.out.block _ (lt_of_block HG2.out)).trans HG2.out))); (refine tk 0 (oi := ⟨some 101, _, _, _, _, _⟩) (v := ?_) rfl (by kernel_rfl) (.inl ⟨by rfl, ?_⟩) hHeld ?_; rotate_left; focus (intro w hSw; (try dsimp only at hSw); go_simp; try with_reducible rfl)); simp only [PT]; (refine tk 1 (oi := ⟨some 102, _, _, _, _, _⟩) (v := ?_) rfl (by kernel_rfl) (.inl ⟨by rfl, ?_⟩) hHeld ?_; rotate_left; focus (intro w hSw; (try dsimp only at hSw); go_simp; try with_reducible rfl)); simp only [PT]; refine' tk 2 (oi := ⟨some 103, _, _, _, _, _⟩) (v := _) rfl (by kernel_rfl) (yields_loadF rfl 3 (.tmp 102) rfl g2 5 rfl (.int .i64 v.iface) (fun u hu => hu) rfl Try.underlying3 rfl) hHeld ?_; simp only [PT]; (refine' tk 3 (oi := ⟨some 104, _, _, _, _, _⟩) (v := (.int .u64 (fi : Int))) rfl (by kernel_rfl) (.inl ⟨by rfl, ?_⟩) hHeld ?_; focus (intro w hSw; (try dsimp only at hSw); go_simp; first | done | rfl | (simp [*]; done) | (simp [*]; omega))); simp only [PT]; (refine tk 4 (oi := ⟨some 105, _, _, _, _, _⟩) (v := ?_) rfl (by kernel_rfl) (.inl ⟨by rfl, ?_⟩) hHeld ?_; rotate_left; focus (intro w hSw; (try dsimp only at hSw); go_simp; try with_reducible rfl)); simp only [PT]; (refine tk 6 (oi := ⟨some 107, _, _, _, _, _⟩) (v := ?_) rfl (by kernel_rfl) (.inl ⟨by rfl, ?_⟩) hHeld ?_; rotate_left; focus (intro w hSw; (try dsimp only at hSw); go_simp; try with_reducible rfl)); simp only [PT]; refine' tk 7 (oi := ⟨some 108, _, _, _, _, _⟩) (v := _) rfl (by kernel_rfl) (yields_loadF rfl 23 (.tmp 107) rfl g2 6 rfl (.int .u64 (v.time : Int)) (fun u hu => hu) rfl Try.underlying23 rfl) hHeld ?_; simp only [PT]; (refine tk 8 (oi := ⟨some 109, _, _, _, _, _⟩) (v := ?_) rfl (by kernel_rfl) (.inl ⟨by rfl, ?_⟩) hHeld ?_; rotate_left; focus (intro w hSw; (try dsimp only at hSw); go_simp; try with_reducible rfl)); simp only [PT]; refine wpAnyH_ready (rs := [5]) (by kernel_rfl) (by simp) ?_; refine (AllReadyH.cons (o := ⟨some 106, _, _, _, _, _⟩) rfl (fun K hK => ?_) AllReadyH.nil); (focus (go_simp; (refine (four_int w1.heap.size none ([] : List UInt8).length 0 ([] : List UInt8) _ fi (by first | rfl | omega) big _ (by omega) (by first | omega | exact Nat.zero_le _) rfl (own_keep HO.out bup) (Nat.le_trans HE.out.size (bsz bup))).mono ?_); intro e w2 hr; rw [← HL1.out] at hr; obtain ⟨⟨ad1, c1, rfl, ho__⟩, hb__⟩ := hr; replace HE := cEb HE bup hb__; clear HO; have HO := Hd ho__; clear ho__ hb__; go_wp2_with fail)); refine hK.out _ _ ?_ (fun hHeld => ?_); (focus (exact ((HE.out.block _ (lt_of_block HG2.out)).trans HG2.out))); clear hK K; (try simp only [PT]); refine wpAnyH_ready (rs := [9]) (by kernel_rfl) (by simp) ?_; refine (AllReadyH.cons (o := ⟨some 110, _, _, _, _, _⟩) rfl (fun K hK => ?_) AllReadyH.nil); (focus (go_simp; (refine (refTime_any w1.heap.size ad1 c1 L1 v.time big _ (by omega) (by omega) (own_keep HO.out bup) (Nat.le_trans HE.out.size (bsz bup))).mono ?_); intro e w3 hr; rw [← HL2.out] at hr; obtain ⟨⟨ad2, c2, rfl, ho__⟩, hb__⟩ := hr; replace HE := cEb HE bup hb__; clear HO; have HO := Hd ho__; clear ho__ hb__; go_wp2_with fail)); refine hK.out _ _ ?_ (fun hHeld => ?_); (focus (exact ((HE.out.block _ (lt_of_block HG2.out)).trans HG2.out))); clear hK K; (try simp only [PT]); (refine tk 10 (oi := ⟨some 6, _, _, _, _, _⟩) (v := ?_) rfl (by kernel_rfl) (.inl ⟨by rfl, ?_⟩) hHeld ?_; rotate_left; focus (intro w hSw; (try dsimp only at hSw); go_simp; try with_reducible rfl)); simp only [PT]; refine wpAnyH_done (by kernel_rfl) ?_ _
  all_goals
    go_wp2_with (first
 | ((with_reducible refine sl 119 ?_); (refine wpL_loadF rfl 25 (.tmp 118) rfl g2 10 rfl (.slice v.oad v.on v.oc) (by exact ((HE.out.block _ (lt_of_block HG2.out)).trans HG2.out)) rfl Try.underlying25 rfl ?_); simp only [PT])
 | (go_at_call 56; (with_reducible show Calls _ _ #[Value.slice v.oad _ _, _] _ _); (refine (refOptPut_any v.oad v.on v.oc v.os big _ (HV.out.2.2.below ((HB.out.trans (HE.out.mono HB.out.size)).trans (Below.mono bup (Nat.le_trans HB.out.size HE.out.size)))) (by omega) hoo).mono ?_); intro e wp hr; rw [← HPO.out] at hr; unfold RetB at hr; obtain ⟨adp, cp, rfl, ho__, hb__⟩ := hr; have BPO := Hd (Bs.of_own ho__); replace HO := cOa HO bup hb__; replace HE := cE0 HE bup hb__; clear hb__ ho__)
 | ((with_reducible refine sl 122 ?_); (refine wpL_appL elB rfl (.tmp 117) (.tmp 121) rfl w1.heap.size rfl (own_keep HO.out bup) rfl (BPO.out.below bup) BD HBD.out.symm (by omega) (Nat.le_trans HE.out.size (bsz bup)) ?_); intro adb cb wb ho__ hb__; replace HE := cEb HE bup hb__; clear HO; have HO := Hd ho__; clear ho__ hb__; have HS := Hd (Bs.of_own HO.out); have HF := Hd (Below.refl wb.heap.size wb); have HP := Hd (World.ownsRow_nil wb wb.heap.size 5 1); rw [← show BV [] = [] from rfl] at HP; simp only [PT])
 | (go_at_call 52; (with_reducible show Calls _ _ #[Value.slice none _ _, _, _] _ _); (refine (four_int wb.heap.size none ([] : List UInt8).length 0 ([] : List UInt8) _ 5 (by first | rfl | omega) big _ (by omega) (by first | omega | exact Nat.zero_le _) rfl (own_keep HP.out bup) (Nat.le_trans HF.out.size (bsz bup))).mono ?_); intro e wx hr; rw [← HO1.out] at hr; obtain ⟨⟨adx, cx, rfl, ho__⟩, hb__⟩ := hr; replace HF := cEb HF bup hb__; clear HP; have HP := Hd ho__; clear ho__ hb__)
 | (go_at_call 52; (with_reducible show Calls _ _ #[Value.slice adx _ _, _, _] _ _); (refine (four_int wb.heap.size adx O1.length cx O1 _ N (by first | rfl | omega) big _ (by omega) (by first | omega | exact Nat.zero_le _) rfl (own_keep HP.out bup) (Nat.le_trans HF.out.size (bsz bup))).mono ?_); intro e wy hr; rw [← HO2.out] at hr; obtain ⟨⟨ady, cy, rfl, ho__⟩, hb__⟩ := hr; replace HF := cEb HF bup hb__; clear HP; have HP := Hd ho__; clear ho__ hb__)
 | ((with_reducible refine sl 135 ?_); (refine wpL_appL elB rfl (.tmp 133) (.tmp 134) rfl wb.heap.size rfl (own_keep HP.out bup) rfl (HS.out.below (HF.out.trans (Below.mono bup HF.out.size))) O3 HO3.out.symm (by omega) (Nat.le_trans HF.out.size (bsz bup)) ?_); intro adw cw ww ho__ hb__; replace HF := cEb HF bup hb__; clear HP; have HP := Hd ho__; clear ho__ hb__; simp only [PT])
 | (go_at_call 52; (with_reducible show Calls _ _ #[Value.slice adw _ _, _, _] _ _); (refine (four_int wb.heap.size adw O3.length cw O3 _ N (by first | rfl | omega) big _ (by omega) (by first | omega | exact Nat.zero_le _) rfl (own_keep HP.out bup) (Nat.le_trans HF.out.size (bsz bup))).mono ?_); intro e wz hr; rw [← HO4.out] at hr; obtain ⟨⟨adz, cz, rfl, ho__⟩, hb__⟩ := hr; replace HF := cEb HF bup hb__; clear HP; have HP := Hd ho__; clear ho__ hb__))
    go_ret
    exact ⟨adz, cz, by rw [HFIN.out]; rfl, by rw [HFIN.out]; exact own_base HP.out (Nat.le_trans HB.out.size HE.out.size), HB.out.trans ((HE.out.trans (HF.out.mono HE.out.size)).mono HB.out.size)⟩
theorem refBytes7 (v : BlkV) (big : Bool) (w : World) (hv : Blk w v) (hk : v.kind = 7) (hf : SmB v) (hm : mayP v.val = true) (hw : wfB v.val) :
    Calls Try.prog 25 #[.agg v.cells.toArray, .bool big] w (RetB 5 (bytesB big v.val) w) := by
  obtain ⟨z1, z2, z3⟩ := hf.sizes
  obtain ⟨_, hfit, hlink, hifc, hwo, hwn, hlast⟩ := (mayP_iff v.val).1 hm
  obtain ⟨hw1, hw2, hw3, hw4'⟩ := hw
  change 0 ≤ v.link ∧ v.link ≤ 65535 at hlink
  change 0 ≤ v.iface ∧ v.iface ≤ 4294967295 at hifc
  have hoo : ∀ o ∈ vals v.os, okO o := wrongO_zero.1 hwo
  have hon : ∀ o ∈ vals v.ns, okO o := wrongO_zero.1 hwn
  change v.type < 4294967296 at hw1
  change v.snap < 4294967296 at hw2
  change v.time < 18446744073709551616 at hw3
  change v.len < 4294967296 at hw4'
  have HB := Hd (Below.refl w.heap.size w)
  have HV := Hd hv
  have hdn := hv.1.len
  have HDN := Hd hdn
  have hdl : v.dl.length ≤ 1100000 := by omega
  have HGG : Hid (ordB big v.val = big) := Hd (by show (if v.kind = 1 then v.big else big) = _; rw [if_neg (by omega)])
  have HTY : Hid (typeB v.val = v.type) := Hd (by show (if v.kind = 7 then v.type else typeP v.kind) = _; rw [if_pos hk])
  have ew : IntKind.u64.wrap (v.type : Int) = (v.type : Int) := by rw [IntKind.wrap_u64]; omega
  have HKK := Hd hk
  clear hv hf hm hfit hwo hwn hlast hdn
  obtain ⟨L1, hL1⟩ : ∃ L : List UInt8, L = [] ++ v.dl := ⟨_, rfl⟩
  have lL1 : L1.length ≤ 1100000 := by rw [hL1]; simpa using hdl
  have HL1 := Hd hL1
  clear hL1
  have HFB : Hid (L1 = fieldsB big v.val) := Hd (by rw [HL1.out]; unfold fieldsB; simp [show v.val.kind = 7 from HKK.out]; rfl)
  obtain ⟨PO, hPO⟩ : ∃ L : List UInt8, L = putAll big (vals v.os) := ⟨_, rfl⟩
  have lPO : PO.length ≤ 70424 := by rw [hPO]; rw [putAll_length]; split <;> omega
  have HPO := Hd hPO
  clear hPO
  obtain ⟨BD, hBD⟩ : ∃ L : List UInt8, L = L1 ++ PO := ⟨_, rfl⟩
  have HFL : Hid (BD = bodyB big v.val) := Hd (by rw [hBD]; unfold bodyB; rw [HFB.out, HPO.out]; rfl)
  have lBD : BD.length ≤ 1300000 := by rw [hBD, List.length_append]; first | omega | (simp; omega)
  have HBD := Hd hBD
  clear hBD
  obtain ⟨N, hN⟩ : ∃ N, N = BD.length + 12 := ⟨_, rfl⟩
  have hNi : (BD.length : Int) + 12 = (N : Int) := by omega
  have hNw : IntKind.i64.wrap ((BD.length : Int) + 12) = (N : Int) := by rw [IntKind.wrap_i64]; omega
  have hNu : IntKind.u64.wrap (N : Int) = (N : Int) := by rw [IntKind.wrap_u64]; omega
  have hNv : IntKind.i64.wrap (N : Int) = (N : Int) := by rw [IntKind.wrap_i64]; omega
  have hNb : N ≤ 1400000 := by omega
  have HSZ : Hid (sizeB v.val = N) := Hd (by rw [hN, HFL.out]; unfold sizeB; rw [bodyB_length big]; omega)
  clear hN
  obtain ⟨O1, hO1⟩ : ∃ L : List UInt8, L = [] ++ putL v.type 4 big := ⟨_, rfl⟩
  have lO1 : O1.length ≤ 4 := by rw [hO1]; rw [List.length_append, putL4_length]; simp
  have HO1 := Hd hO1
  clear hO1
  obtain ⟨O2, hO2⟩ : ∃ L : List UInt8, L = O1 ++ putL N 4 big := ⟨_, rfl⟩
  have lO2 : O2.length ≤ 8 := by rw [hO2]; rw [List.length_append, putL4_length]; omega
  have HO2 := Hd hO2
  clear hO2
  obtain ⟨O3, hO3⟩ : ∃ L : List UInt8, L = O2 ++ BD := ⟨_, rfl⟩
  have lO3 : O3.length ≤ 1300010 := by rw [hO3]; rw [List.length_append]; omega
  have HO3 := Hd hO3
  clear hO3
  obtain ⟨O4, hO4⟩ : ∃ L : List UInt8, L = O3 ++ putL N 4 big := ⟨_, rfl⟩
  have lO4 : O4.length ≤ 1300020 := by rw [hO4]; rw [List.length_append, putL4_length]; omega
  have HO4 := Hd hO4
  clear hO4
  have HFIN : Hid (bytesB big v.val = O4) := Hd (by
    unfold bytesB
    rw [HGG.out, HTY.out, HSZ.out, ← HFL.out, HO4.out, HO3.out, HO2.out, HO1.out]
    simp only [List.append_assoc, List.nil_append])
  go_enter Try.func25, Try.ntmps25
  go_wp2_with (first
 | ((with_reducible refine sl 2 ?_); (refine wpL_boxG rfl 27 (.tmp 0) rfl v.cells.toArray rfl ?_); intro w1 g2 he__ le_g2 lt_g2 hg__ hb__; have HG2 := Hd hg__; have hE__ := cU HB bup hb__; replace HB := ck HB hE__; clear hE__; clear hg__ hb__ he__; have HE := Hd (Below.refl w1.heap.size w1); have HO := Hd (World.ownsRow_nil w1 w1.heap.size 5 1); rw [← show BV [] = [] from rfl] at HO; simp only [PT])
 | ((with_reducible refine sl 10 ?_); (refine wpL_loadF rfl 22 (.tmp 9) rfl g2 2 rfl (.int .u32 (v.type : Int)) (by exact ((HE.out.block _ (lt_of_block HG2.out)).trans HG2.out)) rfl Try.underlying22 rfl ?_); simp only [PT])
 | ((with_reducible refine sl 13 ?_); (refine wpL_loadF rfl 3 (.tmp 12) rfl g2 0 rfl (.int .i64 v.kind) (by exact ((HE.out.block _ (lt_of_block HG2.out)).trans HG2.out)) rfl Try.underlying3 rfl ?_); simp only [PT])
 | ((with_reducible refine sl 115 ?_); (refine wpL_loadF rfl 24 (.tmp 114) rfl g2 8 rfl (.slice v.dad v.dn v.dc) (by exact ((HE.out.block _ (lt_of_block HG2.out)).trans HG2.out)) rfl Try.underlying24 rfl ?_); simp only [PT])
 | ((with_reducible refine sl 116 ?_); (refine wpL_appL elB rfl (.tmp 113) (.tmp 115) rfl w1.heap.size rfl (own_keep HO.out bup) rfl (HV.out.1.below ((HB.out.trans (HE.out.mono HB.out.size)).trans (Below.mono bup (Nat.le_trans HB.out.size HE.out.size)))) L1 HL1.out.symm (by omega) (Nat.le_trans HE.out.size (bsz bup)) ?_); intro ad1 c1 w2 ho__ hb__; replace HE := cEb HE bup hb__; clear HO; have HO := Hd ho__; clear ho__ hb__; simp only [PT])
 | ((with_reducible refine sl 119 ?_); (refine wpL_loadF rfl 25 (.tmp 118) rfl g2 10 rfl (.slice v.oad v.on v.oc) (by exact ((HE.out.block _ (lt_of_block HG2.out)).trans HG2.out)) rfl Try.underlying25 rfl ?_); simp only [PT])
 | (go_at_call 56; (with_reducible show Calls _ _ #[Value.slice v.oad _ _, _] _ _); (refine (refOptPut_any v.oad v.on v.oc v.os big _ (HV.out.2.2.below ((HB.out.trans (HE.out.mono HB.out.size)).trans (Below.mono bup (Nat.le_trans HB.out.size HE.out.size)))) (by omega) hoo).mono ?_); intro e wp hr; rw [← HPO.out] at hr; unfold RetB at hr; obtain ⟨adp, cp, rfl, ho__, hb__⟩ := hr; have BPO := Hd (Bs.of_own ho__); replace HO := cOa HO bup hb__; replace HE := cE0 HE bup hb__; clear hb__ ho__)
 | ((with_reducible refine sl 122 ?_); (refine wpL_appL elB rfl (.tmp 117) (.tmp 121) rfl w1.heap.size rfl (own_keep HO.out bup) rfl (BPO.out.below bup) BD HBD.out.symm (by omega) (Nat.le_trans HE.out.size (bsz bup)) ?_); intro adb cb wb ho__ hb__; replace HE := cEb HE bup hb__; clear HO; have HO := Hd ho__; clear ho__ hb__; have HS := Hd (Bs.of_own HO.out); have HF := Hd (Below.refl wb.heap.size wb); have HP := Hd (World.ownsRow_nil wb wb.heap.size 5 1); rw [← show BV [] = [] from rfl] at HP; simp only [PT])
 | (go_at_call 52; (with_reducible show Calls _ _ #[Value.slice none _ _, _, _] _ _); (refine (four_int wb.heap.size none ([] : List UInt8).length 0 ([] : List UInt8) _ v.type (by first | rfl | omega) big _ (by omega) (by first | omega | exact Nat.zero_le _) rfl (own_keep HP.out bup) (Nat.le_trans HF.out.size (bsz bup))).mono ?_); intro e wx hr; rw [← HO1.out] at hr; obtain ⟨⟨adx, cx, rfl, ho__⟩, hb__⟩ := hr; replace HF := cEb HF bup hb__; clear HP; have HP := Hd ho__; clear ho__ hb__)
 | (go_at_call 52; (with_reducible show Calls _ _ #[Value.slice adx _ _, _, _] _ _); (refine (four_int wb.heap.size adx O1.length cx O1 _ N (by first | rfl | omega) big _ (by omega) (by first | omega | exact Nat.zero_le _) rfl (own_keep HP.out bup) (Nat.le_trans HF.out.size (bsz bup))).mono ?_); intro e wy hr; rw [← HO2.out] at hr; obtain ⟨⟨ady, cy, rfl, ho__⟩, hb__⟩ := hr; replace HF := cEb HF bup hb__; clear HP; have HP := Hd ho__; clear ho__ hb__)
 | ((with_reducible refine sl 135 ?_); (refine wpL_appL elB rfl (.tmp 133) (.tmp 134) rfl wb.heap.size rfl (own_keep HP.out bup) rfl (HS.out.below (HF.out.trans (Below.mono bup HF.out.size))) O3 HO3.out.symm (by omega) (Nat.le_trans HF.out.size (bsz bup)) ?_); intro adw cw ww ho__ hb__; replace HF := cEb HF bup hb__; clear HP; have HP := Hd ho__; clear ho__ hb__; simp only [PT])
 | (go_at_call 52; (with_reducible show Calls _ _ #[Value.slice adw _ _, _, _] _ _); (refine (four_int wb.heap.size adw O3.length cw O3 _ N (by first | rfl | omega) big _ (by omega) (by first | omega | exact Nat.zero_le _) rfl (own_keep HP.out bup) (Nat.le_trans HF.out.size (bsz bup))).mono ?_); intro e wz hr; rw [← HO4.out] at hr; obtain ⟨⟨adz, cz, rfl, ho__⟩, hb__⟩ := hr; replace HF := cEb HF bup hb__; clear HP; have HP := Hd ho__; clear ho__ hb__))
  go_ret
  exact ⟨adz, cz, by rw [HFIN.out]; rfl, by rw [HFIN.out]; exact own_base HP.out (Nat.le_trans HB.out.size HE.out.size), HB.out.trans ((HE.out.trans (HF.out.mono HE.out.size)).mono HB.out.size)⟩
def fitsV (v : BlkV) : Bool :=
  (!v.big || v.kind == 1) && (v.type == 0 || v.kind == 7) && (v.link == 0 || v.kind == 2) && (v.snap == 0 || v.kind == 2) &&
  ((v.iface == 0 && v.time == 0) || v.kind == 3 || v.kind == 6) && (v.len == 0 || v.kind == 3 || v.kind == 4) && (v.dn == 0 || v.kind == 3 || v.kind == 4 || v.kind == 7) &&
  (v.nn == 0 || v.kind == 5) && (v.on == 0 || (v.kind != 4 && v.kind != 7))
theorem fitsV_val {w : World} {v : BlkV} (h : Blk w v) : fitsV v = fitsP v.val := by
  obtain ⟨h1, h2, h3⟩ := h.lens
  unfold fitsV fitsP BlkV.val
  simp only [vals_length, ← h1, ← h2, ← h3]
theorem fits_any (v : BlkV) (w : World) (hs : Blk w v) (h1 : 1 ≤ v.kind) (h7 : v.kind ≤ 7) :
    Calls Try.prog 49 #[.agg v.cells.toArray] w fun e w' => e = .returned (.bool (fitsP v.val)) ∧ Below w.heap.size w w' := by
  rw [← fitsV_val hs]
  obtain ⟨w1, hw1⟩ : ∃ w1, w1 = w.alloc (.cells v.cells.toArray 27) := ⟨_, rfl⟩
  have HB := Hd (show Below w.heap.size w w1 by rw [hw1]; exact bup)
  have HX := Hd (show w1.heap[w.heap.size]? = some (.cells v.cells.toArray 27 (0, 0)) by rw [hw1]; exact heap_alloc_last w _)
  have HW := Hd hw1
  obtain ⟨c0, c1, c2, c3, c4, c5, c6, c7, c8, c9, c10⟩ := blk_cells HX.out
  obtain ⟨F, hF⟩ : ∃ F, F = fitsV v := ⟨_, rfl⟩
  rw [← hF]
  unfold fitsV at hF
  generalize BlkV.cells v = cs at *
  generalize v.kind = kind at *
  generalize v.big = big at *
  generalize v.type = type at *
  generalize v.link = link at *
  generalize v.snap = snap at *
  generalize v.iface = iface at *
  generalize v.time = time at *
  generalize v.len = len at *
  generalize v.dn = dn at *
  generalize v.nn = nn at *
  generalize v.on = on at *
  have HF := Hd hF
  clear hw1 hs hF
  rcases kind_cases h1 h7 with rfl | rfl | rfl | rfl | rfl | rfl | rfl
  all_goals
    clear h1 h7
    go_enter Try.func49, Try.ntmps49
    go_wp2_with (first
 | ((with_reducible refine sl 5 ?_); rw [← HW.out]))
    all_goals
      go_ret
      refine ⟨?_, HB.out⟩
      have hf := HF.out
      first
        | (rw [hf]; simp [*]; done)
        | (rw [hf]; simp [*]; omega)
end Go.Proofs.Ytmfplinbbcoahaa
