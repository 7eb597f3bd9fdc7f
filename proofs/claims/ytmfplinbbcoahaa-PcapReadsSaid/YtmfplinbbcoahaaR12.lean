/-
  Joined by program (merge.py): RefPc2, RefBlk2, RO1, RO2, RCut, RO3, RO4.
-/
import Derived.Test.YtmfplinbbcoahaaR1
import Derived.Test.YtmfplinbbcoahaaR2
import Derived.Test.YtmfplinbbcoahaaR4
import Derived.Test.YtmfplinbbcoahaaR10
set_option linter.unusedVariables false
set_option linter.unusedSimpArgs false
set_option maxRecDepth 100000
set_option maxHeartbeats 16000000
namespace Go.Proofs.Ytmfplinbbcoahaa
open Go.RowKit Go.Sort
theorem z27 (S : Int) (B : Bool) (L : List Nat) (N : Nat) (ad : Option Addr) (n c : Nat) (vs : List BlkV) (k0 : Nat) (hst : stS noS (bvals (vs.take k0)) = ⟨S, B, L⟩) (hN : L.length = N) (w : World) (hv : Blks w ad n c vs) (hn : n ≤ 1000000) (hk0 : k0 ≤ n) :
    Calls Try.prog 66 #[.slice ad n c, .int .i64 (k0 : Int)] w fun e w' => ∃ ad c, e = .returned (.tuple #[.slice ad N c, .int .i64 S, .bool B]) ∧ Us w' ad N c L ∧ Below w.heap.size w w' := by
  refine (snaps_any ad n c vs k0 w hv hn hk0).mono fun e w' hr => ?_
  obtain ⟨⟨sec, big, sad, sn, sc, sl⟩, rfl, hval, hm, hb⟩ := hr
  rw [hst] at hval
  simp only [StV.val, PS.mk.injEq] at hval
  obtain ⟨rfl, rfl, rfl⟩ := hval
  have hu := StV.us hm
  have hl := Us.len hu
  simp only at hl hu
  rw [hN] at hl
  subst hl
  exact ⟨sad, sc, rfl, hu, hb⟩
theorem fits27_any (R : Bool) (ad : Option Addr) (n c : Nat) (vs : List BlkV) (k0 : Nat) (x : BlkV) (hR : okS (stS noS (bvals (vs.take k0))) x.val = R) (w : World) (hv : Blks w ad n c vs) (hn : n ≤ 1000000) (hk0 : k0 < n) (hx : vs[k0]? = some x) :
    Calls Try.prog 65 #[.slice ad n c, .int .i64 (k0 : Int)] w fun e w' => e = .returned (.bool R) ∧ Below w.heap.size w w' := by
  have HB := Hd (Below.refl w.heap.size w)
  have HV := Hd hv
  have HLN := Hd hv.len
  have HBI := Hd z0d
  have HZI := Hd z1s
  have hx' : x = vs[k0]'(by have := HLN.out; omega) := by have := List.getElem?_eq_some_iff.1 hx; exact this.2.symm
  obtain ⟨b, off, rfl, hbl, hat⟩ := hv.at (by have := HLN.out; omega)
  have HR := Hd (show w.rangeAt b (off + k0 * 11) x.cells by rw [hx']; exact hat k0 (by have := HLN.out; omega))
  clear hv hx hx' hat
  obtain ⟨S, B, L, hs⟩ : ∃ S B L, stS noS (bvals (vs.take k0)) = ⟨S, B, L⟩ := ⟨_, _, _, rfl⟩
  obtain ⟨N, hN⟩ : ∃ N, L.length = N := ⟨_, rfl⟩
  have HST := Hd hs
  have HN := Hd hN
  rw [hs] at hR
  have HRR := Hd hR
  clear hs hR hN
  have HC5 : Hid (x.cells.toArray[5]? = some (.int .i64 x.iface)) := Hd rfl
  go_enter Try.func65, Try.ntmps65
  by_cases hk : x.kind = 1
  · skip
    have HC0 : Hid (x.cells.toArray[0]? = some (.int .i64 1)) := Hd (by rw [← hk]; rfl)
    have hres : R = true := by rw [← HRR.out]; exact okS_sec hk
    subst hres
    clear hk
    go_wp2_with (first
 | (go_at_call 66; (refine (z27 S B L N (some ⟨b, off, none⟩) n c vs k0 HST.out HN.out _ (HV.out.below HB.out) hn (by omega)).mono ?_); intro e w6 hr; obtain ⟨sad, sc, rfl, hsn, hb__⟩ := hr; have HSN := Hd hsn; have hE__ := cU HB bup hb__; replace HB := ck HB hE__; replace HR := ck HR hE__; clear hE__; clear hb__ hsn)
 | ((with_reducible refine sl 19 ?_); (refine z05 rfl 27 (.tmp 18) rfl b (off + k0 * 11) rfl x.cells _ HR.out Try.underlying27 rfl HBI.out ?_); simp only [PT])
 | ((with_reducible refine sl 8 ?_); (refine z13 rfl rfl 27 rfl (.tmp 8) (.tmp 19) rfl x.cells.toArray _ HZI.out rfl (z0h _) (fun _ => rfl) (fun _ => rfl) ?_); intro w8 g8 le_g8 lt_g8 hg__ hb__; have HG8 := Hd hg__; have hE__ := cU HB bup hb__; replace HB := ck HB hE__; clear hE__; clear hg__ hb__; simp only [PT])
 | ((with_reducible refine sl 21 ?_); (refine z01 rfl 3 (.tmp 20) rfl g8 0 rfl (.int .i64 1) HG8.out HC0.out Try.underlying3 rfl ?_); simp only [PT])
 | ((with_reducible refine sl 27 ?_); (refine z01 rfl 3 (.tmp 26) rfl g8 0 rfl (.int .i64 1) HG8.out HC0.out Try.underlying3 rfl ?_); simp only [PT])
 | ((with_reducible refine sl 31 ?_); (refine z01 rfl 3 (.tmp 30) rfl g8 0 rfl (.int .i64 1) HG8.out HC0.out Try.underlying3 rfl ?_); simp only [PT])
 | ((with_reducible refine sl 43 ?_); (refine z01 rfl 3 (.tmp 42) rfl g8 0 rfl (.int .i64 1) HG8.out HC0.out Try.underlying3 rfl ?_); simp only [PT])
 | ((with_reducible refine sl 36 ?_); (refine z01 rfl 3 (.tmp 35) rfl g8 5 rfl (.int .i64 x.iface) HG8.out HC5.out Try.underlying3 rfl ?_); simp only [PT]))
    go_ret
    exact ⟨rfl, HB.out⟩
  by_cases hs : S < 0
  · skip
    have HC0 : Hid (x.cells.toArray[0]? = some (.int .i64 x.kind)) := Hd (by rfl)
    have hres : R = false := by rw [← HRR.out]; exact okS_neg hk hs
    subst hres
    go_wp2_with (first
 | (go_at_call 66; (refine (z27 S B L N (some ⟨b, off, none⟩) n c vs k0 HST.out HN.out _ (HV.out.below HB.out) hn (by omega)).mono ?_); intro e w6 hr; obtain ⟨sad, sc, rfl, hsn, hb__⟩ := hr; have HSN := Hd hsn; have hE__ := cU HB bup hb__; replace HB := ck HB hE__; replace HR := ck HR hE__; clear hE__; clear hb__ hsn)
 | ((with_reducible refine sl 19 ?_); (refine z05 rfl 27 (.tmp 18) rfl b (off + k0 * 11) rfl x.cells _ HR.out Try.underlying27 rfl HBI.out ?_); simp only [PT])
 | ((with_reducible refine sl 8 ?_); (refine z13 rfl rfl 27 rfl (.tmp 8) (.tmp 19) rfl x.cells.toArray _ HZI.out rfl (z0h _) (fun _ => rfl) (fun _ => rfl) ?_); intro w8 g8 le_g8 lt_g8 hg__ hb__; have HG8 := Hd hg__; have hE__ := cU HB bup hb__; replace HB := ck HB hE__; clear hE__; clear hg__ hb__; simp only [PT])
 | ((with_reducible refine sl 21 ?_); (refine z01 rfl 3 (.tmp 20) rfl g8 0 rfl (.int .i64 x.kind) HG8.out HC0.out Try.underlying3 rfl ?_); simp only [PT])
 | ((with_reducible refine sl 27 ?_); (refine z01 rfl 3 (.tmp 26) rfl g8 0 rfl (.int .i64 x.kind) HG8.out HC0.out Try.underlying3 rfl ?_); simp only [PT])
 | ((with_reducible refine sl 31 ?_); (refine z01 rfl 3 (.tmp 30) rfl g8 0 rfl (.int .i64 x.kind) HG8.out HC0.out Try.underlying3 rfl ?_); simp only [PT])
 | ((with_reducible refine sl 43 ?_); (refine z01 rfl 3 (.tmp 42) rfl g8 0 rfl (.int .i64 x.kind) HG8.out HC0.out Try.underlying3 rfl ?_); simp only [PT])
 | ((with_reducible refine sl 36 ?_); (refine z01 rfl 3 (.tmp 35) rfl g8 5 rfl (.int .i64 x.iface) HG8.out HC5.out Try.underlying3 rfl ?_); simp only [PT]))
    go_ret
    exact ⟨rfl, HB.out⟩
  have hs' : 0 ≤ S := by omega
  have hd0 : decide (S < 0) = false := decide_eq_false hs
  have hk1 := hk
  clear hk
  by_cases hk : x.kind = 3
  · by_cases hi : x.iface < (N : Int)
    · skip
      have HC0 : Hid (x.cells.toArray[0]? = some (.int .i64 3)) := Hd (by rw [← hk]; rfl)
      have hres : R = true := by rw [← HRR.out]; exact (okS_36 (.inl hk) hs').trans (by rw [HN.out, show x.val.iface = x.iface from rfl]; simpa using hi)
      subst hres
      clear hk
      go_wp2_with (first
 | (go_at_call 66; (refine (z27 S B L N (some ⟨b, off, none⟩) n c vs k0 HST.out HN.out _ (HV.out.below HB.out) hn (by omega)).mono ?_); intro e w6 hr; obtain ⟨sad, sc, rfl, hsn, hb__⟩ := hr; have HSN := Hd hsn; have hE__ := cU HB bup hb__; replace HB := ck HB hE__; replace HR := ck HR hE__; clear hE__; clear hb__ hsn)
 | ((with_reducible refine sl 19 ?_); (refine z05 rfl 27 (.tmp 18) rfl b (off + k0 * 11) rfl x.cells _ HR.out Try.underlying27 rfl HBI.out ?_); simp only [PT])
 | ((with_reducible refine sl 8 ?_); (refine z13 rfl rfl 27 rfl (.tmp 8) (.tmp 19) rfl x.cells.toArray _ HZI.out rfl (z0h _) (fun _ => rfl) (fun _ => rfl) ?_); intro w8 g8 le_g8 lt_g8 hg__ hb__; have HG8 := Hd hg__; have hE__ := cU HB bup hb__; replace HB := ck HB hE__; clear hE__; clear hg__ hb__; simp only [PT])
 | ((with_reducible refine sl 21 ?_); (refine z01 rfl 3 (.tmp 20) rfl g8 0 rfl (.int .i64 3) HG8.out HC0.out Try.underlying3 rfl ?_); simp only [PT])
 | ((with_reducible refine sl 27 ?_); (refine z01 rfl 3 (.tmp 26) rfl g8 0 rfl (.int .i64 3) HG8.out HC0.out Try.underlying3 rfl ?_); simp only [PT])
 | ((with_reducible refine sl 31 ?_); (refine z01 rfl 3 (.tmp 30) rfl g8 0 rfl (.int .i64 3) HG8.out HC0.out Try.underlying3 rfl ?_); simp only [PT])
 | ((with_reducible refine sl 43 ?_); (refine z01 rfl 3 (.tmp 42) rfl g8 0 rfl (.int .i64 3) HG8.out HC0.out Try.underlying3 rfl ?_); simp only [PT])
 | ((with_reducible refine sl 36 ?_); (refine z01 rfl 3 (.tmp 35) rfl g8 5 rfl (.int .i64 x.iface) HG8.out HC5.out Try.underlying3 rfl ?_); simp only [PT]))
      go_ret
      exact ⟨rfl, HB.out⟩
    · skip
      have HC0 : Hid (x.cells.toArray[0]? = some (.int .i64 3)) := Hd (by rw [← hk]; rfl)
      have hres : R = false := by rw [← HRR.out]; exact (okS_36 (.inl hk) hs').trans (by rw [HN.out, show x.val.iface = x.iface from rfl]; simpa using hi)
      subst hres
      clear hk
      go_wp2_with (first
 | (go_at_call 66; (refine (z27 S B L N (some ⟨b, off, none⟩) n c vs k0 HST.out HN.out _ (HV.out.below HB.out) hn (by omega)).mono ?_); intro e w6 hr; obtain ⟨sad, sc, rfl, hsn, hb__⟩ := hr; have HSN := Hd hsn; have hE__ := cU HB bup hb__; replace HB := ck HB hE__; replace HR := ck HR hE__; clear hE__; clear hb__ hsn)
 | ((with_reducible refine sl 19 ?_); (refine z05 rfl 27 (.tmp 18) rfl b (off + k0 * 11) rfl x.cells _ HR.out Try.underlying27 rfl HBI.out ?_); simp only [PT])
 | ((with_reducible refine sl 8 ?_); (refine z13 rfl rfl 27 rfl (.tmp 8) (.tmp 19) rfl x.cells.toArray _ HZI.out rfl (z0h _) (fun _ => rfl) (fun _ => rfl) ?_); intro w8 g8 le_g8 lt_g8 hg__ hb__; have HG8 := Hd hg__; have hE__ := cU HB bup hb__; replace HB := ck HB hE__; clear hE__; clear hg__ hb__; simp only [PT])
 | ((with_reducible refine sl 21 ?_); (refine z01 rfl 3 (.tmp 20) rfl g8 0 rfl (.int .i64 3) HG8.out HC0.out Try.underlying3 rfl ?_); simp only [PT])
 | ((with_reducible refine sl 27 ?_); (refine z01 rfl 3 (.tmp 26) rfl g8 0 rfl (.int .i64 3) HG8.out HC0.out Try.underlying3 rfl ?_); simp only [PT])
 | ((with_reducible refine sl 31 ?_); (refine z01 rfl 3 (.tmp 30) rfl g8 0 rfl (.int .i64 3) HG8.out HC0.out Try.underlying3 rfl ?_); simp only [PT])
 | ((with_reducible refine sl 43 ?_); (refine z01 rfl 3 (.tmp 42) rfl g8 0 rfl (.int .i64 3) HG8.out HC0.out Try.underlying3 rfl ?_); simp only [PT])
 | ((with_reducible refine sl 36 ?_); (refine z01 rfl 3 (.tmp 35) rfl g8 5 rfl (.int .i64 x.iface) HG8.out HC5.out Try.underlying3 rfl ?_); simp only [PT]))
      go_ret
      exact ⟨rfl, HB.out⟩
  have hk3 := hk
  have hd3 : decide (x.kind = 3) = false := decide_eq_false hk
  have he3 : (x.kind == 3) = false := by simpa using hk
  clear hk
  by_cases hk : x.kind = 6
  · by_cases hi : x.iface < (N : Int)
    · skip
      have HC0 : Hid (x.cells.toArray[0]? = some (.int .i64 6)) := Hd (by rw [← hk]; rfl)
      have hres : R = true := by rw [← HRR.out]; exact (okS_36 (.inr hk) hs').trans (by rw [HN.out, show x.val.iface = x.iface from rfl]; simpa using hi)
      subst hres
      clear hk
      go_wp2_with (first
 | (go_at_call 66; (refine (z27 S B L N (some ⟨b, off, none⟩) n c vs k0 HST.out HN.out _ (HV.out.below HB.out) hn (by omega)).mono ?_); intro e w6 hr; obtain ⟨sad, sc, rfl, hsn, hb__⟩ := hr; have HSN := Hd hsn; have hE__ := cU HB bup hb__; replace HB := ck HB hE__; replace HR := ck HR hE__; clear hE__; clear hb__ hsn)
 | ((with_reducible refine sl 19 ?_); (refine z05 rfl 27 (.tmp 18) rfl b (off + k0 * 11) rfl x.cells _ HR.out Try.underlying27 rfl HBI.out ?_); simp only [PT])
 | ((with_reducible refine sl 8 ?_); (refine z13 rfl rfl 27 rfl (.tmp 8) (.tmp 19) rfl x.cells.toArray _ HZI.out rfl (z0h _) (fun _ => rfl) (fun _ => rfl) ?_); intro w8 g8 le_g8 lt_g8 hg__ hb__; have HG8 := Hd hg__; have hE__ := cU HB bup hb__; replace HB := ck HB hE__; clear hE__; clear hg__ hb__; simp only [PT])
 | ((with_reducible refine sl 21 ?_); (refine z01 rfl 3 (.tmp 20) rfl g8 0 rfl (.int .i64 6) HG8.out HC0.out Try.underlying3 rfl ?_); simp only [PT])
 | ((with_reducible refine sl 27 ?_); (refine z01 rfl 3 (.tmp 26) rfl g8 0 rfl (.int .i64 6) HG8.out HC0.out Try.underlying3 rfl ?_); simp only [PT])
 | ((with_reducible refine sl 31 ?_); (refine z01 rfl 3 (.tmp 30) rfl g8 0 rfl (.int .i64 6) HG8.out HC0.out Try.underlying3 rfl ?_); simp only [PT])
 | ((with_reducible refine sl 43 ?_); (refine z01 rfl 3 (.tmp 42) rfl g8 0 rfl (.int .i64 6) HG8.out HC0.out Try.underlying3 rfl ?_); simp only [PT])
 | ((with_reducible refine sl 36 ?_); (refine z01 rfl 3 (.tmp 35) rfl g8 5 rfl (.int .i64 x.iface) HG8.out HC5.out Try.underlying3 rfl ?_); simp only [PT]))
      go_ret
      exact ⟨rfl, HB.out⟩
    · skip
      have HC0 : Hid (x.cells.toArray[0]? = some (.int .i64 6)) := Hd (by rw [← hk]; rfl)
      have hres : R = false := by rw [← HRR.out]; exact (okS_36 (.inr hk) hs').trans (by rw [HN.out, show x.val.iface = x.iface from rfl]; simpa using hi)
      subst hres
      clear hk
      go_wp2_with (first
 | (go_at_call 66; (refine (z27 S B L N (some ⟨b, off, none⟩) n c vs k0 HST.out HN.out _ (HV.out.below HB.out) hn (by omega)).mono ?_); intro e w6 hr; obtain ⟨sad, sc, rfl, hsn, hb__⟩ := hr; have HSN := Hd hsn; have hE__ := cU HB bup hb__; replace HB := ck HB hE__; replace HR := ck HR hE__; clear hE__; clear hb__ hsn)
 | ((with_reducible refine sl 19 ?_); (refine z05 rfl 27 (.tmp 18) rfl b (off + k0 * 11) rfl x.cells _ HR.out Try.underlying27 rfl HBI.out ?_); simp only [PT])
 | ((with_reducible refine sl 8 ?_); (refine z13 rfl rfl 27 rfl (.tmp 8) (.tmp 19) rfl x.cells.toArray _ HZI.out rfl (z0h _) (fun _ => rfl) (fun _ => rfl) ?_); intro w8 g8 le_g8 lt_g8 hg__ hb__; have HG8 := Hd hg__; have hE__ := cU HB bup hb__; replace HB := ck HB hE__; clear hE__; clear hg__ hb__; simp only [PT])
 | ((with_reducible refine sl 21 ?_); (refine z01 rfl 3 (.tmp 20) rfl g8 0 rfl (.int .i64 6) HG8.out HC0.out Try.underlying3 rfl ?_); simp only [PT])
 | ((with_reducible refine sl 27 ?_); (refine z01 rfl 3 (.tmp 26) rfl g8 0 rfl (.int .i64 6) HG8.out HC0.out Try.underlying3 rfl ?_); simp only [PT])
 | ((with_reducible refine sl 31 ?_); (refine z01 rfl 3 (.tmp 30) rfl g8 0 rfl (.int .i64 6) HG8.out HC0.out Try.underlying3 rfl ?_); simp only [PT])
 | ((with_reducible refine sl 43 ?_); (refine z01 rfl 3 (.tmp 42) rfl g8 0 rfl (.int .i64 6) HG8.out HC0.out Try.underlying3 rfl ?_); simp only [PT])
 | ((with_reducible refine sl 36 ?_); (refine z01 rfl 3 (.tmp 35) rfl g8 5 rfl (.int .i64 x.iface) HG8.out HC5.out Try.underlying3 rfl ?_); simp only [PT]))
      go_ret
      exact ⟨rfl, HB.out⟩
  have hk6 := hk
  have hd6 : decide (x.kind = 6) = false := decide_eq_false hk
  have he6 : (x.kind == 6) = false := by simpa using hk
  clear hk
  by_cases hk : x.kind = 4
  · by_cases hi : 0 < N
    · skip
      have HC0 : Hid (x.cells.toArray[0]? = some (.int .i64 4)) := Hd (by rw [← hk]; rfl)
      have hres : R = true := by rw [← HRR.out]; exact (okS_4 hk hs').trans (by rw [HN.out]; simpa using hi)
      subst hres
      clear hk
      go_wp2_with (first
 | (go_at_call 66; (refine (z27 S B L N (some ⟨b, off, none⟩) n c vs k0 HST.out HN.out _ (HV.out.below HB.out) hn (by omega)).mono ?_); intro e w6 hr; obtain ⟨sad, sc, rfl, hsn, hb__⟩ := hr; have HSN := Hd hsn; have hE__ := cU HB bup hb__; replace HB := ck HB hE__; replace HR := ck HR hE__; clear hE__; clear hb__ hsn)
 | ((with_reducible refine sl 19 ?_); (refine z05 rfl 27 (.tmp 18) rfl b (off + k0 * 11) rfl x.cells _ HR.out Try.underlying27 rfl HBI.out ?_); simp only [PT])
 | ((with_reducible refine sl 8 ?_); (refine z13 rfl rfl 27 rfl (.tmp 8) (.tmp 19) rfl x.cells.toArray _ HZI.out rfl (z0h _) (fun _ => rfl) (fun _ => rfl) ?_); intro w8 g8 le_g8 lt_g8 hg__ hb__; have HG8 := Hd hg__; have hE__ := cU HB bup hb__; replace HB := ck HB hE__; clear hE__; clear hg__ hb__; simp only [PT])
 | ((with_reducible refine sl 21 ?_); (refine z01 rfl 3 (.tmp 20) rfl g8 0 rfl (.int .i64 4) HG8.out HC0.out Try.underlying3 rfl ?_); simp only [PT])
 | ((with_reducible refine sl 27 ?_); (refine z01 rfl 3 (.tmp 26) rfl g8 0 rfl (.int .i64 4) HG8.out HC0.out Try.underlying3 rfl ?_); simp only [PT])
 | ((with_reducible refine sl 31 ?_); (refine z01 rfl 3 (.tmp 30) rfl g8 0 rfl (.int .i64 4) HG8.out HC0.out Try.underlying3 rfl ?_); simp only [PT])
 | ((with_reducible refine sl 43 ?_); (refine z01 rfl 3 (.tmp 42) rfl g8 0 rfl (.int .i64 4) HG8.out HC0.out Try.underlying3 rfl ?_); simp only [PT])
 | ((with_reducible refine sl 36 ?_); (refine z01 rfl 3 (.tmp 35) rfl g8 5 rfl (.int .i64 x.iface) HG8.out HC5.out Try.underlying3 rfl ?_); simp only [PT]))
      go_ret
      exact ⟨rfl, HB.out⟩
    · skip
      have HC0 : Hid (x.cells.toArray[0]? = some (.int .i64 4)) := Hd (by rw [← hk]; rfl)
      have hres : R = false := by rw [← HRR.out]; exact (okS_4 hk hs').trans (by rw [HN.out]; simpa using hi)
      subst hres
      clear hk
      go_wp2_with (first
 | (go_at_call 66; (refine (z27 S B L N (some ⟨b, off, none⟩) n c vs k0 HST.out HN.out _ (HV.out.below HB.out) hn (by omega)).mono ?_); intro e w6 hr; obtain ⟨sad, sc, rfl, hsn, hb__⟩ := hr; have HSN := Hd hsn; have hE__ := cU HB bup hb__; replace HB := ck HB hE__; replace HR := ck HR hE__; clear hE__; clear hb__ hsn)
 | ((with_reducible refine sl 19 ?_); (refine z05 rfl 27 (.tmp 18) rfl b (off + k0 * 11) rfl x.cells _ HR.out Try.underlying27 rfl HBI.out ?_); simp only [PT])
 | ((with_reducible refine sl 8 ?_); (refine z13 rfl rfl 27 rfl (.tmp 8) (.tmp 19) rfl x.cells.toArray _ HZI.out rfl (z0h _) (fun _ => rfl) (fun _ => rfl) ?_); intro w8 g8 le_g8 lt_g8 hg__ hb__; have HG8 := Hd hg__; have hE__ := cU HB bup hb__; replace HB := ck HB hE__; clear hE__; clear hg__ hb__; simp only [PT])
 | ((with_reducible refine sl 21 ?_); (refine z01 rfl 3 (.tmp 20) rfl g8 0 rfl (.int .i64 4) HG8.out HC0.out Try.underlying3 rfl ?_); simp only [PT])
 | ((with_reducible refine sl 27 ?_); (refine z01 rfl 3 (.tmp 26) rfl g8 0 rfl (.int .i64 4) HG8.out HC0.out Try.underlying3 rfl ?_); simp only [PT])
 | ((with_reducible refine sl 31 ?_); (refine z01 rfl 3 (.tmp 30) rfl g8 0 rfl (.int .i64 4) HG8.out HC0.out Try.underlying3 rfl ?_); simp only [PT])
 | ((with_reducible refine sl 43 ?_); (refine z01 rfl 3 (.tmp 42) rfl g8 0 rfl (.int .i64 4) HG8.out HC0.out Try.underlying3 rfl ?_); simp only [PT])
 | ((with_reducible refine sl 36 ?_); (refine z01 rfl 3 (.tmp 35) rfl g8 5 rfl (.int .i64 x.iface) HG8.out HC5.out Try.underlying3 rfl ?_); simp only [PT]))
      go_ret
      exact ⟨rfl, HB.out⟩
  · skip
    have HC0 : Hid (x.cells.toArray[0]? = some (.int .i64 x.kind)) := Hd (by rfl)
    have hres : R = true := by rw [← HRR.out]; exact okS_else hk1 hk3 hk6 hk hs'
    subst hres
    go_wp2_with (first
 | (go_at_call 66; (refine (z27 S B L N (some ⟨b, off, none⟩) n c vs k0 HST.out HN.out _ (HV.out.below HB.out) hn (by omega)).mono ?_); intro e w6 hr; obtain ⟨sad, sc, rfl, hsn, hb__⟩ := hr; have HSN := Hd hsn; have hE__ := cU HB bup hb__; replace HB := ck HB hE__; replace HR := ck HR hE__; clear hE__; clear hb__ hsn)
 | ((with_reducible refine sl 19 ?_); (refine z05 rfl 27 (.tmp 18) rfl b (off + k0 * 11) rfl x.cells _ HR.out Try.underlying27 rfl HBI.out ?_); simp only [PT])
 | ((with_reducible refine sl 8 ?_); (refine z13 rfl rfl 27 rfl (.tmp 8) (.tmp 19) rfl x.cells.toArray _ HZI.out rfl (z0h _) (fun _ => rfl) (fun _ => rfl) ?_); intro w8 g8 le_g8 lt_g8 hg__ hb__; have HG8 := Hd hg__; have hE__ := cU HB bup hb__; replace HB := ck HB hE__; clear hE__; clear hg__ hb__; simp only [PT])
 | ((with_reducible refine sl 21 ?_); (refine z01 rfl 3 (.tmp 20) rfl g8 0 rfl (.int .i64 x.kind) HG8.out HC0.out Try.underlying3 rfl ?_); simp only [PT])
 | ((with_reducible refine sl 27 ?_); (refine z01 rfl 3 (.tmp 26) rfl g8 0 rfl (.int .i64 x.kind) HG8.out HC0.out Try.underlying3 rfl ?_); simp only [PT])
 | ((with_reducible refine sl 31 ?_); (refine z01 rfl 3 (.tmp 30) rfl g8 0 rfl (.int .i64 x.kind) HG8.out HC0.out Try.underlying3 rfl ?_); simp only [PT])
 | ((with_reducible refine sl 43 ?_); (refine z01 rfl 3 (.tmp 42) rfl g8 0 rfl (.int .i64 x.kind) HG8.out HC0.out Try.underlying3 rfl ?_); simp only [PT])
 | ((with_reducible refine sl 36 ?_); (refine z01 rfl 3 (.tmp 35) rfl g8 5 rfl (.int .i64 x.iface) HG8.out HC5.out Try.underlying3 rfl ?_); simp only [PT]))
    go_ret
    exact ⟨rfl, HB.out⟩
theorem z1g (ad : Option Addr) (n c : Nat) (l : List UInt8) (k : Nat) (big : Bool) (w : World) (hs : Bs w ad n c l) (hk : k + 4 ≤ n) (hn : n ≤ 4000000) :
    Calls Try.prog 85 #[.slice ad n c, .int .i64 k, .bool big] w fun e w' => e = .returned (.int .u64 (getN ((l.drop k).take 4) big)) ∧ w = w' := by
  have HS := Hd hs
  have hc := hs.le
  obtain ⟨m, hm⟩ : ∃ m, m = k + 4 := ⟨_, rfl⟩
  have hmi : (k : Int) + 4 = (m : Int) := by omega
  have hmw : IntKind.i64.wrap ((k : Int) + 4) = (m : Int) := by rw [IntKind.wrap_i64]; omega
  have hmk : Hid (m - k = 4) := Hd (by omega)
  have hkm : k ≤ m := by omega
  have hmn : m ≤ n := by omega
  clear hs hm
  go_enter Try.func85, Try.ntmps85
  go_wp2_with (first
 | ((with_reducible refine sl 11 ?_); (try rw [hmi]); (refine z0t elB rfl (.tmp 7) (some (.tmp 8)) (some (.tmp 10)) rfl rfl k m (.inr ⟨.i64, rfl⟩) (.inr ⟨.i64, rfl⟩) (by omega) (by omega) ?_); intro ad4 had4; (have H4 := Hd (show Bs w ad4 (m - k) (c - k) ((l.drop k).take 4) by rw [had4.out, ← hmk.out]; exact Bs.part HS.out k m (by omega) (by omega))); simp only [PT])
 | (go_at_call 61; (refine (z12 ad4 _ _ _ big _ H4.out).mono ?_); rintro e w5 ⟨rfl, hw5⟩))
  go_ret
  exact ⟨rfl, hw5⟩
theorem refOpen1_short (ad : Option Addr) (n c : Nat) (l : List UInt8) (big : Bool) (w : World) (hs : Bs w ad n c l) (hn : n ≤ 1048576) (h : n < 16) :
    Calls Try.prog 62 #[.agg #[.int .i64 1, .bool false, .int .u32 0, .int .i64 0, .int .u32 0, .int .i64 0, .int .u64 0, .int .u32 0, .slice none 0 0, .slice none 0 0, .slice none 0 0], .slice ad n c, .bool big] w (OpenR ad n c l (openP 1 0 l big) w) := by
  have HB := Hd (Below.refl w.heap.size w)
  have HS := Hd hs
  have HBI := Hd z0d
  have hc := hs.le
  have HN := Hd hs.len
  clear hs
  have hi : (n : Int) < 16 := by omega
  have HO := Hd (show openP 1 0 l big = none from by have := HN.out; unfold openP; simp [show l.length < 16 by omega])
  clear h
  go_enter Try.func62, Try.ntmps62
  go_wp2_with (first
 | ((with_reducible refine sl 3 ?_); (refine z0a rfl 27 (.tmp 0) rfl #[.int .i64 1, .bool false, .int .u32 0, .int .i64 0, .int .u32 0, .int .i64 0, .int .u64 0, .int .u32 0, .slice none 0 0, .slice none 0 0, .slice none 0 0] rfl ?_); intro w1 g3 he__ le_g3 lt_g3 hg__ hb__; have HG3 := Hd hg__; have hE__ := cU HB bup hb__; replace HB := ck HB hE__; clear hE__; clear hg__ hb__ he__; simp only [PT])
 | ((with_reducible refine sl 6 ?_); (refine z09 rfl 27 rfl (.agg #[.int .i64 0, .bool false, .int .u32 0, .int .i64 0, .int .u32 0, .int .i64 0, .int .u64 0, .int .u32 0, .slice none 0 0, .slice none 0 0, .slice none 0 0]) #[.int .i64 0, .bool false, .int .u32 0, .int .i64 0, .int .u32 0, .int .i64 0, .int .u64 0, .int .u32 0, .slice none 0 0, .slice none 0 0, .slice none 0 0] 11 (by kernel_rfl) rfl ?_); intro w2 g6 he__ le_g6 lt_g6 hg__ hb__; have HG6 := Hd hg__; have hE__ := cU HB bup hb__; replace HB := ck HB hE__; replace HG3 := ck HG3 hE__; clear hE__; clear hg__ hb__ he__; simp only [PT])
 | ((with_reducible refine sl 25 ?_); (refine z1q rfl 101 3 8 _ rfl .i64 [0, 16, 8, 20, 4, 0, 12, 0] Try.underlying101 (by kernel_rfl) (by kernel_rfl) rfl (by decide) (by decide) (by rfl) ?_); intro w3 gL le_gL hg__ hb__; have HGL := Hd hg__; have hE__ := cU HB bup hb__; replace HB := ck HB hE__; replace HG3 := ck HG3 hE__; replace HG6 := ck HG6 hE__; clear hE__; clear hg__ hb__; simp only [PT])
 | ((with_reducible refine sl 27 ?_); (refine z01 rfl 3 (.tmp 26) rfl g3 0 rfl (.int .i64 1) HG3.out rfl Try.underlying3 rfl ?_); simp only [PT])
 | ((with_reducible refine sl 29 ?_); (refine z01 rfl 3 (.tmp 28) rfl gL 1 rfl (.int .i64 16) HGL.out rfl Try.underlying3 rfl ?_); simp only [PT])
 | ((with_reducible refine sl 36 ?_); (refine z01 rfl 3 (.tmp 35) rfl g3 0 rfl (.int .i64 1) HG3.out rfl Try.underlying3 rfl ?_); simp only [PT])
 | ((with_reducible refine sl 83 ?_); (refine z01 rfl 3 (.tmp 82) rfl g3 0 rfl (.int .i64 1) HG3.out rfl Try.underlying3 rfl ?_); simp only [PT])
 | ((with_reducible refine sl 34 ?_); (refine z05 rfl 27 (.tmp 3) rfl g3 0 rfl [.int .i64 1, .bool false, .int .u32 0, .int .i64 0, .int .u32 0, .int .i64 0, .int .u64 0, .int .u32 0, .slice none 0 0, .slice none 0 0, .slice none 0 0] _ (z00 HG3.out) Try.underlying27 rfl HBI.out ?_); simp only [PT])
 | ((with_reducible show wpList _ _ _ (⟨none, .store _ (.tmp 6) (.tmp 34), _, _, _, _⟩ :: _) _ _); (refine z02 rfl 27 (.tmp 6) (.tmp 34) rfl g6 #[.int .i64 1, .bool false, .int .u32 0, .int .i64 0, .int .u32 0, .int .i64 0, .int .u64 0, .int .u32 0, .slice none 0 0, .slice none 0 0, .slice none 0 0] rfl rfl HG6.out HBI.out rfl (all1 _ rfl) ?_); intro w9 hs__ hr__; replace HB := cg HB bup hr__ (by omega); replace HG3 := cg HG3 bup hr__ (by omega); clear HG6; have HG6 := Hd hs__; clear hs__ hr__; simp only [PT]))
  all_goals
    (try simp only [Exit.inBlock, Exit.then, Exit.noGoto_ret])
    refine z04 (cs := [.int .i64 1, .bool false, .int .u32 0, .int .i64 0, .int .u32 0, .int .i64 0, .int .u64 0, .int .u32 0, .slice none 0 0, .slice none 0 0, .slice none 0 0]) rfl rfl (z00 HG6.out) Try.underlying27 rfl HBI.out rfl ?_
    exact ⟨⟨1, false, 0, 0, 0, 0, 0, 0, none, 0, 0, [], none, 0, 0, [], none, 0, 0, []⟩, none, 0, 0, false, rfl, by rw [HO.out]; rfl, fun x r h => absurd (HO.out.symm.trans h) (by simp), HB.out⟩
theorem refOpen1_ok (ad : Option Addr) (n c : Nat) (l : List UInt8) (big : Bool) (w : World) (hs : Bs w ad n c l) (hn : n ≤ 1048576) (h : 16 ≤ n) (h1 : w2 big l 4 = 1) :
    Calls Try.prog 62 #[.agg #[.int .i64 1, .bool false, .int .u32 0, .int .i64 0, .int .u32 0, .int .i64 0, .int .u64 0, .int .u32 0, .slice none 0 0, .slice none 0 0, .slice none 0 0], .slice ad n c, .bool big] w (OpenR ad n c l (openP 1 0 l big) w) := by
  have HB := Hd (Below.refl w.heap.size w)
  have HS := Hd hs
  have HBI := Hd z0d
  have hc := hs.le
  have HN := Hd hs.len
  clear hs
  have hi : ¬ (n : Int) < 16 := by omega
  obtain ⟨V4, hV4⟩ : ∃ x, x = getN ((l.drop 4).take 2) big := ⟨_, rfl⟩
  have bV4 : V4 < 65536 := by rw [hV4]; exact w2_lt big l 4
  have HV4 := Hd hV4
  clear hV4
  have HP6 : Hid (∀ w0, Bs w0 ad n c l → Bs w0 (subAd ad c 4 1) (6 - 4) (c - 4) ((l.drop 4).take 2)) := Hd (fun w0 h0 => Bs.part h0 4 6 (by omega) (by omega))
  have HP16 : Hid (∀ w0, Bs w0 ad n c l → Bs w0 (subAd ad c 16 1) (n - 16) (c - 16) (l.drop 16)) := Hd (fun w0 h0 => Bs.drop8 h0 16 (by omega))
  have hv : V4 = 1 := by rw [HV4.out]; exact h1
  have hvi : (V4 : Int) = 1 := by omega
  have HO : Hid (openP 1 0 l big = some ({ noneB with kind := 1, big := big }, l.drop 16)) := Hd (by have := HN.out; unfold openP; rw [if_pos rfl, if_neg (by omega), if_pos h1])
  clear HN hv h1
  go_enter Try.func62, Try.ntmps62
  go_wp2_with (first
 | ((with_reducible refine sl 3 ?_); (refine z0a rfl 27 (.tmp 0) rfl #[.int .i64 1, .bool false, .int .u32 0, .int .i64 0, .int .u32 0, .int .i64 0, .int .u64 0, .int .u32 0, .slice none 0 0, .slice none 0 0, .slice none 0 0] rfl ?_); intro w1 g3 he__ le_g3 lt_g3 hg__ hb__; have HG3 := Hd hg__; have hE__ := cU HB bup hb__; replace HB := ck HB hE__; clear hE__; clear hg__ hb__ he__; simp only [PT])
 | ((with_reducible refine sl 6 ?_); (refine z09 rfl 27 rfl (.agg #[.int .i64 0, .bool false, .int .u32 0, .int .i64 0, .int .u32 0, .int .i64 0, .int .u64 0, .int .u32 0, .slice none 0 0, .slice none 0 0, .slice none 0 0]) #[.int .i64 0, .bool false, .int .u32 0, .int .i64 0, .int .u32 0, .int .i64 0, .int .u64 0, .int .u32 0, .slice none 0 0, .slice none 0 0, .slice none 0 0] 11 (by kernel_rfl) rfl ?_); intro w2 g6 he__ le_g6 lt_g6 hg__ hb__; have HG6 := Hd hg__; have hE__ := cU HB bup hb__; replace HB := ck HB hE__; replace HG3 := ck HG3 hE__; clear hE__; clear hg__ hb__ he__; simp only [PT])
 | ((with_reducible refine sl 25 ?_); (refine z1q rfl 101 3 8 _ rfl .i64 [0, 16, 8, 20, 4, 0, 12, 0] Try.underlying101 (by kernel_rfl) (by kernel_rfl) rfl (by decide) (by decide) (by rfl) ?_); intro w3 gL le_gL hg__ hb__; have HGL := Hd hg__; have hE__ := cU HB bup hb__; replace HB := ck HB hE__; replace HG3 := ck HG3 hE__; replace HG6 := ck HG6 hE__; clear hE__; clear hg__ hb__; simp only [PT])
 | ((with_reducible refine sl 27 ?_); (refine z01 rfl 3 (.tmp 26) rfl g3 0 rfl (.int .i64 1) HG3.out rfl Try.underlying3 rfl ?_); simp only [PT])
 | ((with_reducible refine sl 29 ?_); (refine z01 rfl 3 (.tmp 28) rfl gL 1 rfl (.int .i64 16) HGL.out rfl Try.underlying3 rfl ?_); simp only [PT])
 | ((with_reducible refine sl 36 ?_); (refine z01 rfl 3 (.tmp 35) rfl g3 0 rfl (.int .i64 1) HG3.out rfl Try.underlying3 rfl ?_); simp only [PT])
 | ((with_reducible refine sl 83 ?_); (refine z01 rfl 3 (.tmp 82) rfl g3 0 rfl (.int .i64 1) HG3.out rfl Try.underlying3 rfl ?_); simp only [PT])
 | ((with_reducible show wpList _ _ _ (⟨none, .store _ (.tmp 40) (.tmp 39), _, _, _, _⟩ :: _) _ _); (refine z0c rfl 4 (.tmp 40) (.tmp 39) rfl g3 1 (.bool big) rfl rfl rfl HG3.out (by simp) (by kernel_rfl) #[.int .i64 1, .bool big, .int .u32 0, .int .i64 0, .int .u32 0, .int .i64 0, .int .u64 0, .int .u32 0, .slice none 0 0, .slice none 0 0, .slice none 0 0] rfl ?_); intro w4 hs__ hr__; replace HB := cg HB bup hr__ (by omega); replace HG6 := cg HG6 bup hr__ (by omega); clear HG3; have HG3 := Hd hs__; clear hs__ hr__; simp only [PT]))
  refine wp_region_held_drew (S := fun u => True) (by kernel_rfl) ?_ (fun hHeld => ?_); (focus (exact trivial)); (refine tk 1 (oi := ⟨some 42, _, _, _, _, _⟩) (v := ?_) rfl (by kernel_rfl) (.inl ⟨by rfl, ?_⟩) hHeld ?_; rotate_left; focus (intro w hSw; (try dsimp only at hSw); go_simp; try with_reducible rfl)); simp only [PT]; refine' tk 2 (oi := ⟨some 43, _, _, _, _, _⟩) (v := _) rfl (by kernel_rfl) (z14 elB rfl (.tmp 42) (some (.const (.int .i64 16))) none rfl rfl 16 n (.inr ⟨.i64, rfl⟩) (.inl ⟨rfl, rfl⟩) (by omega) (by omega)) hHeld ?_; simp only [PT]; (refine tk 3 (oi := ⟨some 44, _, _, _, _, _⟩) (v := ?_) rfl (by kernel_rfl) (.inl ⟨by rfl, ?_⟩) hHeld ?_; rotate_left; focus (intro w hSw; (try dsimp only at hSw); go_simp; try with_reducible rfl)); simp only [PT]; refine' tk 4 (oi := ⟨some 45, _, _, _, _, _⟩) (v := _) rfl (by kernel_rfl) (z14 elB rfl (.tmp 44) (some (.const (.int .i64 4))) (some (.const (.int .i64 6))) rfl rfl 4 6 (.inr ⟨.i64, rfl⟩) (.inr ⟨.i64, rfl⟩) (by omega) (by omega)) hHeld ?_; simp only [PT]; (refine tk 5 (oi := ⟨some 46, _, _, _, _, _⟩) (v := ?_) rfl (by kernel_rfl) (.inl ⟨by rfl, ?_⟩) hHeld ?_; rotate_left; focus (intro w hSw; (try dsimp only at hSw); go_simp; try with_reducible rfl)); simp only [PT]; refine wpAnyH_ready (rs := [0, 6]) (by kernel_rfl) (by simp) ?_; refine (AllReadyH.cons (o := ⟨some 41, _, _, _, _, _⟩) rfl (fun K hK => ?_) (AllReadyH.cons (o := ⟨some 47, _, _, _, _, _⟩) rfl (fun K hK => ?_) AllReadyH.nil)); ((refine z1m rfl 27 (.tmp 3) rfl g3 0 rfl [.int .i64 1, .bool big, .int .u32 0, .int .i64 0, .int .u32 0, .int .i64 0, .int .u64 0, .int .u32 0, .slice none 0 0, .slice none 0 0, .slice none 0 0] _ (by exact z00 HG3.out) Try.underlying27 rfl HBI.out ?_)); refine hK.out _ _ ?_ (fun hHeld => ?_); (focus (exact trivial)); clear hK K; (try simp only [PT]); refine wpAnyH_ready (rs := [6]) (by kernel_rfl) (by simp) ?_; refine (AllReadyH.cons (o := ⟨some 47, _, _, _, _, _⟩) rfl (fun K hK => ?_) AllReadyH.nil); (focus (go_simp; (refine (z12 _ (6 - 4) _ _ big _ (HP6.out _ (HS.out.below (HB.out.trans (Below.mono bup HB.out.size))))).mono ?_); intro e w5 hr; rw [← HV4.out] at hr; obtain ⟨rfl, hw__⟩ := hr; subst hw__; go_wp2_with fail)); refine hK.out _ _ ?_ (fun hHeld => ?_); (focus (exact trivial)); clear hK K; (try simp only [PT]); (refine' tk 7 (oi := ⟨some 48, _, _, _, _, _⟩) (v := (.bool true)) rfl (by kernel_rfl) (.inl ⟨by rfl, ?_⟩) hHeld ?_; focus (intro w hSw; (try dsimp only at hSw); go_simp; first | done | rfl | (simp [*]; done) | (simp [*]; omega))); simp only [PT]; refine wpAnyH_ready (rs := [8]) (by kernel_rfl) (by simp) ?_; refine (AllReadyH.cons (o := ⟨none, _, _, _, _, _⟩) rfl (fun K hK => ?_) AllReadyH.nil); ((refine z0j rfl 27 (.tmp 6) (.tmp 41) rfl g6 #[.int .i64 1, .bool big, .int .u32 0, .int .i64 0, .int .u32 0, .int .i64 0, .int .u64 0, .int .u32 0, .slice none 0 0, .slice none 0 0, .slice none 0 0] rfl rfl HG6.out HBI.out rfl (all1 _ rfl) ?_); intro w9 hs__ hr__; replace HB := cg HB bup hr__ (by omega); replace HG3 := cg HG3 bup hr__ (by omega); clear HG6; have HG6 := Hd hs__; clear hs__ hr__); refine hK.out _ _ ?_ (fun hHeld => ?_); (focus (exact trivial)); clear hK K; (try simp only [PT]); (refine tk 9 (oi := ⟨some 7, _, _, _, _, _⟩) (v := ?_) rfl (by kernel_rfl) (.inl ⟨by rfl, ?_⟩) hHeld ?_; rotate_left; focus (intro w hSw; (try dsimp only at hSw); go_simp; try with_reducible rfl)); simp only [PT]; (refine tk 10 (oi := ⟨some 8, _, _, _, _, _⟩) (v := ?_) rfl (by kernel_rfl) (.inl ⟨by rfl, ?_⟩) hHeld ?_; rotate_left; focus (intro w hSw; (try dsimp only at hSw); go_simp; try with_reducible rfl)); simp only [PT]; refine wpAnyH_done (by kernel_rfl) ?_ _; rotate_left; (focus (go_simp; (refine (z12 _ (6 - 4) _ _ big _ (HP6.out _ (HS.out.below (HB.out.trans (Below.mono bup HB.out.size))))).mono ?_); intro e w5 hr; rw [← HV4.out] at hr; obtain ⟨rfl, hw__⟩ := hr; subst hw__; go_wp2_with fail))
  refine hK.out _ _ ?_ (fun hHeld => ?_); (focus (exact trivial)); clear hK K; (try simp only [PT]); (refine' tk 7 (oi := ⟨some 48, _, _, _, _, _⟩) (v := (.bool true)) rfl (by kernel_rfl) (.inl ⟨by rfl, ?_⟩) hHeld ?_; focus (intro w hSw; (try dsimp only at hSw); go_simp; first | done | rfl | (simp [*]; done) | (simp [*]; omega))); simp only [PT]; refine wpAnyH_ready (rs := [0]) (by kernel_rfl) (by simp) ?_; refine (AllReadyH.cons (o := ⟨some 41, _, _, _, _, _⟩) rfl (fun K hK => ?_) AllReadyH.nil); ((refine z1m rfl 27 (.tmp 3) rfl g3 0 rfl [.int .i64 1, .bool big, .int .u32 0, .int .i64 0, .int .u32 0, .int .i64 0, .int .u64 0, .int .u32 0, .slice none 0 0, .slice none 0 0, .slice none 0 0] _ (by exact z00 HG3.out) Try.underlying27 rfl HBI.out ?_)); refine hK.out _ _ ?_ (fun hHeld => ?_); (focus (exact trivial)); clear hK K; (try simp only [PT]); refine wpAnyH_ready (rs := [8]) (by kernel_rfl) (by simp) ?_; refine (AllReadyH.cons (o := ⟨none, _, _, _, _, _⟩) rfl (fun K hK => ?_) AllReadyH.nil); ((refine z0j rfl 27 (.tmp 6) (.tmp 41) rfl g6 #[.int .i64 1, .bool big, .int .u32 0, .int .i64 0, .int .u32 0, .int .i64 0, .int .u64 0, .int .u32 0, .slice none 0 0, .slice none 0 0, .slice none 0 0] rfl rfl HG6.out HBI.out rfl (all1 _ rfl) ?_); intro w9 hs__ hr__; replace HB := cg HB bup hr__ (by omega); replace HG3 := cg HG3 bup hr__ (by omega); clear HG6; have HG6 := Hd hs__; clear hs__ hr__); refine hK.out _ _ ?_ (fun hHeld => ?_); (focus (exact trivial)); clear hK K; (try simp only [PT]); (refine tk 9 (oi := ⟨some 7, _, _, _, _, _⟩) (v := ?_) rfl (by kernel_rfl) (.inl ⟨by rfl, ?_⟩) hHeld ?_; rotate_left; focus (intro w hSw; (try dsimp only at hSw); go_simp; try with_reducible rfl)); simp only [PT]; (refine tk 10 (oi := ⟨some 8, _, _, _, _, _⟩) (v := ?_) rfl (by kernel_rfl) (.inl ⟨by rfl, ?_⟩) hHeld ?_; rotate_left; focus (intro w hSw; (try dsimp only at hSw); go_simp; try with_reducible rfl)); simp only [PT]; refine wpAnyH_done (by kernel_rfl) ?_ _; rotate_left
  all_goals
    go_wp2_with fail
    (try simp only [Exit.inBlock, Exit.then, Exit.noGoto_ret])
    refine z04 (cs := [.int .i64 1, .bool big, .int .u32 0, .int .i64 0, .int .u32 0, .int .i64 0, .int .u64 0, .int .u32 0, .slice none 0 0, .slice none 0 0, .slice none 0 0]) rfl rfl (z00 HG6.out) Try.underlying27 rfl HBI.out rfl ?_
    refine ⟨⟨1, big, 0, 0, 0, 0, 0, 0, none, 0, 0, [], none, 0, 0, [], none, 0, 0, []⟩, _, _, _, true, rfl, by rw [HO.out]; rfl, fun x r h => ?_, HB.out⟩
    have hh := HO.out.symm.trans h
    simp only [Option.some.injEq, Prod.mk.injEq] at hh
    obtain ⟨rfl, rfl⟩ := hh
    refine ⟨rfl, HP16.out, z1i _ _ _ _, OwnOps.nil _ _ _, OwnOps.nil _ _ _⟩
theorem refOpen1_not (ad : Option Addr) (n c : Nat) (l : List UInt8) (big : Bool) (w : World) (hs : Bs w ad n c l) (hn : n ≤ 1048576) (h : 16 ≤ n) (h1 : ¬ w2 big l 4 = 1) :
    Calls Try.prog 62 #[.agg #[.int .i64 1, .bool false, .int .u32 0, .int .i64 0, .int .u32 0, .int .i64 0, .int .u64 0, .int .u32 0, .slice none 0 0, .slice none 0 0, .slice none 0 0], .slice ad n c, .bool big] w (OpenR ad n c l (openP 1 0 l big) w) := by
  have HB := Hd (Below.refl w.heap.size w)
  have HS := Hd hs
  have HBI := Hd z0d
  have hc := hs.le
  have HN := Hd hs.len
  clear hs
  have hi : ¬ (n : Int) < 16 := by omega
  obtain ⟨V4, hV4⟩ : ∃ x, x = getN ((l.drop 4).take 2) big := ⟨_, rfl⟩
  have bV4 : V4 < 65536 := by rw [hV4]; exact w2_lt big l 4
  have HV4 := Hd hV4
  clear hV4
  have HP6 : Hid (∀ w0, Bs w0 ad n c l → Bs w0 (subAd ad c 4 1) (6 - 4) (c - 4) ((l.drop 4).take 2)) := Hd (fun w0 h0 => Bs.part h0 4 6 (by omega) (by omega))
  have HP16 : Hid (∀ w0, Bs w0 ad n c l → Bs w0 (subAd ad c 16 1) (n - 16) (c - 16) (l.drop 16)) := Hd (fun w0 h0 => Bs.drop8 h0 16 (by omega))
  have hv : ¬ V4 = 1 := by rw [HV4.out]; exact h1
  have hvi : ¬ (V4 : Int) = 1 := by omega
  have HO : Hid (openP 1 0 l big = none) := Hd (by have := HN.out; unfold openP; rw [if_pos rfl, if_neg (by omega), if_neg h1])
  clear HN hv h1
  go_enter Try.func62, Try.ntmps62
  go_wp2_with (first
 | ((with_reducible refine sl 3 ?_); (refine z0a rfl 27 (.tmp 0) rfl #[.int .i64 1, .bool false, .int .u32 0, .int .i64 0, .int .u32 0, .int .i64 0, .int .u64 0, .int .u32 0, .slice none 0 0, .slice none 0 0, .slice none 0 0] rfl ?_); intro w1 g3 he__ le_g3 lt_g3 hg__ hb__; have HG3 := Hd hg__; have hE__ := cU HB bup hb__; replace HB := ck HB hE__; clear hE__; clear hg__ hb__ he__; simp only [PT])
 | ((with_reducible refine sl 6 ?_); (refine z09 rfl 27 rfl (.agg #[.int .i64 0, .bool false, .int .u32 0, .int .i64 0, .int .u32 0, .int .i64 0, .int .u64 0, .int .u32 0, .slice none 0 0, .slice none 0 0, .slice none 0 0]) #[.int .i64 0, .bool false, .int .u32 0, .int .i64 0, .int .u32 0, .int .i64 0, .int .u64 0, .int .u32 0, .slice none 0 0, .slice none 0 0, .slice none 0 0] 11 (by kernel_rfl) rfl ?_); intro w2 g6 he__ le_g6 lt_g6 hg__ hb__; have HG6 := Hd hg__; have hE__ := cU HB bup hb__; replace HB := ck HB hE__; replace HG3 := ck HG3 hE__; clear hE__; clear hg__ hb__ he__; simp only [PT])
 | ((with_reducible refine sl 25 ?_); (refine z1q rfl 101 3 8 _ rfl .i64 [0, 16, 8, 20, 4, 0, 12, 0] Try.underlying101 (by kernel_rfl) (by kernel_rfl) rfl (by decide) (by decide) (by rfl) ?_); intro w3 gL le_gL hg__ hb__; have HGL := Hd hg__; have hE__ := cU HB bup hb__; replace HB := ck HB hE__; replace HG3 := ck HG3 hE__; replace HG6 := ck HG6 hE__; clear hE__; clear hg__ hb__; simp only [PT])
 | ((with_reducible refine sl 27 ?_); (refine z01 rfl 3 (.tmp 26) rfl g3 0 rfl (.int .i64 1) HG3.out rfl Try.underlying3 rfl ?_); simp only [PT])
 | ((with_reducible refine sl 29 ?_); (refine z01 rfl 3 (.tmp 28) rfl gL 1 rfl (.int .i64 16) HGL.out rfl Try.underlying3 rfl ?_); simp only [PT])
 | ((with_reducible refine sl 36 ?_); (refine z01 rfl 3 (.tmp 35) rfl g3 0 rfl (.int .i64 1) HG3.out rfl Try.underlying3 rfl ?_); simp only [PT])
 | ((with_reducible refine sl 83 ?_); (refine z01 rfl 3 (.tmp 82) rfl g3 0 rfl (.int .i64 1) HG3.out rfl Try.underlying3 rfl ?_); simp only [PT])
 | ((with_reducible show wpList _ _ _ (⟨none, .store _ (.tmp 40) (.tmp 39), _, _, _, _⟩ :: _) _ _); (refine z0c rfl 4 (.tmp 40) (.tmp 39) rfl g3 1 (.bool big) rfl rfl rfl HG3.out (by simp) (by kernel_rfl) #[.int .i64 1, .bool big, .int .u32 0, .int .i64 0, .int .u32 0, .int .i64 0, .int .u64 0, .int .u32 0, .slice none 0 0, .slice none 0 0, .slice none 0 0] rfl ?_); intro w4 hs__ hr__; replace HB := cg HB bup hr__ (by omega); replace HG6 := cg HG6 bup hr__ (by omega); clear HG3; have HG3 := Hd hs__; clear hs__ hr__; simp only [PT]))
  refine wp_region_held_drew (S := fun u => True) (by kernel_rfl) ?_ (fun hHeld => ?_); (focus (exact trivial)); (refine tk 1 (oi := ⟨some 42, _, _, _, _, _⟩) (v := ?_) rfl (by kernel_rfl) (.inl ⟨by rfl, ?_⟩) hHeld ?_; rotate_left; focus (intro w hSw; (try dsimp only at hSw); go_simp; try with_reducible rfl)); simp only [PT]; refine' tk 2 (oi := ⟨some 43, _, _, _, _, _⟩) (v := _) rfl (by kernel_rfl) (z14 elB rfl (.tmp 42) (some (.const (.int .i64 16))) none rfl rfl 16 n (.inr ⟨.i64, rfl⟩) (.inl ⟨rfl, rfl⟩) (by omega) (by omega)) hHeld ?_; simp only [PT]; (refine tk 3 (oi := ⟨some 44, _, _, _, _, _⟩) (v := ?_) rfl (by kernel_rfl) (.inl ⟨by rfl, ?_⟩) hHeld ?_; rotate_left; focus (intro w hSw; (try dsimp only at hSw); go_simp; try with_reducible rfl)); simp only [PT]; refine' tk 4 (oi := ⟨some 45, _, _, _, _, _⟩) (v := _) rfl (by kernel_rfl) (z14 elB rfl (.tmp 44) (some (.const (.int .i64 4))) (some (.const (.int .i64 6))) rfl rfl 4 6 (.inr ⟨.i64, rfl⟩) (.inr ⟨.i64, rfl⟩) (by omega) (by omega)) hHeld ?_; simp only [PT]; (refine tk 5 (oi := ⟨some 46, _, _, _, _, _⟩) (v := ?_) rfl (by kernel_rfl) (.inl ⟨by rfl, ?_⟩) hHeld ?_; rotate_left; focus (intro w hSw; (try dsimp only at hSw); go_simp; try with_reducible rfl)); simp only [PT]; refine wpAnyH_ready (rs := [0, 6]) (by kernel_rfl) (by simp) ?_; refine (AllReadyH.cons (o := ⟨some 41, _, _, _, _, _⟩) rfl (fun K hK => ?_) (AllReadyH.cons (o := ⟨some 47, _, _, _, _, _⟩) rfl (fun K hK => ?_) AllReadyH.nil)); ((refine z1m rfl 27 (.tmp 3) rfl g3 0 rfl [.int .i64 1, .bool big, .int .u32 0, .int .i64 0, .int .u32 0, .int .i64 0, .int .u64 0, .int .u32 0, .slice none 0 0, .slice none 0 0, .slice none 0 0] _ (by exact z00 HG3.out) Try.underlying27 rfl HBI.out ?_)); refine hK.out _ _ ?_ (fun hHeld => ?_); (focus (exact trivial)); clear hK K; (try simp only [PT]); refine wpAnyH_ready (rs := [6]) (by kernel_rfl) (by simp) ?_; refine (AllReadyH.cons (o := ⟨some 47, _, _, _, _, _⟩) rfl (fun K hK => ?_) AllReadyH.nil); (focus (go_simp; (refine (z12 _ (6 - 4) _ _ big _ (HP6.out _ (HS.out.below (HB.out.trans (Below.mono bup HB.out.size))))).mono ?_); intro e w5 hr; rw [← HV4.out] at hr; obtain ⟨rfl, hw__⟩ := hr; subst hw__; go_wp2_with fail)); refine hK.out _ _ ?_ (fun hHeld => ?_); (focus (exact trivial)); clear hK K; (try simp only [PT]); (refine' tk 7 (oi := ⟨some 48, _, _, _, _, _⟩) (v := (.bool false)) rfl (by kernel_rfl) (.inl ⟨by rfl, ?_⟩) hHeld ?_; focus (intro w hSw; (try dsimp only at hSw); go_simp; first | done | rfl | (simp [*]; done) | (simp [*]; omega))); simp only [PT]; refine wpAnyH_ready (rs := [8]) (by kernel_rfl) (by simp) ?_; refine (AllReadyH.cons (o := ⟨none, _, _, _, _, _⟩) rfl (fun K hK => ?_) AllReadyH.nil); ((refine z0j rfl 27 (.tmp 6) (.tmp 41) rfl g6 #[.int .i64 1, .bool big, .int .u32 0, .int .i64 0, .int .u32 0, .int .i64 0, .int .u64 0, .int .u32 0, .slice none 0 0, .slice none 0 0, .slice none 0 0] rfl rfl HG6.out HBI.out rfl (all1 _ rfl) ?_); intro w9 hs__ hr__; replace HB := cg HB bup hr__ (by omega); replace HG3 := cg HG3 bup hr__ (by omega); clear HG6; have HG6 := Hd hs__; clear hs__ hr__); refine hK.out _ _ ?_ (fun hHeld => ?_); (focus (exact trivial)); clear hK K; (try simp only [PT]); (refine tk 9 (oi := ⟨some 7, _, _, _, _, _⟩) (v := ?_) rfl (by kernel_rfl) (.inl ⟨by rfl, ?_⟩) hHeld ?_; rotate_left; focus (intro w hSw; (try dsimp only at hSw); go_simp; try with_reducible rfl)); simp only [PT]; (refine tk 10 (oi := ⟨some 8, _, _, _, _, _⟩) (v := ?_) rfl (by kernel_rfl) (.inl ⟨by rfl, ?_⟩) hHeld ?_; rotate_left; focus (intro w hSw; (try dsimp only at hSw); go_simp; try with_reducible rfl)); simp only [PT]; refine wpAnyH_done (by kernel_rfl) ?_ _; rotate_left; (focus (go_simp; (refine (z12 _ (6 - 4) _ _ big _ (HP6.out _ (HS.out.below (HB.out.trans (Below.mono bup HB.out.size))))).mono ?_); intro e w5 hr; rw [← HV4.out] at hr; obtain ⟨rfl, hw__⟩ := hr; subst hw__; go_wp2_with fail))
  refine hK.out _ _ ?_ (fun hHeld => ?_); (focus (exact trivial)); clear hK K; (try simp only [PT]); (refine' tk 7 (oi := ⟨some 48, _, _, _, _, _⟩) (v := (.bool false)) rfl (by kernel_rfl) (.inl ⟨by rfl, ?_⟩) hHeld ?_; focus (intro w hSw; (try dsimp only at hSw); go_simp; first | done | rfl | (simp [*]; done) | (simp [*]; omega))); simp only [PT]; refine wpAnyH_ready (rs := [0]) (by kernel_rfl) (by simp) ?_; refine (AllReadyH.cons (o := ⟨some 41, _, _, _, _, _⟩) rfl (fun K hK => ?_) AllReadyH.nil); ((refine z1m rfl 27 (.tmp 3) rfl g3 0 rfl [.int .i64 1, .bool big, .int .u32 0, .int .i64 0, .int .u32 0, .int .i64 0, .int .u64 0, .int .u32 0, .slice none 0 0, .slice none 0 0, .slice none 0 0] _ (by exact z00 HG3.out) Try.underlying27 rfl HBI.out ?_)); refine hK.out _ _ ?_ (fun hHeld => ?_); (focus (exact trivial)); clear hK K; (try simp only [PT]); refine wpAnyH_ready (rs := [8]) (by kernel_rfl) (by simp) ?_; refine (AllReadyH.cons (o := ⟨none, _, _, _, _, _⟩) rfl (fun K hK => ?_) AllReadyH.nil); ((refine z0j rfl 27 (.tmp 6) (.tmp 41) rfl g6 #[.int .i64 1, .bool big, .int .u32 0, .int .i64 0, .int .u32 0, .int .i64 0, .int .u64 0, .int .u32 0, .slice none 0 0, .slice none 0 0, .slice none 0 0] rfl rfl HG6.out HBI.out rfl (all1 _ rfl) ?_); intro w9 hs__ hr__; replace HB := cg HB bup hr__ (by omega); replace HG3 := cg HG3 bup hr__ (by omega); clear HG6; have HG6 := Hd hs__; clear hs__ hr__); refine hK.out _ _ ?_ (fun hHeld => ?_); (focus (exact trivial)); clear hK K; (try simp only [PT]); (refine tk 9 (oi := ⟨some 7, _, _, _, _, _⟩) (v := ?_) rfl (by kernel_rfl) (.inl ⟨by rfl, ?_⟩) hHeld ?_; rotate_left; focus (intro w hSw; (try dsimp only at hSw); go_simp; try with_reducible rfl)); simp only [PT]; (refine tk 10 (oi := ⟨some 8, _, _, _, _, _⟩) (v := ?_) rfl (by kernel_rfl) (.inl ⟨by rfl, ?_⟩) hHeld ?_; rotate_left; focus (intro w hSw; (try dsimp only at hSw); go_simp; try with_reducible rfl)); simp only [PT]; refine wpAnyH_done (by kernel_rfl) ?_ _; rotate_left
  all_goals
    go_wp2_with fail
    (try simp only [Exit.inBlock, Exit.then, Exit.noGoto_ret])
    refine z04 (cs := [.int .i64 1, .bool big, .int .u32 0, .int .i64 0, .int .u32 0, .int .i64 0, .int .u64 0, .int .u32 0, .slice none 0 0, .slice none 0 0, .slice none 0 0]) rfl rfl (z00 HG6.out) Try.underlying27 rfl HBI.out rfl ?_
    exact ⟨⟨1, big, 0, 0, 0, 0, 0, 0, none, 0, 0, [], none, 0, 0, [], none, 0, 0, []⟩, _, _, _, false, rfl, by rw [HO.out]; rfl, fun x r h => absurd (HO.out.symm.trans h) (by simp), HB.out⟩
theorem refOpen2_short (ad : Option Addr) (n c : Nat) (l : List UInt8) (big : Bool) (w : World) (hs : Bs w ad n c l) (hn : n ≤ 1048576) (h : n < 8) :
    Calls Try.prog 62 #[.agg #[.int .i64 2, .bool false, .int .u32 0, .int .i64 0, .int .u32 0, .int .i64 0, .int .u64 0, .int .u32 0, .slice none 0 0, .slice none 0 0, .slice none 0 0], .slice ad n c, .bool big] w (OpenR ad n c l (openP 2 0 l big) w) := by
  have HB := Hd (Below.refl w.heap.size w)
  have HS := Hd hs
  have HBI := Hd z0d
  have hc := hs.le
  have HN := Hd hs.len
  clear hs
  have hi : (n : Int) < 8 := by omega
  have HO := Hd (show openP 2 0 l big = none from by have := HN.out; unfold openP; simp [show l.length < 8 by omega])
  clear h
  go_enter Try.func62, Try.ntmps62
  go_wp2_with (first
 | ((with_reducible refine sl 3 ?_); (refine z0a rfl 27 (.tmp 0) rfl #[.int .i64 2, .bool false, .int .u32 0, .int .i64 0, .int .u32 0, .int .i64 0, .int .u64 0, .int .u32 0, .slice none 0 0, .slice none 0 0, .slice none 0 0] rfl ?_); intro w1 g3 he__ le_g3 lt_g3 hg__ hb__; have HG3 := Hd hg__; have hE__ := cU HB bup hb__; replace HB := ck HB hE__; clear hE__; clear hg__ hb__ he__; simp only [PT])
 | ((with_reducible refine sl 6 ?_); (refine z09 rfl 27 rfl (.agg #[.int .i64 0, .bool false, .int .u32 0, .int .i64 0, .int .u32 0, .int .i64 0, .int .u64 0, .int .u32 0, .slice none 0 0, .slice none 0 0, .slice none 0 0]) #[.int .i64 0, .bool false, .int .u32 0, .int .i64 0, .int .u32 0, .int .i64 0, .int .u64 0, .int .u32 0, .slice none 0 0, .slice none 0 0, .slice none 0 0] 11 (by kernel_rfl) rfl ?_); intro w2 g6 he__ le_g6 lt_g6 hg__ hb__; have HG6 := Hd hg__; have hE__ := cU HB bup hb__; replace HB := ck HB hE__; replace HG3 := ck HG3 hE__; clear hE__; clear hg__ hb__ he__; simp only [PT])
 | ((with_reducible refine sl 25 ?_); (refine z1q rfl 101 3 8 _ rfl .i64 [0, 16, 8, 20, 4, 0, 12, 0] Try.underlying101 (by kernel_rfl) (by kernel_rfl) rfl (by decide) (by decide) (by rfl) ?_); intro w3 gL le_gL hg__ hb__; have HGL := Hd hg__; have hE__ := cU HB bup hb__; replace HB := ck HB hE__; replace HG3 := ck HG3 hE__; replace HG6 := ck HG6 hE__; clear hE__; clear hg__ hb__; simp only [PT])
 | ((with_reducible refine sl 27 ?_); (refine z01 rfl 3 (.tmp 26) rfl g3 0 rfl (.int .i64 2) HG3.out rfl Try.underlying3 rfl ?_); simp only [PT])
 | ((with_reducible refine sl 29 ?_); (refine z01 rfl 3 (.tmp 28) rfl gL 2 rfl (.int .i64 8) HGL.out rfl Try.underlying3 rfl ?_); simp only [PT])
 | ((with_reducible refine sl 36 ?_); (refine z01 rfl 3 (.tmp 35) rfl g3 0 rfl (.int .i64 2) HG3.out rfl Try.underlying3 rfl ?_); simp only [PT])
 | ((with_reducible refine sl 83 ?_); (refine z01 rfl 3 (.tmp 82) rfl g3 0 rfl (.int .i64 2) HG3.out rfl Try.underlying3 rfl ?_); simp only [PT])
 | ((with_reducible refine sl 34 ?_); (refine z05 rfl 27 (.tmp 3) rfl g3 0 rfl [.int .i64 2, .bool false, .int .u32 0, .int .i64 0, .int .u32 0, .int .i64 0, .int .u64 0, .int .u32 0, .slice none 0 0, .slice none 0 0, .slice none 0 0] _ (z00 HG3.out) Try.underlying27 rfl HBI.out ?_); simp only [PT])
 | ((with_reducible show wpList _ _ _ (⟨none, .store _ (.tmp 6) (.tmp 34), _, _, _, _⟩ :: _) _ _); (refine z02 rfl 27 (.tmp 6) (.tmp 34) rfl g6 #[.int .i64 2, .bool false, .int .u32 0, .int .i64 0, .int .u32 0, .int .i64 0, .int .u64 0, .int .u32 0, .slice none 0 0, .slice none 0 0, .slice none 0 0] rfl rfl HG6.out HBI.out rfl (all1 _ rfl) ?_); intro w9 hs__ hr__; replace HB := cg HB bup hr__ (by omega); replace HG3 := cg HG3 bup hr__ (by omega); clear HG6; have HG6 := Hd hs__; clear hs__ hr__; simp only [PT]))
  all_goals
    (try simp only [Exit.inBlock, Exit.then, Exit.noGoto_ret])
    refine z04 (cs := [.int .i64 2, .bool false, .int .u32 0, .int .i64 0, .int .u32 0, .int .i64 0, .int .u64 0, .int .u32 0, .slice none 0 0, .slice none 0 0, .slice none 0 0]) rfl rfl (z00 HG6.out) Try.underlying27 rfl HBI.out rfl ?_
    exact ⟨⟨2, false, 0, 0, 0, 0, 0, 0, none, 0, 0, [], none, 0, 0, [], none, 0, 0, []⟩, none, 0, 0, false, rfl, by rw [HO.out]; rfl, fun x r h => absurd (HO.out.symm.trans h) (by simp), HB.out⟩
theorem refOpen2_ok (ad : Option Addr) (n c : Nat) (l : List UInt8) (big : Bool) (w : World) (hs : Bs w ad n c l) (hn : n ≤ 1048576) (h : 8 ≤ n) :
    Calls Try.prog 62 #[.agg #[.int .i64 2, .bool false, .int .u32 0, .int .i64 0, .int .u32 0, .int .i64 0, .int .u64 0, .int .u32 0, .slice none 0 0, .slice none 0 0, .slice none 0 0], .slice ad n c, .bool big] w (OpenR ad n c l (openP 2 0 l big) w) := by
  have HB := Hd (Below.refl w.heap.size w)
  have HS := Hd hs
  have HBI := Hd z0d
  have hc := hs.le
  have HN := Hd hs.len
  clear hs
  have hi : ¬ (n : Int) < 8 := by omega
  obtain ⟨L0, hL0⟩ : ∃ x, x = getN ((l.drop 0).take 2) big := ⟨_, rfl⟩
  have bL0 : L0 < 65536 := by rw [hL0]; exact w2_lt big l 0
  have HL0 := Hd hL0
  clear hL0
  obtain ⟨S4, hS4⟩ : ∃ x, x = getN ((l.drop 4).take 4) big := ⟨_, rfl⟩
  have bS4 : S4 < 4294967296 := by rw [hS4]; exact w4_lt big l 4
  have HS4 := Hd hS4
  clear hS4
  have e1 : IntKind.i64.wrap (L0 : Int) = (L0 : Int) := by rw [IntKind.wrap_i64]; omega
  have e2 : IntKind.u32.wrap (S4 : Int) = (S4 : Int) := by rw [IntKind.wrap_u32]; omega
  have HO : Hid (openP 2 0 l big = some ({ noneB with kind := 2, link := (L0 : Int), snap := S4 }, l.drop 8)) := Hd (by rw [HL0.out, HS4.out]; have := HN.out; unfold openP; rw [if_neg (by decide), if_pos rfl, if_neg (by omega)]; rfl)
  have HP8 : Hid (∀ w0, Bs w0 ad n c l → Bs w0 (subAd ad c 8 1) (n - 8) (c - 8) (l.drop 8)) := Hd (fun w0 h0 => Bs.drop8 h0 8 (by omega))
  clear HN
  go_enter Try.func62, Try.ntmps62
  go_wp2_with (first
 | ((with_reducible refine sl 3 ?_); (refine z0a rfl 27 (.tmp 0) rfl #[.int .i64 2, .bool false, .int .u32 0, .int .i64 0, .int .u32 0, .int .i64 0, .int .u64 0, .int .u32 0, .slice none 0 0, .slice none 0 0, .slice none 0 0] rfl ?_); intro w1 g3 he__ le_g3 lt_g3 hg__ hb__; have HG3 := Hd hg__; have hE__ := cU HB bup hb__; replace HB := ck HB hE__; clear hE__; clear hg__ hb__ he__; simp only [PT])
 | ((with_reducible refine sl 6 ?_); (refine z09 rfl 27 rfl (.agg #[.int .i64 0, .bool false, .int .u32 0, .int .i64 0, .int .u32 0, .int .i64 0, .int .u64 0, .int .u32 0, .slice none 0 0, .slice none 0 0, .slice none 0 0]) #[.int .i64 0, .bool false, .int .u32 0, .int .i64 0, .int .u32 0, .int .i64 0, .int .u64 0, .int .u32 0, .slice none 0 0, .slice none 0 0, .slice none 0 0] 11 (by kernel_rfl) rfl ?_); intro w2 g6 he__ le_g6 lt_g6 hg__ hb__; have HG6 := Hd hg__; have hE__ := cU HB bup hb__; replace HB := ck HB hE__; replace HG3 := ck HG3 hE__; clear hE__; clear hg__ hb__ he__; simp only [PT])
 | ((with_reducible refine sl 25 ?_); (refine z1q rfl 101 3 8 _ rfl .i64 [0, 16, 8, 20, 4, 0, 12, 0] Try.underlying101 (by kernel_rfl) (by kernel_rfl) rfl (by decide) (by decide) (by rfl) ?_); intro w3 gL le_gL hg__ hb__; have HGL := Hd hg__; have hE__ := cU HB bup hb__; replace HB := ck HB hE__; replace HG3 := ck HG3 hE__; replace HG6 := ck HG6 hE__; clear hE__; clear hg__ hb__; simp only [PT])
 | ((with_reducible refine sl 27 ?_); (refine z01 rfl 3 (.tmp 26) rfl g3 0 rfl (.int .i64 2) HG3.out rfl Try.underlying3 rfl ?_); simp only [PT])
 | ((with_reducible refine sl 29 ?_); (refine z01 rfl 3 (.tmp 28) rfl gL 2 rfl (.int .i64 8) HGL.out rfl Try.underlying3 rfl ?_); simp only [PT])
 | ((with_reducible refine sl 36 ?_); (refine z01 rfl 3 (.tmp 35) rfl g3 0 rfl (.int .i64 2) HG3.out rfl Try.underlying3 rfl ?_); simp only [PT])
 | ((with_reducible refine sl 83 ?_); (refine z01 rfl 3 (.tmp 82) rfl g3 0 rfl (.int .i64 2) HG3.out rfl Try.underlying3 rfl ?_); simp only [PT])
 | ((with_reducible refine sl 52 ?_); (refine z0b elB rfl (.tmp 51) (some (.const (.int .i64 0))) (some (.const (.int .i64 2))) rfl rfl 0 2 (.inr ⟨.i64, rfl⟩) (.inr ⟨.i64, rfl⟩) (by omega) (by omega) 2 c rfl rfl ?_); intro ad52 had; have HA52 := Hd (show ∀ w0, Bs w0 ad n c l → Bs w0 ad52 2 c ((l.drop 0).take 2) from fun w0 h0 => Bs.partG h0 0 2 2 c (by omega) (by omega) rfl rfl ad52 had ((l.drop 0).take 2) rfl); clear had; simp only [PT])
 | (go_at_call 61; (refine (z12 ad52 2 c _ big _ (HA52.out _ (HS.out.below (HB.out.trans (Below.mono bup HB.out.size))))).mono ?_); intro e w4 hr; rw [← HL0.out] at hr; obtain ⟨rfl, hw__⟩ := hr; subst hw__)
 | ((with_reducible show wpList _ _ _ (⟨none, .store _ (.tmp 56) (.tmp 55), _, _, _, _⟩ :: _) _ _); (refine z0c rfl 3 (.tmp 56) (.tmp 55) rfl g3 3 (.int .i64 (L0 : Int)) rfl rfl rfl HG3.out (by simp) (by kernel_rfl) #[.int .i64 2, .bool false, .int .u32 0, .int .i64 (L0 : Int), .int .u32 0, .int .i64 0, .int .u64 0, .int .u32 0, .slice none 0 0, .slice none 0 0, .slice none 0 0] rfl ?_); intro w5 hs__ hr__; replace HB := cg HB bup hr__ (by omega); replace HG6 := cg HG6 bup hr__ (by omega); clear HG3; have HG3 := Hd hs__; clear hs__ hr__; simp only [PT])
 | (go_at_call 85; (with_reducible show Calls _ _ #[_, Value.int .i64 4, _] _ _); (refine (z1g ad n c l 4 big _ (HS.out.below (HB.out.trans (Below.mono bup HB.out.size))) (by omega) (by omega)).mono ?_); intro e w6 hr; rw [← HS4.out] at hr; obtain ⟨rfl, hw__⟩ := hr; subst hw__)
 | ((with_reducible show wpList _ _ _ (⟨none, .store _ (.tmp 61) (.tmp 60), _, _, _, _⟩ :: _) _ _); (refine z0c rfl 22 (.tmp 61) (.tmp 60) rfl g3 4 (.int .u32 (S4 : Int)) rfl rfl rfl HG3.out (by simp) (by kernel_rfl) #[.int .i64 2, .bool false, .int .u32 0, .int .i64 (L0 : Int), .int .u32 (S4 : Int), .int .i64 0, .int .u64 0, .int .u32 0, .slice none 0 0, .slice none 0 0, .slice none 0 0] rfl ?_); intro w7 hs__ hr__; replace HB := cg HB bup hr__ (by omega); replace HG6 := cg HG6 bup hr__ (by omega); clear HG3; have HG3 := Hd hs__; clear hs__ hr__; simp only [PT]))
  refine wp_region_held_drew (S := fun u => True) (by kernel_rfl) ?_ (fun hHeld => ?_); (focus (exact trivial)); (refine tk 1 (oi := ⟨some 63, _, _, _, _, _⟩) (v := ?_) rfl (by kernel_rfl) (.inl ⟨by rfl, ?_⟩) hHeld ?_; rotate_left; focus (intro w hSw; (try dsimp only at hSw); go_simp; try with_reducible rfl)); simp only [PT]; refine' tk 2 (oi := ⟨some 64, _, _, _, _, _⟩) (v := _) rfl (by kernel_rfl) (z14 elB rfl (.tmp 63) (some (.const (.int .i64 8))) none rfl rfl 8 n (.inr ⟨.i64, rfl⟩) (.inl ⟨rfl, rfl⟩) (by omega) (by omega)) hHeld ?_; simp only [PT]; refine wpAnyH_ready (rs := [0]) (by kernel_rfl) (by simp) ?_; refine (AllReadyH.cons (o := ⟨some 62, _, _, _, _, _⟩) rfl (fun K hK => ?_) AllReadyH.nil); ((refine z1m rfl 27 (.tmp 3) rfl g3 0 rfl [.int .i64 2, .bool false, .int .u32 0, .int .i64 (L0 : Int), .int .u32 (S4 : Int), .int .i64 0, .int .u64 0, .int .u32 0, .slice none 0 0, .slice none 0 0, .slice none 0 0] _ (by exact z00 HG3.out) Try.underlying27 rfl HBI.out ?_)); refine hK.out _ _ ?_ (fun hHeld => ?_); (focus (exact trivial)); clear hK K; (try simp only [PT]); refine wpAnyH_ready (rs := [3]) (by kernel_rfl) (by simp) ?_; refine (AllReadyH.cons (o := ⟨none, _, _, _, _, _⟩) rfl (fun K hK => ?_) AllReadyH.nil); ((refine z0j rfl 27 (.tmp 6) (.tmp 62) rfl g6 #[.int .i64 2, .bool false, .int .u32 0, .int .i64 (L0 : Int), .int .u32 (S4 : Int), .int .i64 0, .int .u64 0, .int .u32 0, .slice none 0 0, .slice none 0 0, .slice none 0 0] rfl rfl HG6.out HBI.out rfl (all1 _ rfl) ?_); intro w9 hs__ hr__; replace HB := cg HB bup hr__ (by omega); replace HG3 := cg HG3 bup hr__ (by omega); clear HG6; have HG6 := Hd hs__; clear hs__ hr__); refine hK.out _ _ ?_ (fun hHeld => ?_); (focus (exact trivial)); clear hK K; (try simp only [PT]); (refine tk 4 (oi := ⟨some 7, _, _, _, _, _⟩) (v := ?_) rfl (by kernel_rfl) (.inl ⟨by rfl, ?_⟩) hHeld ?_; rotate_left; focus (intro w hSw; (try dsimp only at hSw); go_simp; try with_reducible rfl)); simp only [PT]; (refine tk 5 (oi := ⟨some 8, _, _, _, _, _⟩) (v := ?_) rfl (by kernel_rfl) (.inl ⟨by rfl, ?_⟩) hHeld ?_; rotate_left; focus (intro w hSw; (try dsimp only at hSw); go_simp; try with_reducible rfl)); simp only [PT]; refine wpAnyH_done (by kernel_rfl) ?_ _
  all_goals
    go_wp2_with fail
    (try simp only [Exit.inBlock, Exit.then, Exit.noGoto_ret])
    refine z04 (cs := [.int .i64 2, .bool false, .int .u32 0, .int .i64 (L0 : Int), .int .u32 (S4 : Int), .int .i64 0, .int .u64 0, .int .u32 0, .slice none 0 0, .slice none 0 0, .slice none 0 0]) rfl rfl (z00 HG6.out) Try.underlying27 rfl HBI.out rfl ?_
    refine ⟨⟨2, false, 0, (L0 : Int), S4, 0, 0, 0, none, 0, 0, [], none, 0, 0, [], none, 0, 0, []⟩, _, _, _, true, rfl, by rw [HO.out]; rfl, fun x r h => ?_, HB.out⟩
    have hh := HO.out.symm.trans h
    simp only [Option.some.injEq, Prod.mk.injEq] at hh
    obtain ⟨rfl, rfl⟩ := hh
    refine ⟨rfl, HP8.out, z1i _ _ _ _, OwnOps.nil _ _ _, OwnOps.nil _ _ _⟩
theorem cut_short (ad : Option Addr) (n c : Nat) (k : Nat) (hk : n < k) (w : World) :
    Calls Try.prog 86 #[.slice ad n c, .int .i64 (k : Int)] w fun e w' => e = .returned (.tuple #[.slice none 0 0, .slice none 0 0, .bool false]) ∧ w = w' := by
  have h1 : ¬ (k : Int) < 0 := by omega
  have h2 : (n : Int) < (k : Int) := by omega
  have hb : (decide ((k : Int) < 0) || decide ((n : Int) < (k : Int))) = true := by simp [h2]
  go_enter Try.func86, Try.ntmps86
  go_wp2_with fail
  go_ret3
  exact ⟨rfl, rfl⟩
theorem cut_ok (ad : Option Addr) (n c : Nat) (l : List UInt8) (k : Nat) (hk : k ≤ n) (hn : n ≤ 1000000000) (D : List UInt8) (hD : l.take k = D) (w : World) (hs : Bs w ad n c l) :
    Calls Try.prog 86 #[.slice ad n c, .int .i64 (k : Int)] w fun e w' => ∃ adD cD, e = .returned (.tuple #[.slice adD D.length cD, .slice (subAd ad c k 1) (n - k) (c - k), .bool true]) ∧ w'.ownsRow w.heap.size 5 1 (.slice adD D.length cD) D.length (BV D) ∧ Below w.heap.size w w' := by
  have HS := Hd hs
  have hc := hs.le
  have hl := hs.len
  have hDl : D.length ≤ 1000000000 := by rw [← hD, List.length_take]; omega
  have HP := Hd (show ∀ w0, Bs w0 ad n c l → Bs w0 (subAd ad c 0 1) (k - 0) (c - 0) D from fun w0 h0 => by have := Bs.part h0 0 k (Nat.zero_le _) hk; rwa [List.drop_zero, Nat.sub_zero k, hD] at this)
  have h1 : ¬ (k : Int) < 0 := by omega
  have h2 : ¬ (n : Int) < (k : Int) := by omega
  have hb : (decide ((k : Int) < 0) || decide ((n : Int) < (k : Int))) = false := by simp [h1, h2]
  have HE := Hd (Below.refl w.heap.size w)
  clear hs hl hD
  go_enter Try.func86, Try.ntmps86
  go_wp2_with fail
  refine wp_region_held_drew (S := fun u => True) (by kernel_rfl) ?_ (fun hHeld => ?_); (focus (exact trivial)); (refine tk 1 (oi := ⟨some 16, _, _, _, _, _⟩) (v := ?_) rfl (by kernel_rfl) (.inl ⟨by rfl, ?_⟩) hHeld ?_; rotate_left; focus (intro w hSw; (try dsimp only at hSw); go_simp; try with_reducible rfl)); simp only [PT]; (refine tk 2 (oi := ⟨some 17, _, _, _, _, _⟩) (v := ?_) rfl (by kernel_rfl) (.inl ⟨by rfl, ?_⟩) hHeld ?_; rotate_left; focus (intro w hSw; (try dsimp only at hSw); go_simp; try with_reducible rfl)); simp only [PT]; refine' tk 3 (oi := ⟨some 18, _, _, _, _, _⟩) (v := _) rfl (by kernel_rfl) (z14 elB rfl (.tmp 16) none (some (.tmp 17)) rfl rfl 0 k (.inl ⟨rfl, rfl⟩) (.inr ⟨.i64, rfl⟩) (by omega) (by omega)) hHeld ?_; simp only [PT]; (refine tk 5 (oi := ⟨some 20, _, _, _, _, _⟩) (v := ?_) rfl (by kernel_rfl) (.inl ⟨by rfl, ?_⟩) hHeld ?_; rotate_left; focus (intro w hSw; (try dsimp only at hSw); go_simp; try with_reducible rfl)); simp only [PT]; (refine tk 6 (oi := ⟨some 21, _, _, _, _, _⟩) (v := ?_) rfl (by kernel_rfl) (.inl ⟨by rfl, ?_⟩) hHeld ?_; rotate_left; focus (intro w hSw; (try dsimp only at hSw); go_simp; try with_reducible rfl)); simp only [PT]; refine' tk 7 (oi := ⟨some 22, _, _, _, _, _⟩) (v := _) rfl (by kernel_rfl) (z14 elB rfl (.tmp 20) (some (.tmp 21)) none rfl rfl k n (.inr ⟨.i64, rfl⟩) (.inl ⟨rfl, rfl⟩) (by omega) (by omega)) hHeld ?_; simp only [PT]; refine wpAnyH_ready (rs := [0]) (by kernel_rfl) (by simp) ?_; refine (AllReadyH.cons (o := ⟨some 15, _, _, _, _, _⟩) rfl (fun K hK => ?_) AllReadyH.nil); ((refine step_lit0 rfl rfl ?_); intro w2 g2 ho__ hb__; replace HE := cE0 HE bup hb__; have HO := Hd (z0r (base' := w.heap.size) ho__ (bsz bup)); clear ho__ hb__); refine hK.out _ _ ?_ (fun hHeld => ?_); (focus (exact trivial)); clear hK K; (try simp only [PT]); refine wpAnyH_ready (rs := [4]) (by kernel_rfl) (by simp) ?_; refine (AllReadyH.cons (o := ⟨some 19, _, _, _, _, _⟩) rfl (fun K hK => ?_) AllReadyH.nil); ((refine step_appL elB rfl (.tmp 15) (.tmp 18) rfl w.heap.size rfl (z08 HO.out bup) rfl (HP.out _ (HS.out.below (HE.out.trans (Below.mono bup HE.out.size)))) D (List.nil_append D) (by omega) (Nat.le_trans HE.out.size (bsz bup)) ?_); intro adD cD w7 ho__ hb__; replace HE := cEb HE bup hb__; clear HO; have HO := Hd ho__; clear ho__ hb__); refine hK.out _ _ ?_ (fun hHeld => ?_); (focus (exact trivial)); clear hK K; (try simp only [PT]); (refine tk 8 (oi := ⟨some 4, _, _, _, _, _⟩) (v := ?_) rfl (by kernel_rfl) (.inl ⟨by rfl, ?_⟩) hHeld ?_; rotate_left; focus (intro w hSw; (try dsimp only at hSw); go_simp; try with_reducible rfl)); simp only [PT]; (refine tk 9 (oi := ⟨some 5, _, _, _, _, _⟩) (v := ?_) rfl (by kernel_rfl) (.inl ⟨by rfl, ?_⟩) hHeld ?_; rotate_left; focus (intro w hSw; (try dsimp only at hSw); go_simp; try with_reducible rfl)); simp only [PT]; (refine tk 10 (oi := ⟨some 6, _, _, _, _, _⟩) (v := ?_) rfl (by kernel_rfl) (.inl ⟨by rfl, ?_⟩) hHeld ?_; rotate_left; focus (intro w hSw; (try dsimp only at hSw); go_simp; try with_reducible rfl)); simp only [PT]; refine wpAnyH_done (by kernel_rfl) ?_ _
  all_goals
    go_wp2_with fail
    go_ret3
    exact ⟨adD, cD, rfl, HO.out, HE.out⟩
theorem refOpen3_short (ad : Option Addr) (n c : Nat) (l : List UInt8) (big : Bool) (w : World) (hs : Bs w ad n c l) (hn : n ≤ 1048576) (h : n < 20) :
    Calls Try.prog 62 #[.agg #[.int .i64 3, .bool false, .int .u32 0, .int .i64 0, .int .u32 0, .int .i64 0, .int .u64 0, .int .u32 0, .slice none 0 0, .slice none 0 0, .slice none 0 0], .slice ad n c, .bool big] w (OpenR ad n c l (openP 3 0 l big) w) := by
  have HB := Hd (Below.refl w.heap.size w)
  have HS := Hd hs
  have HBI := Hd z0d
  have hc := hs.le
  have HN := Hd hs.len
  clear hs
  have hi : (n : Int) < 20 := by omega
  have HO := Hd (show openP 3 0 l big = none from by have := HN.out; unfold openP; simp [show l.length < 20 by omega])
  clear h
  go_enter Try.func62, Try.ntmps62
  go_wp2_with (first
 | ((with_reducible refine sl 3 ?_); (refine z0a rfl 27 (.tmp 0) rfl #[.int .i64 3, .bool false, .int .u32 0, .int .i64 0, .int .u32 0, .int .i64 0, .int .u64 0, .int .u32 0, .slice none 0 0, .slice none 0 0, .slice none 0 0] rfl ?_); intro w1 g3 he__ le_g3 lt_g3 hg__ hb__; have HG3 := Hd hg__; have hE__ := cU HB bup hb__; replace HB := ck HB hE__; clear hE__; clear hg__ hb__ he__; simp only [PT])
 | ((with_reducible refine sl 6 ?_); (refine z09 rfl 27 rfl (.agg #[.int .i64 0, .bool false, .int .u32 0, .int .i64 0, .int .u32 0, .int .i64 0, .int .u64 0, .int .u32 0, .slice none 0 0, .slice none 0 0, .slice none 0 0]) #[.int .i64 0, .bool false, .int .u32 0, .int .i64 0, .int .u32 0, .int .i64 0, .int .u64 0, .int .u32 0, .slice none 0 0, .slice none 0 0, .slice none 0 0] 11 (by kernel_rfl) rfl ?_); intro w2 g6 he__ le_g6 lt_g6 hg__ hb__; have HG6 := Hd hg__; have hE__ := cU HB bup hb__; replace HB := ck HB hE__; replace HG3 := ck HG3 hE__; clear hE__; clear hg__ hb__ he__; simp only [PT])
 | ((with_reducible refine sl 25 ?_); (refine z1q rfl 101 3 8 _ rfl .i64 [0, 16, 8, 20, 4, 0, 12, 0] Try.underlying101 (by kernel_rfl) (by kernel_rfl) rfl (by decide) (by decide) (by rfl) ?_); intro w3 gL le_gL hg__ hb__; have HGL := Hd hg__; have hE__ := cU HB bup hb__; replace HB := ck HB hE__; replace HG3 := ck HG3 hE__; replace HG6 := ck HG6 hE__; clear hE__; clear hg__ hb__; simp only [PT])
 | ((with_reducible refine sl 27 ?_); (refine z01 rfl 3 (.tmp 26) rfl g3 0 rfl (.int .i64 3) HG3.out rfl Try.underlying3 rfl ?_); simp only [PT])
 | ((with_reducible refine sl 29 ?_); (refine z01 rfl 3 (.tmp 28) rfl gL 3 rfl (.int .i64 20) HGL.out rfl Try.underlying3 rfl ?_); simp only [PT])
 | ((with_reducible refine sl 36 ?_); (refine z01 rfl 3 (.tmp 35) rfl g3 0 rfl (.int .i64 3) HG3.out rfl Try.underlying3 rfl ?_); simp only [PT])
 | ((with_reducible refine sl 83 ?_); (refine z01 rfl 3 (.tmp 82) rfl g3 0 rfl (.int .i64 3) HG3.out rfl Try.underlying3 rfl ?_); simp only [PT])
 | ((with_reducible refine sl 34 ?_); (refine z05 rfl 27 (.tmp 3) rfl g3 0 rfl [.int .i64 3, .bool false, .int .u32 0, .int .i64 0, .int .u32 0, .int .i64 0, .int .u64 0, .int .u32 0, .slice none 0 0, .slice none 0 0, .slice none 0 0] _ (z00 HG3.out) Try.underlying27 rfl HBI.out ?_); simp only [PT])
 | ((with_reducible show wpList _ _ _ (⟨none, .store _ (.tmp 6) (.tmp 34), _, _, _, _⟩ :: _) _ _); (refine z02 rfl 27 (.tmp 6) (.tmp 34) rfl g6 #[.int .i64 3, .bool false, .int .u32 0, .int .i64 0, .int .u32 0, .int .i64 0, .int .u64 0, .int .u32 0, .slice none 0 0, .slice none 0 0, .slice none 0 0] rfl rfl HG6.out HBI.out rfl (all1 _ rfl) ?_); intro w9 hs__ hr__; replace HB := cg HB bup hr__ (by omega); replace HG3 := cg HG3 bup hr__ (by omega); clear HG6; have HG6 := Hd hs__; clear hs__ hr__; simp only [PT]))
  all_goals
    (try simp only [Exit.inBlock, Exit.then, Exit.noGoto_ret])
    refine z04 (cs := [.int .i64 3, .bool false, .int .u32 0, .int .i64 0, .int .u32 0, .int .i64 0, .int .u64 0, .int .u32 0, .slice none 0 0, .slice none 0 0, .slice none 0 0]) rfl rfl (z00 HG6.out) Try.underlying27 rfl HBI.out rfl ?_
    exact ⟨⟨3, false, 0, 0, 0, 0, 0, 0, none, 0, 0, [], none, 0, 0, [], none, 0, 0, []⟩, none, 0, 0, false, rfl, by rw [HO.out]; rfl, fun x r h => absurd (HO.out.symm.trans h) (by simp), HB.out⟩
theorem refOpen3_a (ad : Option Addr) (n c : Nat) (l : List UInt8) (big : Bool) (w : World) (hs : Bs w ad n c l) (hn : n ≤ 1048576) (h : 20 ≤ n) (h2 : n - 20 < w4 big l 12) :
    Calls Try.prog 62 #[.agg #[.int .i64 3, .bool false, .int .u32 0, .int .i64 0, .int .u32 0, .int .i64 0, .int .u64 0, .int .u32 0, .slice none 0 0, .slice none 0 0, .slice none 0 0], .slice ad n c, .bool big] w (OpenR ad n c l (openP 3 0 l big) w) := by
  have HB := Hd (Below.refl w.heap.size w)
  have HS := Hd hs
  have HBI := Hd z0d
  have hc := hs.le
  have HN := Hd hs.len
  clear hs
  have hi : ¬ (n : Int) < 20 := by omega
  obtain ⟨V0, hV0⟩ : ∃ x, x = getN ((l.drop 0).take 4) big := ⟨_, rfl⟩
  have bV0 : V0 < 4294967296 := by rw [hV0]; exact w4_lt big l 0
  have HV0 := Hd hV0
  clear hV0
  obtain ⟨V4, hV4⟩ : ∃ x, x = getN ((l.drop 4).take 4) big := ⟨_, rfl⟩
  have bV4 : V4 < 4294967296 := by rw [hV4]; exact w4_lt big l 4
  have HV4 := Hd hV4
  clear hV4
  obtain ⟨V8, hV8⟩ : ∃ x, x = getN ((l.drop 8).take 4) big := ⟨_, rfl⟩
  have bV8 : V8 < 4294967296 := by rw [hV8]; exact w4_lt big l 8
  have HV8 := Hd hV8
  clear hV8
  obtain ⟨V12, hV12⟩ : ∃ x, x = getN ((l.drop 12).take 4) big := ⟨_, rfl⟩
  have bV12 : V12 < 4294967296 := by rw [hV12]; exact w4_lt big l 12
  have HV12 := Hd hV12
  clear hV12
  obtain ⟨V16, hV16⟩ : ∃ x, x = getN ((l.drop 16).take 4) big := ⟨_, rfl⟩
  have bV16 : V16 < 4294967296 := by rw [hV16]; exact w4_lt big l 16
  have HV16 := Hd hV16
  clear hV16
  have e0 : IntKind.i64.wrap (V0 : Int) = (V0 : Int) := by rw [IntKind.wrap_i64]; omega
  obtain ⟨T, hT⟩ : ∃ T, T = V4 * 4294967296 + V8 := ⟨_, rfl⟩
  have hT2 : T < 18446744073709551616 := by omega
  have ht1 : IntKind.u64.wrap ((V4 : Int) * 4294967296) = (V4 : Int) * 4294967296 := by rw [IntKind.wrap_u64]; omega
  have ht2 : (V4 : Int) * 4294967296 + (V8 : Int) = (T : Int) := by omega
  have ht3 : IntKind.u64.wrap ((V4 : Int) * 4294967296 + (V8 : Int)) = (T : Int) := by rw [IntKind.wrap_u64]; omega
  have ht4 : IntKind.u64.wrap (T : Int) = (T : Int) := by rw [IntKind.wrap_u64]; omega
  have HT := Hd hT
  clear hT
  have e1 : IntKind.i64.wrap (V12 : Int) = (V12 : Int) := by rw [IntKind.wrap_i64]; omega
  have e2 : IntKind.u32.wrap (V16 : Int) = (V16 : Int) := by rw [IntKind.wrap_u32]; omega
  obtain ⟨m, hm⟩ : ∃ m, m = n - 20 := ⟨_, rfl⟩
  obtain ⟨cc, hcc⟩ : ∃ m, m = c - 20 := ⟨_, rfl⟩
  obtain ⟨R, hR⟩ : ∃ R, R = l.drop 20 := ⟨_, rfl⟩
  have HM := Hd hm.symm
  have HCC := Hd hcc.symm
  have hm1 : m + 20 ≤ n := by omega
  have hm2 : n ≤ m + 20 := by omega
  have hm3 : m ≤ cc := by omega
  have hRl : R.length = m := by rw [hR, List.length_drop, ← HN.out, hm]
  have HRL := Hd hRl
  have HRR : Hid ((l.drop 20).take m = R) := Hd (by rw [← hR]; exact List.take_of_length_le (by omega))
  have HR := Hd hR
  clear hm hcc hR hRl
  obtain ⟨P, hP⟩ : ∃ P, P = padN V12 := ⟨_, rfl⟩
  obtain ⟨Q, hQ⟩ : ∃ Q, Q = V12 + P := ⟨_, rfl⟩
  have hQ1 : V12 ≤ Q := by omega
  have hQ2 : Q ≤ V12 + 3 := by rw [hQ, hP]; unfold padN; omega
  have hQ3 : Q % 4 = 0 := by rw [hQ, hP]; unfold padN; omega
  obtain ⟨D, hD⟩ : ∃ D, D = R.take V12 := ⟨_, rfl⟩
  have HDD := Hd hD.symm
  have h3 : n - 20 < V12 := by rw [HV12.out]; exact h2
  have HO : Hid (openP 3 0 l big = none) := Hd (by
    have := HN.out
    have f0 : w4 big l 0 = V0 := HV0.out.symm
    have f4 : w4 big l 4 = V4 := HV4.out.symm
    have f8 : w4 big l 8 = V8 := HV8.out.symm
    have f12 : w4 big l 12 = V12 := HV12.out.symm
    have f16 : w4 big l 16 = V16 := HV16.out.symm
    unfold openP
    simp only [f0, f4, f8, f12, f16, ← hP, ← hQ]
    rw [if_neg (by decide), if_neg (by decide), if_pos trivial, if_neg (by omega), if_pos (by omega)])
  clear HN hP hQ hD h2
  go_enter Try.func62, Try.ntmps62
  go_wp2_with (first
 | ((with_reducible refine sl 3 ?_); (refine z0a rfl 27 (.tmp 0) rfl #[.int .i64 3, .bool false, .int .u32 0, .int .i64 0, .int .u32 0, .int .i64 0, .int .u64 0, .int .u32 0, .slice none 0 0, .slice none 0 0, .slice none 0 0] rfl ?_); intro w1 g3 he__ le_g3 lt_g3 hg__ hb__; have HG3 := Hd hg__; have hE__ := cU HB bup hb__; replace HB := ck HB hE__; clear hE__; clear hg__ hb__ he__; simp only [PT])
 | ((with_reducible refine sl 6 ?_); (refine z09 rfl 27 rfl (.agg #[.int .i64 0, .bool false, .int .u32 0, .int .i64 0, .int .u32 0, .int .i64 0, .int .u64 0, .int .u32 0, .slice none 0 0, .slice none 0 0, .slice none 0 0]) #[.int .i64 0, .bool false, .int .u32 0, .int .i64 0, .int .u32 0, .int .i64 0, .int .u64 0, .int .u32 0, .slice none 0 0, .slice none 0 0, .slice none 0 0] 11 (by kernel_rfl) rfl ?_); intro w2 g6 he__ le_g6 lt_g6 hg__ hb__; have HG6 := Hd hg__; have hE__ := cU HB bup hb__; replace HB := ck HB hE__; replace HG3 := ck HG3 hE__; clear hE__; clear hg__ hb__ he__; simp only [PT])
 | ((with_reducible refine sl 25 ?_); (refine z1q rfl 101 3 8 _ rfl .i64 [0, 16, 8, 20, 4, 0, 12, 0] Try.underlying101 (by kernel_rfl) (by kernel_rfl) rfl (by decide) (by decide) (by rfl) ?_); intro w3 gL le_gL hg__ hb__; have HGL := Hd hg__; have hE__ := cU HB bup hb__; replace HB := ck HB hE__; replace HG3 := ck HG3 hE__; replace HG6 := ck HG6 hE__; clear hE__; clear hg__ hb__; simp only [PT])
 | ((with_reducible refine sl 27 ?_); (refine z01 rfl 3 (.tmp 26) rfl g3 0 rfl (.int .i64 3) HG3.out rfl Try.underlying3 rfl ?_); simp only [PT])
 | ((with_reducible refine sl 29 ?_); (refine z01 rfl 3 (.tmp 28) rfl gL 3 rfl (.int .i64 20) HGL.out rfl Try.underlying3 rfl ?_); simp only [PT])
 | ((with_reducible refine sl 36 ?_); (refine z01 rfl 3 (.tmp 35) rfl g3 0 rfl (.int .i64 3) HG3.out rfl Try.underlying3 rfl ?_); simp only [PT])
 | ((with_reducible refine sl 83 ?_); (refine z01 rfl 3 (.tmp 82) rfl g3 0 rfl (.int .i64 3) HG3.out rfl Try.underlying3 rfl ?_); simp only [PT])
 | (go_at_call 85; (with_reducible show Calls _ _ #[_, Value.int .i64 0, _] _ _); (refine (z1g ad n c l 0 big _ (HS.out.below (HB.out.trans (Below.mono bup HB.out.size))) (by omega) (by omega)).mono ?_); intro e w4 hr; rw [← HV0.out] at hr; obtain ⟨rfl, hw__⟩ := hr; subst hw__)
 | ((with_reducible show wpList _ _ _ (⟨none, .store _ (.tmp 72) (.tmp 71), _, _, _, _⟩ :: _) _ _); (refine z0c rfl 3 (.tmp 72) (.tmp 71) rfl g3 5 (.int .i64 (V0 : Int)) rfl rfl rfl HG3.out (by simp) (by kernel_rfl) #[.int .i64 3, .bool false, .int .u32 0, .int .i64 0, .int .u32 0, .int .i64 (V0 : Int), .int .u64 0, .int .u32 0, .slice none 0 0, .slice none 0 0, .slice none 0 0] rfl ?_); intro w5 hs__ hr__; replace HB := cg HB bup hr__ (by omega); replace HG6 := cg HG6 bup hr__ (by omega); clear HG3; have HG3 := Hd hs__; clear hs__ hr__; simp only [PT])
 | (go_at_call 85; (with_reducible show Calls _ _ #[_, Value.int .i64 4, _] _ _); (refine (z1g ad n c l 4 big _ (HS.out.below (HB.out.trans (Below.mono bup HB.out.size))) (by omega) (by omega)).mono ?_); intro e w6 hr; rw [← HV4.out] at hr; obtain ⟨rfl, hw__⟩ := hr; subst hw__)
 | (go_at_call 85; (with_reducible show Calls _ _ #[_, Value.int .i64 8, _] _ _); (refine (z1g ad n c l 8 big _ (HS.out.below (HB.out.trans (Below.mono bup HB.out.size))) (by omega) (by omega)).mono ?_); intro e w7 hr; rw [← HV8.out] at hr; obtain ⟨rfl, hw__⟩ := hr; subst hw__)
 | ((with_reducible show wpList _ _ _ (⟨none, .store _ (.tmp 81) (.tmp 80), _, _, _, _⟩ :: _) _ _); (refine z0c rfl 23 (.tmp 81) (.tmp 80) rfl g3 6 (.int .u64 ((T : Nat) : Int)) rfl rfl rfl HG3.out (by simp) (by kernel_rfl) #[.int .i64 3, .bool false, .int .u32 0, .int .i64 0, .int .u32 0, .int .i64 (V0 : Int), .int .u64 ((T : Nat) : Int), .int .u32 0, .slice none 0 0, .slice none 0 0, .slice none 0 0] rfl ?_); intro w8 hs__ hr__; replace HB := cg HB bup hr__ (by omega); replace HG6 := cg HG6 bup hr__ (by omega); clear HG3; have HG3 := Hd hs__; clear hs__ hr__; simp only [PT])
 | (go_at_call 85; (with_reducible show Calls _ _ #[_, Value.int .i64 16, _] _ _); (refine (z1g ad n c l 16 big _ (HS.out.below (HB.out.trans (Below.mono bup HB.out.size))) (by omega) (by omega)).mono ?_); intro e w9 hr; rw [← HV16.out] at hr; obtain ⟨rfl, hw__⟩ := hr; subst hw__)
 | ((with_reducible show wpList _ _ _ (⟨none, .store _ (.tmp 92) (.tmp 91), _, _, _, _⟩ :: _) _ _); (refine z0c rfl 22 (.tmp 92) (.tmp 91) rfl g3 7 (.int .u32 (V16 : Int)) rfl rfl rfl HG3.out (by simp) (by kernel_rfl) #[.int .i64 3, .bool false, .int .u32 0, .int .i64 0, .int .u32 0, .int .i64 (V0 : Int), .int .u64 ((T : Nat) : Int), .int .u32 (V16 : Int), .slice none 0 0, .slice none 0 0, .slice none 0 0] rfl ?_); intro w10 hs__ hr__; replace HB := cg HB bup hr__ (by omega); replace HG6 := cg HG6 bup hr__ (by omega); clear HG3; have HG3 := Hd hs__; clear hs__ hr__; simp only [PT])
 | (go_at_call 85; (with_reducible show Calls _ _ #[_, Value.int .i64 12, _] _ _); (refine (z1g ad n c l 12 big _ (HS.out.below (HB.out.trans (Below.mono bup HB.out.size))) (by omega) (by omega)).mono ?_); intro e w11 hr; rw [← HV12.out] at hr; obtain ⟨rfl, hw__⟩ := hr; subst hw__)
 | ((with_reducible refine sl 99 ?_); (refine z0b elB rfl (.tmp 98) (some (.const (.int .i64 20))) none rfl rfl 20 n (.inr ⟨.i64, rfl⟩) (.inl ⟨rfl, rfl⟩) (by omega) (by omega) m cc HM.out HCC.out ?_); intro ad99 had; have HA99 := Hd (show ∀ w0, Bs w0 ad n c l → Bs w0 ad99 m cc R from fun w0 h0 => Bs.partG h0 20 n m cc (by omega) (by omega) HM.out HCC.out ad99 had R HRR.out); clear had; simp only [PT])
 | (go_at_call 86; (with_reducible show Calls _ _ #[Value.slice ad99 _ _, Value.int .i64 (V12 : Int)] _ _); (refine (cut_short ad99 m cc V12 (by omega) _).mono ?_); intro e w12 hr; obtain ⟨rfl, hw__⟩ := hr; subst hw__))
  go_loopw [10] (fun i wr => ∃ x : Nat, V12 ≤ x ∧ x ≤ Q ∧ i = .int .i64 (x : Int) ∧ wr.heap[g3]? = some (.cells #[.int .i64 3, .bool false, .int .u32 0, .int .i64 0, .int .u32 0, .int .i64 (V0 : Int), .int .u64 ((T : Nat) : Int), .int .u32 (V16 : Int), .slice none 0 0, .slice none 0 0, .slice none 0 0] 27 (0, 0)) ∧ wr.heap[g6]? = some (.cells #[.int .i64 0, .bool false, .int .u32 0, .int .i64 0, .int .u32 0, .int .i64 0, .int .u64 0, .int .u32 0, .slice none 0 0, .slice none 0 0, .slice none 0 0] 27 (0, 0)) ∧ Below w.heap.size w wr) (fun i _ => Q + 4 - (intOf i).toNat)
  case atStart => exact ⟨V12, Nat.le_refl _, hQ1, rfl, HG3.out, HG6.out, HB.out⟩
  case round =>
    obtain ⟨x, hx1, hx2, rfl, hg3, hg6, hb⟩ := hrel
    clear HB HG3 HG6 
    have HB := Hd hb
    have HG3 := Hd hg3
    have HG6 := Hd hg6
    clear hb hg3 hg6 
    by_cases h4 : x % 4 = 0
    · obtain rfl : x = Q := by omega
      have h4i : (x : Int) % 4 = 0 := by omega
      go_wp2_with (first
 | ((with_reducible refine sl 112 ?_); (refine z0b elB rfl (.tmp 111) (some (.const (.int .i64 20))) none rfl rfl 20 n (.inr ⟨.i64, rfl⟩) (.inl ⟨rfl, rfl⟩) (by omega) (by omega) m cc HM.out HCC.out ?_); intro ad112 had; have HA112 := Hd (show ∀ w0, Bs w0 ad n c l → Bs w0 ad112 m cc R from fun w0 h0 => Bs.partG h0 20 n m cc (by omega) (by omega) HM.out HCC.out ad112 had R HRR.out); clear had; simp only [PT])
 | (go_at_call 86; (with_reducible show Calls _ _ #[Value.slice ad112 _ _, Value.int .i64 (x : Int)] _ _); (refine (cut_short ad112 m cc x (by omega) _).mono ?_); intro e w13 hr; obtain ⟨rfl, hw__⟩ := hr; subst hw__)
 | ((with_reducible show wpList _ _ _ (⟨none, .store _ (.tmp 119) (.tmp 118), _, _, _, _⟩ :: _) _ _); (refine z0c rfl 24 (.tmp 119) (.tmp 118) rfl g3 8 (.slice none 0 0) rfl rfl rfl HG3.out (by simp) (by kernel_rfl) #[.int .i64 3, .bool false, .int .u32 0, .int .i64 0, .int .u32 0, .int .i64 (V0 : Int), .int .u64 ((T : Nat) : Int), .int .u32 (V16 : Int), .slice none 0 0, .slice none 0 0, .slice none 0 0] rfl ?_); intro w14 hs__ hr__; replace HB := cg HB bup hr__ (by omega); replace HG6 := cg HG6 bup hr__ (by omega); clear HG3; have HG3 := Hd hs__; clear hs__ hr__; simp only [PT])
 | ((with_reducible refine sl 120 ?_); (refine z05 rfl 27 (.tmp 3) rfl g3 0 rfl [.int .i64 3, .bool false, .int .u32 0, .int .i64 0, .int .u32 0, .int .i64 (V0 : Int), .int .u64 ((T : Nat) : Int), .int .u32 (V16 : Int), .slice none 0 0, .slice none 0 0, .slice none 0 0] _ (z00 HG3.out) Try.underlying27 rfl HBI.out ?_); simp only [PT])
 | ((with_reducible show wpList _ _ _ (⟨none, .store _ (.tmp 6) (.tmp 120), _, _, _, _⟩ :: _) _ _); (refine z02 rfl 27 (.tmp 6) (.tmp 120) rfl g6 #[.int .i64 3, .bool false, .int .u32 0, .int .i64 0, .int .u32 0, .int .i64 (V0 : Int), .int .u64 ((T : Nat) : Int), .int .u32 (V16 : Int), .slice none 0 0, .slice none 0 0, .slice none 0 0] rfl rfl HG6.out HBI.out rfl (all1 _ rfl) ?_); intro w15 hs__ hr__; replace HB := cg HB bup hr__ (by omega); replace HG3 := cg HG3 bup hr__ (by omega); clear HG6; have HG6 := Hd hs__; clear hs__ hr__; simp only [PT]))
      (try simp only [Exit.inBlock, Exit.then, Exit.noGoto_ret])
      refine z04 (cs := [.int .i64 3, .bool false, .int .u32 0, .int .i64 0, .int .u32 0, .int .i64 (V0 : Int), .int .u64 ((T : Nat) : Int), .int .u32 (V16 : Int), .slice none 0 0, .slice none 0 0, .slice none 0 0]) rfl rfl (z00 HG6.out) Try.underlying27 rfl HBI.out rfl ?_
      exact ⟨⟨3, false, 0, 0, 0, (V0 : Int), T, V16, none, 0, 0, [], none, 0, 0, [], none, 0, 0, []⟩, none, 0, 0, false, rfl, by rw [HO.out]; rfl, fun x r h => absurd (HO.out.symm.trans h) (by simp), HB.out⟩
    · have h4i : ¬ (x : Int) % 4 = 0 := by omega
      go_wp2_with fail
      go_roundw
      case rel => exact ⟨x + 1, by omega, by omega, by go_num, HG3.out, HG6.out, HB.out⟩
      case measure => simp [intOf]; omega
theorem refOpen3_b (ad : Option Addr) (n c : Nat) (l : List UInt8) (big : Bool) (w : World) (hs : Bs w ad n c l) (hn : n ≤ 1048576) (h : 20 ≤ n) (h2 : ¬ n - 20 < w4 big l 12) (h4 : n - 20 < w4 big l 12 + padN (w4 big l 12)) :
    Calls Try.prog 62 #[.agg #[.int .i64 3, .bool false, .int .u32 0, .int .i64 0, .int .u32 0, .int .i64 0, .int .u64 0, .int .u32 0, .slice none 0 0, .slice none 0 0, .slice none 0 0], .slice ad n c, .bool big] w (OpenR ad n c l (openP 3 0 l big) w) := by
  have HB := Hd (Below.refl w.heap.size w)
  have HS := Hd hs
  have HBI := Hd z0d
  have hc := hs.le
  have HN := Hd hs.len
  clear hs
  have hi : ¬ (n : Int) < 20 := by omega
  obtain ⟨V0, hV0⟩ : ∃ x, x = getN ((l.drop 0).take 4) big := ⟨_, rfl⟩
  have bV0 : V0 < 4294967296 := by rw [hV0]; exact w4_lt big l 0
  have HV0 := Hd hV0
  clear hV0
  obtain ⟨V4, hV4⟩ : ∃ x, x = getN ((l.drop 4).take 4) big := ⟨_, rfl⟩
  have bV4 : V4 < 4294967296 := by rw [hV4]; exact w4_lt big l 4
  have HV4 := Hd hV4
  clear hV4
  obtain ⟨V8, hV8⟩ : ∃ x, x = getN ((l.drop 8).take 4) big := ⟨_, rfl⟩
  have bV8 : V8 < 4294967296 := by rw [hV8]; exact w4_lt big l 8
  have HV8 := Hd hV8
  clear hV8
  obtain ⟨V12, hV12⟩ : ∃ x, x = getN ((l.drop 12).take 4) big := ⟨_, rfl⟩
  have bV12 : V12 < 4294967296 := by rw [hV12]; exact w4_lt big l 12
  have HV12 := Hd hV12
  clear hV12
  obtain ⟨V16, hV16⟩ : ∃ x, x = getN ((l.drop 16).take 4) big := ⟨_, rfl⟩
  have bV16 : V16 < 4294967296 := by rw [hV16]; exact w4_lt big l 16
  have HV16 := Hd hV16
  clear hV16
  have e0 : IntKind.i64.wrap (V0 : Int) = (V0 : Int) := by rw [IntKind.wrap_i64]; omega
  obtain ⟨T, hT⟩ : ∃ T, T = V4 * 4294967296 + V8 := ⟨_, rfl⟩
  have hT2 : T < 18446744073709551616 := by omega
  have ht1 : IntKind.u64.wrap ((V4 : Int) * 4294967296) = (V4 : Int) * 4294967296 := by rw [IntKind.wrap_u64]; omega
  have ht2 : (V4 : Int) * 4294967296 + (V8 : Int) = (T : Int) := by omega
  have ht3 : IntKind.u64.wrap ((V4 : Int) * 4294967296 + (V8 : Int)) = (T : Int) := by rw [IntKind.wrap_u64]; omega
  have ht4 : IntKind.u64.wrap (T : Int) = (T : Int) := by rw [IntKind.wrap_u64]; omega
  have HT := Hd hT
  clear hT
  have e1 : IntKind.i64.wrap (V12 : Int) = (V12 : Int) := by rw [IntKind.wrap_i64]; omega
  have e2 : IntKind.u32.wrap (V16 : Int) = (V16 : Int) := by rw [IntKind.wrap_u32]; omega
  obtain ⟨m, hm⟩ : ∃ m, m = n - 20 := ⟨_, rfl⟩
  obtain ⟨cc, hcc⟩ : ∃ m, m = c - 20 := ⟨_, rfl⟩
  obtain ⟨R, hR⟩ : ∃ R, R = l.drop 20 := ⟨_, rfl⟩
  have HM := Hd hm.symm
  have HCC := Hd hcc.symm
  have hm1 : m + 20 ≤ n := by omega
  have hm2 : n ≤ m + 20 := by omega
  have hm3 : m ≤ cc := by omega
  have hRl : R.length = m := by rw [hR, List.length_drop, ← HN.out, hm]
  have HRL := Hd hRl
  have HRR : Hid ((l.drop 20).take m = R) := Hd (by rw [← hR]; exact List.take_of_length_le (by omega))
  have HR := Hd hR
  clear hm hcc hR hRl
  obtain ⟨P, hP⟩ : ∃ P, P = padN V12 := ⟨_, rfl⟩
  obtain ⟨Q, hQ⟩ : ∃ Q, Q = V12 + P := ⟨_, rfl⟩
  have hQ1 : V12 ≤ Q := by omega
  have hQ2 : Q ≤ V12 + 3 := by rw [hQ, hP]; unfold padN; omega
  have hQ3 : Q % 4 = 0 := by rw [hQ, hP]; unfold padN; omega
  obtain ⟨D, hD⟩ : ∃ D, D = R.take V12 := ⟨_, rfl⟩
  have HDD := Hd hD.symm
  have h3 : ¬ n - 20 < V12 := by rw [HV12.out]; exact h2
  have h5 : n - 20 < Q := by rw [hQ, hP, HV12.out]; exact h4
  have HO : Hid (openP 3 0 l big = none) := Hd (by
    have := HN.out
    have f0 : w4 big l 0 = V0 := HV0.out.symm
    have f4 : w4 big l 4 = V4 := HV4.out.symm
    have f8 : w4 big l 8 = V8 := HV8.out.symm
    have f12 : w4 big l 12 = V12 := HV12.out.symm
    have f16 : w4 big l 16 = V16 := HV16.out.symm
    unfold openP
    simp only [f0, f4, f8, f12, f16, ← hP, ← hQ]
    rw [if_neg (by decide), if_neg (by decide), if_pos trivial, if_neg (by omega), if_pos (by omega)])
  clear HN hP hQ hD h2 h4
  go_enter Try.func62, Try.ntmps62
  go_wp2_with (first
 | ((with_reducible refine sl 3 ?_); (refine z0a rfl 27 (.tmp 0) rfl #[.int .i64 3, .bool false, .int .u32 0, .int .i64 0, .int .u32 0, .int .i64 0, .int .u64 0, .int .u32 0, .slice none 0 0, .slice none 0 0, .slice none 0 0] rfl ?_); intro w1 g3 he__ le_g3 lt_g3 hg__ hb__; have HG3 := Hd hg__; have hE__ := cU HB bup hb__; replace HB := ck HB hE__; clear hE__; clear hg__ hb__ he__; simp only [PT])
 | ((with_reducible refine sl 6 ?_); (refine z09 rfl 27 rfl (.agg #[.int .i64 0, .bool false, .int .u32 0, .int .i64 0, .int .u32 0, .int .i64 0, .int .u64 0, .int .u32 0, .slice none 0 0, .slice none 0 0, .slice none 0 0]) #[.int .i64 0, .bool false, .int .u32 0, .int .i64 0, .int .u32 0, .int .i64 0, .int .u64 0, .int .u32 0, .slice none 0 0, .slice none 0 0, .slice none 0 0] 11 (by kernel_rfl) rfl ?_); intro w2 g6 he__ le_g6 lt_g6 hg__ hb__; have HG6 := Hd hg__; have hE__ := cU HB bup hb__; replace HB := ck HB hE__; replace HG3 := ck HG3 hE__; clear hE__; clear hg__ hb__ he__; simp only [PT])
 | ((with_reducible refine sl 25 ?_); (refine z1q rfl 101 3 8 _ rfl .i64 [0, 16, 8, 20, 4, 0, 12, 0] Try.underlying101 (by kernel_rfl) (by kernel_rfl) rfl (by decide) (by decide) (by rfl) ?_); intro w3 gL le_gL hg__ hb__; have HGL := Hd hg__; have hE__ := cU HB bup hb__; replace HB := ck HB hE__; replace HG3 := ck HG3 hE__; replace HG6 := ck HG6 hE__; clear hE__; clear hg__ hb__; simp only [PT])
 | ((with_reducible refine sl 27 ?_); (refine z01 rfl 3 (.tmp 26) rfl g3 0 rfl (.int .i64 3) HG3.out rfl Try.underlying3 rfl ?_); simp only [PT])
 | ((with_reducible refine sl 29 ?_); (refine z01 rfl 3 (.tmp 28) rfl gL 3 rfl (.int .i64 20) HGL.out rfl Try.underlying3 rfl ?_); simp only [PT])
 | ((with_reducible refine sl 36 ?_); (refine z01 rfl 3 (.tmp 35) rfl g3 0 rfl (.int .i64 3) HG3.out rfl Try.underlying3 rfl ?_); simp only [PT])
 | ((with_reducible refine sl 83 ?_); (refine z01 rfl 3 (.tmp 82) rfl g3 0 rfl (.int .i64 3) HG3.out rfl Try.underlying3 rfl ?_); simp only [PT])
 | (go_at_call 85; (with_reducible show Calls _ _ #[_, Value.int .i64 0, _] _ _); (refine (z1g ad n c l 0 big _ (HS.out.below (HB.out.trans (Below.mono bup HB.out.size))) (by omega) (by omega)).mono ?_); intro e w4 hr; rw [← HV0.out] at hr; obtain ⟨rfl, hw__⟩ := hr; subst hw__)
 | ((with_reducible show wpList _ _ _ (⟨none, .store _ (.tmp 72) (.tmp 71), _, _, _, _⟩ :: _) _ _); (refine z0c rfl 3 (.tmp 72) (.tmp 71) rfl g3 5 (.int .i64 (V0 : Int)) rfl rfl rfl HG3.out (by simp) (by kernel_rfl) #[.int .i64 3, .bool false, .int .u32 0, .int .i64 0, .int .u32 0, .int .i64 (V0 : Int), .int .u64 0, .int .u32 0, .slice none 0 0, .slice none 0 0, .slice none 0 0] rfl ?_); intro w5 hs__ hr__; replace HB := cg HB bup hr__ (by omega); replace HG6 := cg HG6 bup hr__ (by omega); clear HG3; have HG3 := Hd hs__; clear hs__ hr__; simp only [PT])
 | (go_at_call 85; (with_reducible show Calls _ _ #[_, Value.int .i64 4, _] _ _); (refine (z1g ad n c l 4 big _ (HS.out.below (HB.out.trans (Below.mono bup HB.out.size))) (by omega) (by omega)).mono ?_); intro e w6 hr; rw [← HV4.out] at hr; obtain ⟨rfl, hw__⟩ := hr; subst hw__)
 | (go_at_call 85; (with_reducible show Calls _ _ #[_, Value.int .i64 8, _] _ _); (refine (z1g ad n c l 8 big _ (HS.out.below (HB.out.trans (Below.mono bup HB.out.size))) (by omega) (by omega)).mono ?_); intro e w7 hr; rw [← HV8.out] at hr; obtain ⟨rfl, hw__⟩ := hr; subst hw__)
 | ((with_reducible show wpList _ _ _ (⟨none, .store _ (.tmp 81) (.tmp 80), _, _, _, _⟩ :: _) _ _); (refine z0c rfl 23 (.tmp 81) (.tmp 80) rfl g3 6 (.int .u64 ((T : Nat) : Int)) rfl rfl rfl HG3.out (by simp) (by kernel_rfl) #[.int .i64 3, .bool false, .int .u32 0, .int .i64 0, .int .u32 0, .int .i64 (V0 : Int), .int .u64 ((T : Nat) : Int), .int .u32 0, .slice none 0 0, .slice none 0 0, .slice none 0 0] rfl ?_); intro w8 hs__ hr__; replace HB := cg HB bup hr__ (by omega); replace HG6 := cg HG6 bup hr__ (by omega); clear HG3; have HG3 := Hd hs__; clear hs__ hr__; simp only [PT])
 | (go_at_call 85; (with_reducible show Calls _ _ #[_, Value.int .i64 16, _] _ _); (refine (z1g ad n c l 16 big _ (HS.out.below (HB.out.trans (Below.mono bup HB.out.size))) (by omega) (by omega)).mono ?_); intro e w9 hr; rw [← HV16.out] at hr; obtain ⟨rfl, hw__⟩ := hr; subst hw__)
 | ((with_reducible show wpList _ _ _ (⟨none, .store _ (.tmp 92) (.tmp 91), _, _, _, _⟩ :: _) _ _); (refine z0c rfl 22 (.tmp 92) (.tmp 91) rfl g3 7 (.int .u32 (V16 : Int)) rfl rfl rfl HG3.out (by simp) (by kernel_rfl) #[.int .i64 3, .bool false, .int .u32 0, .int .i64 0, .int .u32 0, .int .i64 (V0 : Int), .int .u64 ((T : Nat) : Int), .int .u32 (V16 : Int), .slice none 0 0, .slice none 0 0, .slice none 0 0] rfl ?_); intro w10 hs__ hr__; replace HB := cg HB bup hr__ (by omega); replace HG6 := cg HG6 bup hr__ (by omega); clear HG3; have HG3 := Hd hs__; clear hs__ hr__; simp only [PT])
 | (go_at_call 85; (with_reducible show Calls _ _ #[_, Value.int .i64 12, _] _ _); (refine (z1g ad n c l 12 big _ (HS.out.below (HB.out.trans (Below.mono bup HB.out.size))) (by omega) (by omega)).mono ?_); intro e w11 hr; rw [← HV12.out] at hr; obtain ⟨rfl, hw__⟩ := hr; subst hw__)
 | ((with_reducible refine sl 99 ?_); (refine z0b elB rfl (.tmp 98) (some (.const (.int .i64 20))) none rfl rfl 20 n (.inr ⟨.i64, rfl⟩) (.inl ⟨rfl, rfl⟩) (by omega) (by omega) m cc HM.out HCC.out ?_); intro ad99 had; have HA99 := Hd (show ∀ w0, Bs w0 ad n c l → Bs w0 ad99 m cc R from fun w0 h0 => Bs.partG h0 20 n m cc (by omega) (by omega) HM.out HCC.out ad99 had R HRR.out); clear had; simp only [PT])
 | (go_at_call 86; (with_reducible show Calls _ _ #[Value.slice ad99 _ _, Value.int .i64 (V12 : Int)] _ _); (refine (cut_ok ad99 m cc R V12 (by omega) (by omega) D HDD.out _ (HA99.out _ (HS.out.below (HB.out.trans (Below.mono bup HB.out.size))))).mono ?_); intro e w12 hr; obtain ⟨adD, cD, rfl, hoD, hb__⟩ := hr; have HD := Hd (z0r (base' := g6 + 1) hoD (lt_of_block (by exact HG6.out))); have hE__ := cU HB bup hb__; replace HB := ck HB hE__; replace HG3 := ck HG3 hE__; replace HG6 := ck HG6 hE__; clear hE__; clear hb__ hoD))
  go_loopw [10] (fun i wr => ∃ x : Nat, V12 ≤ x ∧ x ≤ Q ∧ i = .int .i64 (x : Int) ∧ wr.heap[g3]? = some (.cells #[.int .i64 3, .bool false, .int .u32 0, .int .i64 0, .int .u32 0, .int .i64 (V0 : Int), .int .u64 ((T : Nat) : Int), .int .u32 (V16 : Int), .slice none 0 0, .slice none 0 0, .slice none 0 0] 27 (0, 0)) ∧ wr.heap[g6]? = some (.cells #[.int .i64 0, .bool false, .int .u32 0, .int .i64 0, .int .u32 0, .int .i64 0, .int .u64 0, .int .u32 0, .slice none 0 0, .slice none 0 0, .slice none 0 0] 27 (0, 0)) ∧ Below w.heap.size w wr ∧ wr.ownsRow (g6 + 1) 5 1 (.slice adD D.length cD) D.length (BV D)) (fun i _ => Q + 4 - (intOf i).toNat)
  case atStart => exact ⟨V12, Nat.le_refl _, hQ1, rfl, HG3.out, HG6.out, HB.out, HD.out⟩
  case round =>
    obtain ⟨x, hx1, hx2, rfl, hg3, hg6, hb, hd⟩ := hrel
    clear HB HG3 HG6 HD
    have HB := Hd hb
    have HG3 := Hd hg3
    have HG6 := Hd hg6
    have HD := Hd hd
    clear hb hg3 hg6 hd
    by_cases h4 : x % 4 = 0
    · obtain rfl : x = Q := by omega
      have h4i : (x : Int) % 4 = 0 := by omega
      go_wp2_with (first
 | ((with_reducible refine sl 112 ?_); (refine z0b elB rfl (.tmp 111) (some (.const (.int .i64 20))) none rfl rfl 20 n (.inr ⟨.i64, rfl⟩) (.inl ⟨rfl, rfl⟩) (by omega) (by omega) m cc HM.out HCC.out ?_); intro ad112 had; have HA112 := Hd (show ∀ w0, Bs w0 ad n c l → Bs w0 ad112 m cc R from fun w0 h0 => Bs.partG h0 20 n m cc (by omega) (by omega) HM.out HCC.out ad112 had R HRR.out); clear had; simp only [PT])
 | (go_at_call 86; (with_reducible show Calls _ _ #[Value.slice ad112 _ _, Value.int .i64 (x : Int)] _ _); (refine (cut_short ad112 m cc x (by omega) _).mono ?_); intro e w13 hr; obtain ⟨rfl, hw__⟩ := hr; subst hw__)
 | ((with_reducible show wpList _ _ _ (⟨none, .store _ (.tmp 119) (.tmp 118), _, _, _, _⟩ :: _) _ _); (refine z0c rfl 24 (.tmp 119) (.tmp 118) rfl g3 8 (.slice adD D.length cD) rfl rfl rfl HG3.out (by simp) (by kernel_rfl) #[.int .i64 3, .bool false, .int .u32 0, .int .i64 0, .int .u32 0, .int .i64 (V0 : Int), .int .u64 ((T : Nat) : Int), .int .u32 (V16 : Int), .slice adD D.length cD, .slice none 0 0, .slice none 0 0] rfl ?_); intro w14 hs__ hr__; replace HB := cg HB bup hr__ (by omega); replace HG6 := cg HG6 bup hr__ (by omega); replace HD := cg HD bup hr__ (by omega); clear HG3; have HG3 := Hd hs__; clear hs__ hr__; simp only [PT])
 | ((with_reducible refine sl 120 ?_); (refine z05 rfl 27 (.tmp 3) rfl g3 0 rfl [.int .i64 3, .bool false, .int .u32 0, .int .i64 0, .int .u32 0, .int .i64 (V0 : Int), .int .u64 ((T : Nat) : Int), .int .u32 (V16 : Int), .slice adD D.length cD, .slice none 0 0, .slice none 0 0] _ (z00 HG3.out) Try.underlying27 rfl HBI.out ?_); simp only [PT])
 | ((with_reducible show wpList _ _ _ (⟨none, .store _ (.tmp 6) (.tmp 120), _, _, _, _⟩ :: _) _ _); (refine z02 rfl 27 (.tmp 6) (.tmp 120) rfl g6 #[.int .i64 3, .bool false, .int .u32 0, .int .i64 0, .int .u32 0, .int .i64 (V0 : Int), .int .u64 ((T : Nat) : Int), .int .u32 (V16 : Int), .slice adD D.length cD, .slice none 0 0, .slice none 0 0] rfl rfl HG6.out HBI.out rfl (all1 _ rfl) ?_); intro w15 hs__ hr__; replace HB := cg HB bup hr__ (by omega); replace HG3 := cg HG3 bup hr__ (by omega); replace HD := cg HD bup hr__ (by omega); clear HG6; have HG6 := Hd hs__; clear hs__ hr__; simp only [PT]))
      (try simp only [Exit.inBlock, Exit.then, Exit.noGoto_ret])
      refine z04 (cs := [.int .i64 3, .bool false, .int .u32 0, .int .i64 0, .int .u32 0, .int .i64 (V0 : Int), .int .u64 ((T : Nat) : Int), .int .u32 (V16 : Int), .slice adD D.length cD, .slice none 0 0, .slice none 0 0]) rfl rfl (z00 HG6.out) Try.underlying27 rfl HBI.out rfl ?_
      exact ⟨⟨3, false, 0, 0, 0, (V0 : Int), T, V16, adD, D.length, cD, D, none, 0, 0, [], none, 0, 0, []⟩, none, 0, 0, false, rfl, by rw [HO.out]; rfl, fun x r h => absurd (HO.out.symm.trans h) (by simp), HB.out⟩
    · have h4i : ¬ (x : Int) % 4 = 0 := by omega
      go_wp2_with fail
      go_roundw
      case rel => exact ⟨x + 1, by omega, by omega, by go_num, HG3.out, HG6.out, HB.out, HD.out⟩
      case measure => simp [intOf]; omega
theorem refOpen4_short (ad : Option Addr) (n c : Nat) (l : List UInt8) (big : Bool) (w : World) (hs : Bs w ad n c l) (hn : n ≤ 1048576) (h : n < 4) :
    Calls Try.prog 62 #[.agg #[.int .i64 4, .bool false, .int .u32 0, .int .i64 0, .int .u32 0, .int .i64 0, .int .u64 0, .int .u32 0, .slice none 0 0, .slice none 0 0, .slice none 0 0], .slice ad n c, .bool big] w (OpenR ad n c l (openP 4 0 l big) w) := by
  have HB := Hd (Below.refl w.heap.size w)
  have HS := Hd hs
  have HBI := Hd z0d
  have hc := hs.le
  have HN := Hd hs.len
  clear hs
  have hi : (n : Int) < 4 := by omega
  have HO := Hd (show openP 4 0 l big = none from by have := HN.out; unfold openP; simp [show l.length < 4 by omega])
  clear h
  go_enter Try.func62, Try.ntmps62
  go_wp2_with (first
 | ((with_reducible refine sl 3 ?_); (refine z0a rfl 27 (.tmp 0) rfl #[.int .i64 4, .bool false, .int .u32 0, .int .i64 0, .int .u32 0, .int .i64 0, .int .u64 0, .int .u32 0, .slice none 0 0, .slice none 0 0, .slice none 0 0] rfl ?_); intro w1 g3 he__ le_g3 lt_g3 hg__ hb__; have HG3 := Hd hg__; have hE__ := cU HB bup hb__; replace HB := ck HB hE__; clear hE__; clear hg__ hb__ he__; simp only [PT])
 | ((with_reducible refine sl 6 ?_); (refine z09 rfl 27 rfl (.agg #[.int .i64 0, .bool false, .int .u32 0, .int .i64 0, .int .u32 0, .int .i64 0, .int .u64 0, .int .u32 0, .slice none 0 0, .slice none 0 0, .slice none 0 0]) #[.int .i64 0, .bool false, .int .u32 0, .int .i64 0, .int .u32 0, .int .i64 0, .int .u64 0, .int .u32 0, .slice none 0 0, .slice none 0 0, .slice none 0 0] 11 (by kernel_rfl) rfl ?_); intro w2 g6 he__ le_g6 lt_g6 hg__ hb__; have HG6 := Hd hg__; have hE__ := cU HB bup hb__; replace HB := ck HB hE__; replace HG3 := ck HG3 hE__; clear hE__; clear hg__ hb__ he__; simp only [PT])
 | ((with_reducible refine sl 25 ?_); (refine z1q rfl 101 3 8 _ rfl .i64 [0, 16, 8, 20, 4, 0, 12, 0] Try.underlying101 (by kernel_rfl) (by kernel_rfl) rfl (by decide) (by decide) (by rfl) ?_); intro w3 gL le_gL hg__ hb__; have HGL := Hd hg__; have hE__ := cU HB bup hb__; replace HB := ck HB hE__; replace HG3 := ck HG3 hE__; replace HG6 := ck HG6 hE__; clear hE__; clear hg__ hb__; simp only [PT])
 | ((with_reducible refine sl 27 ?_); (refine z01 rfl 3 (.tmp 26) rfl g3 0 rfl (.int .i64 4) HG3.out rfl Try.underlying3 rfl ?_); simp only [PT])
 | ((with_reducible refine sl 29 ?_); (refine z01 rfl 3 (.tmp 28) rfl gL 4 rfl (.int .i64 4) HGL.out rfl Try.underlying3 rfl ?_); simp only [PT])
 | ((with_reducible refine sl 36 ?_); (refine z01 rfl 3 (.tmp 35) rfl g3 0 rfl (.int .i64 4) HG3.out rfl Try.underlying3 rfl ?_); simp only [PT])
 | ((with_reducible refine sl 83 ?_); (refine z01 rfl 3 (.tmp 82) rfl g3 0 rfl (.int .i64 4) HG3.out rfl Try.underlying3 rfl ?_); simp only [PT])
 | ((with_reducible refine sl 34 ?_); (refine z05 rfl 27 (.tmp 3) rfl g3 0 rfl [.int .i64 4, .bool false, .int .u32 0, .int .i64 0, .int .u32 0, .int .i64 0, .int .u64 0, .int .u32 0, .slice none 0 0, .slice none 0 0, .slice none 0 0] _ (z00 HG3.out) Try.underlying27 rfl HBI.out ?_); simp only [PT])
 | ((with_reducible show wpList _ _ _ (⟨none, .store _ (.tmp 6) (.tmp 34), _, _, _, _⟩ :: _) _ _); (refine z02 rfl 27 (.tmp 6) (.tmp 34) rfl g6 #[.int .i64 4, .bool false, .int .u32 0, .int .i64 0, .int .u32 0, .int .i64 0, .int .u64 0, .int .u32 0, .slice none 0 0, .slice none 0 0, .slice none 0 0] rfl rfl HG6.out HBI.out rfl (all1 _ rfl) ?_); intro w9 hs__ hr__; replace HB := cg HB bup hr__ (by omega); replace HG3 := cg HG3 bup hr__ (by omega); clear HG6; have HG6 := Hd hs__; clear hs__ hr__; simp only [PT]))
  all_goals
    (try simp only [Exit.inBlock, Exit.then, Exit.noGoto_ret])
    refine z04 (cs := [.int .i64 4, .bool false, .int .u32 0, .int .i64 0, .int .u32 0, .int .i64 0, .int .u64 0, .int .u32 0, .slice none 0 0, .slice none 0 0, .slice none 0 0]) rfl rfl (z00 HG6.out) Try.underlying27 rfl HBI.out rfl ?_
    exact ⟨⟨4, false, 0, 0, 0, 0, 0, 0, none, 0, 0, [], none, 0, 0, [], none, 0, 0, []⟩, none, 0, 0, false, rfl, by rw [HO.out]; rfl, fun x r h => absurd (HO.out.symm.trans h) (by simp), HB.out⟩
theorem refOpen4_ok (ad : Option Addr) (n c : Nat) (l : List UInt8) (big : Bool) (w : World) (hs : Bs w ad n c l) (hn : n ≤ 1048576) (h : 4 ≤ n) :
    Calls Try.prog 62 #[.agg #[.int .i64 4, .bool false, .int .u32 0, .int .i64 0, .int .u32 0, .int .i64 0, .int .u64 0, .int .u32 0, .slice none 0 0, .slice none 0 0, .slice none 0 0], .slice ad n c, .bool big] w (OpenR ad n c l (openP 4 0 l big) w) := by
  have HB := Hd (Below.refl w.heap.size w)
  have HS := Hd hs
  have HBI := Hd z0d
  have hc := hs.le
  have HN := Hd hs.len
  clear hs
  have hi : ¬ (n : Int) < 4 := by omega
  obtain ⟨V0, hV0⟩ : ∃ x, x = getN ((l.drop 0).take 4) big := ⟨_, rfl⟩
  have bV0 : V0 < 4294967296 := by rw [hV0]; exact w4_lt big l 0
  have HV0 := Hd hV0
  clear hV0
  obtain ⟨m, hm⟩ : ∃ m, m = n - 4 := ⟨_, rfl⟩
  obtain ⟨cc, hcc⟩ : ∃ m, m = c - 4 := ⟨_, rfl⟩
  obtain ⟨R, hR⟩ : ∃ R, R = l.drop 4 := ⟨_, rfl⟩
  have HM := Hd hm.symm
  have HCC := Hd hcc.symm
  have hm1 : m + 4 ≤ n := by omega
  have hm2 : n ≤ m + 4 := by omega
  have hm3 : m ≤ cc := by omega
  have hRl : R.length = m := by rw [hR, List.length_drop, ← HN.out, hm]
  have HRL := Hd hRl
  have HRR : Hid ((l.drop 4).take m = R) := Hd (by rw [← hR]; exact List.take_of_length_le (by omega))
  have HR := Hd hR
  clear hm hcc hR hRl
  obtain ⟨k, hk⟩ : ∃ k, k = min V0 m := ⟨_, rfl⟩
  obtain ⟨D, hD⟩ : ∃ D, D = R.take V0 := ⟨_, rfl⟩
  have HDD : Hid (R.take k = D) := Hd (by
    have := HRL.out
    rw [hD, hk]
    by_cases hv : V0 ≤ m
    · rw [Nat.min_eq_left hv]
    · rw [Nat.min_eq_right (by omega), List.take_of_length_le (by omega), List.take_of_length_le (by omega)])
  have HO : Hid (openP 4 0 l big = some ({ noneB with kind := 4, len := V0, data := D }, [])) := Hd (by rw [hD, HR.out, HV0.out]; have := HN.out; unfold openP; simp [show ¬ l.length < 4 by omega, w4])
  have e1 : IntKind.u32.wrap (V0 : Int) = (V0 : Int) := by rw [IntKind.wrap_u32]; omega
  have e2 : IntKind.i64.wrap (V0 : Int) = (V0 : Int) := by rw [IntKind.wrap_i64]; omega
  have e3 : (n : Int) - 4 = (m : Int) := by omega
  have e4 : IntKind.i64.wrap ((n : Int) - 4) = (m : Int) := by rw [IntKind.wrap_i64]; omega
  have e5 : IntKind.i64.wrap (m : Int) = (m : Int) := by rw [IntKind.wrap_i64]; omega
  have hk2 : k ≤ m := by omega
  have hkk : (V0 < m ∧ (V0 : Int) < (m : Int) ∧ V0 = k) ∨ (¬ V0 < m ∧ ¬ (V0 : Int) < (m : Int) ∧ m = k) := by omega
  clear HN hk hD
  rcases hkk with ⟨k1, k2, k4⟩ | ⟨k1, k2, k4⟩
  · subst k4
    go_enter Try.func62, Try.ntmps62
    go_wp2_with (first
 | ((with_reducible refine sl 3 ?_); (refine z0a rfl 27 (.tmp 0) rfl #[.int .i64 4, .bool false, .int .u32 0, .int .i64 0, .int .u32 0, .int .i64 0, .int .u64 0, .int .u32 0, .slice none 0 0, .slice none 0 0, .slice none 0 0] rfl ?_); intro w1 g3 he__ le_g3 lt_g3 hg__ hb__; have HG3 := Hd hg__; have hE__ := cU HB bup hb__; replace HB := ck HB hE__; clear hE__; clear hg__ hb__ he__; simp only [PT])
 | ((with_reducible refine sl 6 ?_); (refine z09 rfl 27 rfl (.agg #[.int .i64 0, .bool false, .int .u32 0, .int .i64 0, .int .u32 0, .int .i64 0, .int .u64 0, .int .u32 0, .slice none 0 0, .slice none 0 0, .slice none 0 0]) #[.int .i64 0, .bool false, .int .u32 0, .int .i64 0, .int .u32 0, .int .i64 0, .int .u64 0, .int .u32 0, .slice none 0 0, .slice none 0 0, .slice none 0 0] 11 (by kernel_rfl) rfl ?_); intro w2 g6 he__ le_g6 lt_g6 hg__ hb__; have HG6 := Hd hg__; have hE__ := cU HB bup hb__; replace HB := ck HB hE__; replace HG3 := ck HG3 hE__; clear hE__; clear hg__ hb__ he__; simp only [PT])
 | ((with_reducible refine sl 25 ?_); (refine z1q rfl 101 3 8 _ rfl .i64 [0, 16, 8, 20, 4, 0, 12, 0] Try.underlying101 (by kernel_rfl) (by kernel_rfl) rfl (by decide) (by decide) (by rfl) ?_); intro w3 gL le_gL hg__ hb__; have HGL := Hd hg__; have hE__ := cU HB bup hb__; replace HB := ck HB hE__; replace HG3 := ck HG3 hE__; replace HG6 := ck HG6 hE__; clear hE__; clear hg__ hb__; simp only [PT])
 | ((with_reducible refine sl 27 ?_); (refine z01 rfl 3 (.tmp 26) rfl g3 0 rfl (.int .i64 4) HG3.out rfl Try.underlying3 rfl ?_); simp only [PT])
 | ((with_reducible refine sl 29 ?_); (refine z01 rfl 3 (.tmp 28) rfl gL 4 rfl (.int .i64 4) HGL.out rfl Try.underlying3 rfl ?_); simp only [PT])
 | ((with_reducible refine sl 36 ?_); (refine z01 rfl 3 (.tmp 35) rfl g3 0 rfl (.int .i64 4) HG3.out rfl Try.underlying3 rfl ?_); simp only [PT])
 | ((with_reducible refine sl 83 ?_); (refine z01 rfl 3 (.tmp 82) rfl g3 0 rfl (.int .i64 4) HG3.out rfl Try.underlying3 rfl ?_); simp only [PT])
 | (go_at_call 85; (with_reducible show Calls _ _ #[_, Value.int .i64 0, _] _ _); (refine (z1g ad n c l 0 big _ (HS.out.below (HB.out.trans (Below.mono bup HB.out.size))) (by omega) (by omega)).mono ?_); intro e w4 hr; rw [← HV0.out] at hr; obtain ⟨rfl, hw__⟩ := hr; subst hw__)
 | ((with_reducible show wpList _ _ _ (⟨none, .store _ (.tmp 132) (.tmp 131), _, _, _, _⟩ :: _) _ _); (refine z0c rfl 22 (.tmp 132) (.tmp 131) rfl g3 7 (.int .u32 (V0 : Int)) rfl rfl rfl HG3.out (by simp) (by kernel_rfl) #[.int .i64 4, .bool false, .int .u32 0, .int .i64 0, .int .u32 0, .int .i64 0, .int .u64 0, .int .u32 (V0 : Int), .slice none 0 0, .slice none 0 0, .slice none 0 0] rfl ?_); intro w5 hs__ hr__; replace HB := cg HB bup hr__ (by omega); replace HG6 := cg HG6 bup hr__ (by omega); clear HG3; have HG3 := Hd hs__; clear hs__ hr__; simp only [PT])
 | ((with_reducible refine sl 137 ?_); (refine z01 rfl 22 (.tmp 136) rfl g3 7 rfl (.int .u32 (V0 : Int)) HG3.out rfl Try.underlying22 rfl ?_); simp only [PT])
 | ((with_reducible refine sl 142 ?_); (refine z01 rfl 22 (.tmp 141) rfl g3 7 rfl (.int .u32 (V0 : Int)) HG3.out rfl Try.underlying22 rfl ?_); simp only [PT])
 | ((with_reducible refine sl 146 ?_); (refine z0b elB rfl (.tmp 145) (some (.const (.int .i64 4))) none rfl rfl 4 n (.inr ⟨.i64, rfl⟩) (.inl ⟨rfl, rfl⟩) (by omega) (by omega) m cc HM.out HCC.out ?_); intro ad146 had; have HA146 := Hd (show ∀ w0, Bs w0 ad n c l → Bs w0 ad146 m cc R from fun w0 h0 => Bs.partG h0 4 n m cc (by omega) (by omega) HM.out HCC.out ad146 had R HRR.out); clear had; simp only [PT])
 | (go_at_call 86; (with_reducible show Calls _ _ #[Value.slice ad146 _ _, Value.int .i64 (V0 : Int)] _ _); (refine (cut_ok ad146 m cc R V0 (by omega) (by omega) D HDD.out _ (HA146.out _ (HS.out.below (HB.out.trans (Below.mono bup HB.out.size))))).mono ?_); intro e w6 hr; obtain ⟨adD, cD, rfl, hoD, hb__⟩ := hr; have HD := Hd (z0r (base' := g6 + 1) hoD (lt_of_block (by exact HG6.out))); have hE__ := cU HB bup hb__; replace HB := ck HB hE__; replace HG3 := ck HG3 hE__; replace HG6 := ck HG6 hE__; clear hE__; clear hb__ hoD)
 | ((with_reducible show wpList _ _ _ (⟨none, .store _ (.tmp 153) (.tmp 152), _, _, _, _⟩ :: _) _ _); (refine z0c rfl 24 (.tmp 153) (.tmp 152) rfl g3 8 (.slice adD D.length cD) rfl rfl rfl HG3.out (by simp) (by kernel_rfl) #[.int .i64 4, .bool false, .int .u32 0, .int .i64 0, .int .u32 0, .int .i64 0, .int .u64 0, .int .u32 (V0 : Int), .slice adD D.length cD, .slice none 0 0, .slice none 0 0] rfl ?_); intro w7 hs__ hr__; replace HB := cg HB bup hr__ (by omega); replace HG6 := cg HG6 bup hr__ (by omega); replace HD := cg HD bup hr__ (by omega); clear HG3; have HG3 := Hd hs__; clear hs__ hr__; simp only [PT])
 | ((with_reducible refine sl 154 ?_); (refine z05 rfl 27 (.tmp 3) rfl g3 0 rfl [.int .i64 4, .bool false, .int .u32 0, .int .i64 0, .int .u32 0, .int .i64 0, .int .u64 0, .int .u32 (V0 : Int), .slice adD D.length cD, .slice none 0 0, .slice none 0 0] _ (z00 HG3.out) Try.underlying27 rfl HBI.out ?_); simp only [PT])
 | ((with_reducible show wpList _ _ _ (⟨none, .store _ (.tmp 6) (.tmp 154), _, _, _, _⟩ :: _) _ _); (refine z02 rfl 27 (.tmp 6) (.tmp 154) rfl g6 #[.int .i64 4, .bool false, .int .u32 0, .int .i64 0, .int .u32 0, .int .i64 0, .int .u64 0, .int .u32 (V0 : Int), .slice adD D.length cD, .slice none 0 0, .slice none 0 0] rfl rfl HG6.out HBI.out rfl (all1 _ rfl) ?_); intro w9 hs__ hr__; replace HB := cg HB bup hr__ (by omega); replace HG3 := cg HG3 bup hr__ (by omega); replace HD := cg HD bup hr__ (by omega); clear HG6; have HG6 := Hd hs__; clear hs__ hr__; simp only [PT]))
    all_goals
      (try simp only [Exit.inBlock, Exit.then, Exit.noGoto_ret])
      refine z04 (cs := [.int .i64 4, .bool false, .int .u32 0, .int .i64 0, .int .u32 0, .int .i64 0, .int .u64 0, .int .u32 (V0 : Int), .slice adD D.length cD, .slice none 0 0, .slice none 0 0]) rfl rfl (z00 HG6.out) Try.underlying27 rfl HBI.out rfl ?_
      refine ⟨⟨4, false, 0, 0, 0, 0, 0, V0, adD, D.length, cD, D, none, 0, 0, [], none, 0, 0, []⟩, none, 0, 0, true, rfl, by rw [HO.out]; rfl, fun x r h => ?_, HB.out⟩
      have hh := HO.out.symm.trans h
      simp only [Option.some.injEq, Prod.mk.injEq] at hh
      obtain ⟨rfl, rfl⟩ := hh
      refine ⟨rfl, fun _ _ => Sl.nil _ 1, z0r HD.out (by omega), OwnOps.nil _ _ _, OwnOps.nil _ _ _⟩
  · subst k4
    go_enter Try.func62, Try.ntmps62
    go_wp2_with (first
 | ((with_reducible refine sl 3 ?_); (refine z0a rfl 27 (.tmp 0) rfl #[.int .i64 4, .bool false, .int .u32 0, .int .i64 0, .int .u32 0, .int .i64 0, .int .u64 0, .int .u32 0, .slice none 0 0, .slice none 0 0, .slice none 0 0] rfl ?_); intro w1 g3 he__ le_g3 lt_g3 hg__ hb__; have HG3 := Hd hg__; have hE__ := cU HB bup hb__; replace HB := ck HB hE__; clear hE__; clear hg__ hb__ he__; simp only [PT])
 | ((with_reducible refine sl 6 ?_); (refine z09 rfl 27 rfl (.agg #[.int .i64 0, .bool false, .int .u32 0, .int .i64 0, .int .u32 0, .int .i64 0, .int .u64 0, .int .u32 0, .slice none 0 0, .slice none 0 0, .slice none 0 0]) #[.int .i64 0, .bool false, .int .u32 0, .int .i64 0, .int .u32 0, .int .i64 0, .int .u64 0, .int .u32 0, .slice none 0 0, .slice none 0 0, .slice none 0 0] 11 (by kernel_rfl) rfl ?_); intro w2 g6 he__ le_g6 lt_g6 hg__ hb__; have HG6 := Hd hg__; have hE__ := cU HB bup hb__; replace HB := ck HB hE__; replace HG3 := ck HG3 hE__; clear hE__; clear hg__ hb__ he__; simp only [PT])
 | ((with_reducible refine sl 25 ?_); (refine z1q rfl 101 3 8 _ rfl .i64 [0, 16, 8, 20, 4, 0, 12, 0] Try.underlying101 (by kernel_rfl) (by kernel_rfl) rfl (by decide) (by decide) (by rfl) ?_); intro w3 gL le_gL hg__ hb__; have HGL := Hd hg__; have hE__ := cU HB bup hb__; replace HB := ck HB hE__; replace HG3 := ck HG3 hE__; replace HG6 := ck HG6 hE__; clear hE__; clear hg__ hb__; simp only [PT])
 | ((with_reducible refine sl 27 ?_); (refine z01 rfl 3 (.tmp 26) rfl g3 0 rfl (.int .i64 4) HG3.out rfl Try.underlying3 rfl ?_); simp only [PT])
 | ((with_reducible refine sl 29 ?_); (refine z01 rfl 3 (.tmp 28) rfl gL 4 rfl (.int .i64 4) HGL.out rfl Try.underlying3 rfl ?_); simp only [PT])
 | ((with_reducible refine sl 36 ?_); (refine z01 rfl 3 (.tmp 35) rfl g3 0 rfl (.int .i64 4) HG3.out rfl Try.underlying3 rfl ?_); simp only [PT])
 | ((with_reducible refine sl 83 ?_); (refine z01 rfl 3 (.tmp 82) rfl g3 0 rfl (.int .i64 4) HG3.out rfl Try.underlying3 rfl ?_); simp only [PT])
 | (go_at_call 85; (with_reducible show Calls _ _ #[_, Value.int .i64 0, _] _ _); (refine (z1g ad n c l 0 big _ (HS.out.below (HB.out.trans (Below.mono bup HB.out.size))) (by omega) (by omega)).mono ?_); intro e w4 hr; rw [← HV0.out] at hr; obtain ⟨rfl, hw__⟩ := hr; subst hw__)
 | ((with_reducible show wpList _ _ _ (⟨none, .store _ (.tmp 132) (.tmp 131), _, _, _, _⟩ :: _) _ _); (refine z0c rfl 22 (.tmp 132) (.tmp 131) rfl g3 7 (.int .u32 (V0 : Int)) rfl rfl rfl HG3.out (by simp) (by kernel_rfl) #[.int .i64 4, .bool false, .int .u32 0, .int .i64 0, .int .u32 0, .int .i64 0, .int .u64 0, .int .u32 (V0 : Int), .slice none 0 0, .slice none 0 0, .slice none 0 0] rfl ?_); intro w5 hs__ hr__; replace HB := cg HB bup hr__ (by omega); replace HG6 := cg HG6 bup hr__ (by omega); clear HG3; have HG3 := Hd hs__; clear hs__ hr__; simp only [PT])
 | ((with_reducible refine sl 137 ?_); (refine z01 rfl 22 (.tmp 136) rfl g3 7 rfl (.int .u32 (V0 : Int)) HG3.out rfl Try.underlying22 rfl ?_); simp only [PT])
 | ((with_reducible refine sl 142 ?_); (refine z01 rfl 22 (.tmp 141) rfl g3 7 rfl (.int .u32 (V0 : Int)) HG3.out rfl Try.underlying22 rfl ?_); simp only [PT])
 | ((with_reducible refine sl 146 ?_); (refine z0b elB rfl (.tmp 145) (some (.const (.int .i64 4))) none rfl rfl 4 n (.inr ⟨.i64, rfl⟩) (.inl ⟨rfl, rfl⟩) (by omega) (by omega) m cc HM.out HCC.out ?_); intro ad146 had; have HA146 := Hd (show ∀ w0, Bs w0 ad n c l → Bs w0 ad146 m cc R from fun w0 h0 => Bs.partG h0 4 n m cc (by omega) (by omega) HM.out HCC.out ad146 had R HRR.out); clear had; simp only [PT])
 | (go_at_call 86; (with_reducible show Calls _ _ #[Value.slice ad146 _ _, Value.int .i64 (m : Int)] _ _); (refine (cut_ok ad146 m cc R m (by omega) (by omega) D HDD.out _ (HA146.out _ (HS.out.below (HB.out.trans (Below.mono bup HB.out.size))))).mono ?_); intro e w6 hr; obtain ⟨adD, cD, rfl, hoD, hb__⟩ := hr; have HD := Hd (z0r (base' := g6 + 1) hoD (lt_of_block (by exact HG6.out))); have hE__ := cU HB bup hb__; replace HB := ck HB hE__; replace HG3 := ck HG3 hE__; replace HG6 := ck HG6 hE__; clear hE__; clear hb__ hoD)
 | ((with_reducible show wpList _ _ _ (⟨none, .store _ (.tmp 153) (.tmp 152), _, _, _, _⟩ :: _) _ _); (refine z0c rfl 24 (.tmp 153) (.tmp 152) rfl g3 8 (.slice adD D.length cD) rfl rfl rfl HG3.out (by simp) (by kernel_rfl) #[.int .i64 4, .bool false, .int .u32 0, .int .i64 0, .int .u32 0, .int .i64 0, .int .u64 0, .int .u32 (V0 : Int), .slice adD D.length cD, .slice none 0 0, .slice none 0 0] rfl ?_); intro w7 hs__ hr__; replace HB := cg HB bup hr__ (by omega); replace HG6 := cg HG6 bup hr__ (by omega); replace HD := cg HD bup hr__ (by omega); clear HG3; have HG3 := Hd hs__; clear hs__ hr__; simp only [PT])
 | ((with_reducible refine sl 154 ?_); (refine z05 rfl 27 (.tmp 3) rfl g3 0 rfl [.int .i64 4, .bool false, .int .u32 0, .int .i64 0, .int .u32 0, .int .i64 0, .int .u64 0, .int .u32 (V0 : Int), .slice adD D.length cD, .slice none 0 0, .slice none 0 0] _ (z00 HG3.out) Try.underlying27 rfl HBI.out ?_); simp only [PT])
 | ((with_reducible show wpList _ _ _ (⟨none, .store _ (.tmp 6) (.tmp 154), _, _, _, _⟩ :: _) _ _); (refine z02 rfl 27 (.tmp 6) (.tmp 154) rfl g6 #[.int .i64 4, .bool false, .int .u32 0, .int .i64 0, .int .u32 0, .int .i64 0, .int .u64 0, .int .u32 (V0 : Int), .slice adD D.length cD, .slice none 0 0, .slice none 0 0] rfl rfl HG6.out HBI.out rfl (all1 _ rfl) ?_); intro w9 hs__ hr__; replace HB := cg HB bup hr__ (by omega); replace HG3 := cg HG3 bup hr__ (by omega); replace HD := cg HD bup hr__ (by omega); clear HG6; have HG6 := Hd hs__; clear hs__ hr__; simp only [PT]))
    all_goals
      (try simp only [Exit.inBlock, Exit.then, Exit.noGoto_ret])
      refine z04 (cs := [.int .i64 4, .bool false, .int .u32 0, .int .i64 0, .int .u32 0, .int .i64 0, .int .u64 0, .int .u32 (V0 : Int), .slice adD D.length cD, .slice none 0 0, .slice none 0 0]) rfl rfl (z00 HG6.out) Try.underlying27 rfl HBI.out rfl ?_
      refine ⟨⟨4, false, 0, 0, 0, 0, 0, V0, adD, D.length, cD, D, none, 0, 0, [], none, 0, 0, []⟩, none, 0, 0, true, rfl, by rw [HO.out]; rfl, fun x r h => ?_, HB.out⟩
      have hh := HO.out.symm.trans h
      simp only [Option.some.injEq, Prod.mk.injEq] at hh
      obtain ⟨rfl, rfl⟩ := hh
      refine ⟨rfl, fun _ _ => Sl.nil _ 1, z0r HD.out (by omega), OwnOps.nil _ _ _, OwnOps.nil _ _ _⟩
end Go.Proofs.Ytmfplinbbcoahaa
