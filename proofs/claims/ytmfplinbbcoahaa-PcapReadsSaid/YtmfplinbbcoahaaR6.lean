/-
  Joined by program (merge.py): Blk5, Blk7, Blk8, Body1, Repeat, Body2, Body3, Body4, Body5.
-/
import Derived.Lib.MakeNoZero
import Derived.Laws.CopyOwn
import Derived.Deep.RegionLaw
import Derived.Laws.EntriesVeiled
import Derived.Great.BuildSlice
import Derived.Test.YtmfplinbbcoahaaR1
import Derived.Test.YtmfplinbbcoahaaR2
import Derived.Test.YtmfplinbbcoahaaR3
import Derived.Test.YtmfplinbbcoahaaR4
import Derived.Test.YtmfplinbbcoahaaR5
set_option linter.unusedVariables false
set_option linter.unusedSimpArgs false
set_option maxRecDepth 100000
set_option maxHeartbeats 16000000
namespace Go.Proofs.Ytmfplinbbcoahaa
open Go.RowKit Go.Sort
theorem skip_if {c : Prop} [Decidable c] {A B : Prop} (h : ¬ c) (hb : B) : if c then A else B := by rw [if_neg h]; exact hb
theorem only_fits (v : BlkV) (h1 : 1 ≤ v.kind) (h7 : v.kind ≤ 7) : sameP v.val (onlyV v).val = fitsP v.val := by
  rw [Bool.eq_iff_iff, sameP_iff]
  obtain ⟨kind, big, type, link, snap, iface, time, len, dad, dn, dc, dl, nad, nn, nc, ns, oad, on, oc, os⟩ := v
  simp only at h1 h7
  have hv : vals ([] : List OptV) = [] := rfl
  rcases kind_cases h1 h7 with rfl | rfl | rfl | rfl | rfl | rfl | rfl <;>
    simp [onlyV, BlkV.val, fitsP, PB.mk.injEq, hv, and_assoc] <;> try omega
def lastV (v : BlkV) : Bool := (v.kind != 4 || v.dn == v.len || (decide (v.dn < v.len) && v.dn % 4 == 0)) && (v.kind != 7 || (v.dn % 4 == 0 && kindP v.type == 7))
theorem mayV_val {w : World} {v : BlkV} (h : Blk w v) : mayP v.val = (decide (1 ≤ v.kind) && decide (v.kind ≤ 7) && fitsP v.val && decide (0 ≤ v.link) && decide (v.link ≤ 65535) && decide (0 ≤ v.iface) && decide (v.iface ≤ 4294967295) && (wrongO (vals v.os) == 0) && (wrongO (vals v.ns) == 0) && lastV v) := by
  obtain ⟨h1, h2, h3⟩ := h.lens
  unfold mayP lastV lastP BlkV.val
  simp only [← h1]
theorem blkS {u : World} {g : Nat} {v : BlkV} {T : TypeId} {fz : Nat × Nat} (h : u.heap[g]? = some (.cells v.cells.toArray T fz)) :
    u.rangeAt g 0 v.cells ∧ u.cell? ⟨g, 0, none⟩ = some (.int .i64 v.kind) ∧ u.cell? ⟨g, 3, none⟩ = some (.int .i64 v.link) ∧ u.cell? ⟨g, 5, none⟩ = some (.int .i64 v.iface) ∧ u.cell? ⟨g, 9, none⟩ = some (.slice v.nad v.nn v.nc) ∧ u.cell? ⟨g, 10, none⟩ = some (.slice v.oad v.on v.oc) := by
  obtain ⟨c0, c1, c2, c3, c4, c5, c6, c7, c8, c9, c10⟩ := z03 h
  exact ⟨z00 h, c0, c3, c5, c9, c10⟩
theorem may_any (v : BlkV) (w : World) (hv : Blk w v) (hf : SmB v) (hl : v.len < 4294967296) :
    Calls Try.prog 41 #[.agg v.cells.toArray] w fun e w' => e = .returned (.bool (mayP v.val)) ∧ Below w.heap.size w w' := by
  obtain ⟨z1, z2, z3⟩ := hf.sizes
  have HB := Hd (Below.refl w.heap.size w)
  have HV := Hd hv
  have HM := Hd (mayV_val hv)
  unfold lastV at HM
  have HBI := Hd z0d
  obtain ⟨M, hM⟩ : ∃ M, M = mayP v.val := ⟨_, rfl⟩
  rw [← hM] at HM ⊢
  obtain ⟨F, hF⟩ : ∃ F, F = fitsP v.val := ⟨_, rfl⟩
  rw [← hF] at HM
  have HF := Hd hF
  obtain ⟨Wo, hWo⟩ : ∃ W, W = (wrongO (vals v.os) == 0) := ⟨_, rfl⟩
  obtain ⟨Wn, hWn⟩ : ∃ W, W = (wrongO (vals v.ns) == 0) := ⟨_, rfl⟩
  obtain ⟨KT, hKT⟩ : ∃ K, K = kindP v.type := ⟨_, rfl⟩
  rw [← hWo, ← hWn, ← hKT] at HM
  have HWo := Hd hWo
  have HWn := Hd hWn
  have HKT := Hd hKT
  have hwd : IntKind.u64.wrap (v.dn : Int) = (v.dn : Int) := z15 _ (by omega)
  have hwl : IntKind.u64.wrap (v.len : Int) = (v.len : Int) := z15 _ (by omega)
  clear hv hM hF hWo hWn hKT hf
  have cs : (v.kind < 1) ∨ (¬ v.kind < 1 ∧ 7 < v.kind) ∨ (¬ v.kind < 1 ∧ ¬ 7 < v.kind ∧ F = false) ∨ (¬ v.kind < 1 ∧ ¬ 7 < v.kind ∧ F = true ∧ v.link < 0) ∨ (¬ v.kind < 1 ∧ ¬ 7 < v.kind ∧ F = true ∧ ¬ v.link < 0 ∧ 65535 < v.link) ∨ (¬ v.kind < 1 ∧ ¬ 7 < v.kind ∧ F = true ∧ ¬ v.link < 0 ∧ ¬ 65535 < v.link ∧ v.iface < 0) ∨ (¬ v.kind < 1 ∧ ¬ 7 < v.kind ∧ F = true ∧ ¬ v.link < 0 ∧ ¬ 65535 < v.link ∧ ¬ v.iface < 0 ∧ 4294967295 < v.iface) ∨ (¬ v.kind < 1 ∧ ¬ 7 < v.kind ∧ F = true ∧ ¬ v.link < 0 ∧ ¬ 65535 < v.link ∧ ¬ v.iface < 0 ∧ ¬ 4294967295 < v.iface ∧ Wo = false) ∨ (¬ v.kind < 1 ∧ ¬ 7 < v.kind ∧ F = true ∧ ¬ v.link < 0 ∧ ¬ 65535 < v.link ∧ ¬ v.iface < 0 ∧ ¬ 4294967295 < v.iface ∧ Wo = true ∧ Wn = false) ∨ (¬ v.kind < 1 ∧ ¬ 7 < v.kind ∧ F = true ∧ ¬ v.link < 0 ∧ ¬ 65535 < v.link ∧ ¬ v.iface < 0 ∧ ¬ 4294967295 < v.iface ∧ Wo = true ∧ Wn = true) := by
    by_cases h1 : v.kind < 1
    · exact .inl h1
    by_cases h2 : 7 < v.kind
    · exact .inr (.inl ⟨h1, h2⟩)
    cases hF : F
    · exact .inr (.inr (.inl ⟨h1, h2, rfl⟩))
    by_cases h3 : v.link < 0
    · exact .inr (.inr (.inr (.inl ⟨h1, h2, rfl, h3⟩)))
    by_cases h4 : 65535 < v.link
    · exact .inr (.inr (.inr (.inr (.inl ⟨h1, h2, rfl, h3, h4⟩))))
    by_cases h5 : v.iface < 0
    · exact .inr (.inr (.inr (.inr (.inr (.inl ⟨h1, h2, rfl, h3, h4, h5⟩)))))
    by_cases h6 : 4294967295 < v.iface
    · exact .inr (.inr (.inr (.inr (.inr (.inr (.inl ⟨h1, h2, rfl, h3, h4, h5, h6⟩))))))
    cases hWo : Wo
    · exact .inr (.inr (.inr (.inr (.inr (.inr (.inr (.inl ⟨h1, h2, rfl, h3, h4, h5, h6, rfl⟩)))))))
    cases hWn : Wn
    · exact .inr (.inr (.inr (.inr (.inr (.inr (.inr (.inr (.inl ⟨h1, h2, rfl, h3, h4, h5, h6, rfl, rfl⟩))))))))
    · exact .inr (.inr (.inr (.inr (.inr (.inr (.inr (.inr (.inr ⟨h1, h2, rfl, h3, h4, h5, h6, rfl, rfl⟩))))))))
  rcases cs with h1 | ⟨h1, h2⟩ | ⟨h1, h2, hFv⟩ | ⟨h1, h2, hFv, h3⟩ | ⟨h1, h2, hFv, h3, h4⟩ | ⟨h1, h2, hFv, h3, h4, h5⟩ | ⟨h1, h2, hFv, h3, h4, h5, h6⟩ | ⟨h1, h2, hFv, h3, h4, h5, h6, hWov⟩ | ⟨h1, h2, hFv, h3, h4, h5, h6, hWov, hWnv⟩ | ⟨h1, h2, hFv, h3, h4, h5, h6, hWov, hWnv⟩
  all_goals
    (try (have HFv := Hd hFv; clear hFv))
    (try (have HWov := Hd hWov; clear hWov))
    (try (have HWnv := Hd hWnv; clear hWnv))
    go_enter Try.func41, Try.ntmps41
    go_wp2_with ((with_reducible refine sl 1 ?_); (refine z1f rfl 27 (.tmp 0) rfl v.cells.toArray rfl ?_); intro w1 hg1 hb1; have HG1 := Hd hg1; have hE__ := cU HB bup hb1; replace HB := ck HB hE__; clear hE__; clear hg1 hb1; simp only [PT])
    refine wp_region_held_drew (S := fun u => u.rangeAt w.heap.size 0 v.cells ∧ u.cell? ⟨w.heap.size, 0, none⟩ = some (.int .i64 v.kind) ∧ u.cell? ⟨w.heap.size, 3, none⟩ = some (.int .i64 v.link) ∧ u.cell? ⟨w.heap.size, 5, none⟩ = some (.int .i64 v.iface) ∧ u.cell? ⟨w.heap.size, 9, none⟩ = some (.slice v.nad v.nn v.nc) ∧ u.cell? ⟨w.heap.size, 10, none⟩ = some (.slice v.oad v.on v.oc)) (by kernel_rfl) ?_ (fun hHeld => ?_); (focus (exact blkS HG1.out)); (refine tk 0 (oi := ⟨some 4, _, _, _, _, _⟩) (v := ?_) rfl (by kernel_rfl) (.inl ⟨by rfl, ?_⟩) hHeld ?_; rotate_left; focus (intro w hSw; (try dsimp only at hSw); go_simp; try with_reducible rfl)); simp only [PT]; (refine tk 1 (oi := ⟨some 5, _, _, _, _, _⟩) (v := ?_) rfl (by kernel_rfl) (.inl ⟨by rfl, ?_⟩) hHeld ?_; rotate_left; focus (intro w hSw; (try dsimp only at hSw); go_simp; try with_reducible rfl)); simp only [PT]; (first | (refine' tk 2 (oi := ⟨some 6, _, _, _, _, _⟩) (v := (.bool false)) rfl (by kernel_rfl) (.inl ⟨by rfl, ?_⟩) hHeld ?_; focus (intro w hSw; (try dsimp only at hSw); go_simp; first | done | rfl | (simp [*]; done) | (simp [*]; omega))) | (refine' tk 2 (oi := ⟨some 6, _, _, _, _, _⟩) (v := (.bool true)) rfl (by kernel_rfl) (.inl ⟨by rfl, ?_⟩) hHeld ?_; focus (intro w hSw; (try dsimp only at hSw); go_simp; first | done | rfl | (simp [*]; done) | (simp [*]; omega)))); simp only [PT]; (refine tk 3 (oi := ⟨some 7, _, _, _, _, _⟩) (v := ?_) rfl (by kernel_rfl) (.inl ⟨by rfl, ?_⟩) hHeld ?_; rotate_left; focus (intro w hSw; (try dsimp only at hSw); go_simp; try with_reducible rfl)); simp only [PT]; (first | (refine tk 4 (oi := ⟨some 8, _, _, _, _, _⟩) (v := undef) rfl (by kernel_rfl) (.inr ⟨by rfl, rfl⟩) hHeld ?_) | (refine tk 4 (oi := ⟨some 8, _, _, _, _, _⟩) (v := ?_) rfl (by kernel_rfl) (.inl ⟨by rfl, ?_⟩) hHeld ?_; rotate_left; focus (intro w hSw; (try dsimp only at hSw); go_simp; try with_reducible rfl))); simp only [PT]; (first | (refine tk 5 (oi := ⟨some 9, _, _, _, _, _⟩) (v := undef) rfl (by kernel_rfl) (.inr ⟨by rfl, rfl⟩) hHeld ?_) | (refine tk 5 (oi := ⟨some 9, _, _, _, _, _⟩) (v := ?_) rfl (by kernel_rfl) (.inl ⟨by rfl, ?_⟩) hHeld ?_; rotate_left; focus (intro w hSw; (try dsimp only at hSw); go_simp; try with_reducible rfl))); simp only [PT]; (first | (refine tk 6 (oi := ⟨some 10, _, _, _, _, _⟩) (v := undef) rfl (by kernel_rfl) (.inr ⟨by rfl, rfl⟩) hHeld ?_) | (refine' tk 6 (oi := ⟨some 10, _, _, _, _, _⟩) (v := (.bool false)) rfl (by kernel_rfl) (.inl ⟨by rfl, ?_⟩) hHeld ?_; focus (intro w hSw; (try dsimp only at hSw); go_simp; first | done | rfl | (simp [*]; done) | (simp [*]; omega))) | (refine' tk 6 (oi := ⟨some 10, _, _, _, _, _⟩) (v := (.bool true)) rfl (by kernel_rfl) (.inl ⟨by rfl, ?_⟩) hHeld ?_; focus (intro w hSw; (try dsimp only at hSw); go_simp; first | done | rfl | (simp [*]; done) | (simp [*]; omega)))); simp only [PT]; (refine tk 7 (oi := ⟨some 11, _, _, _, _, _⟩) (v := ?_) rfl (by kernel_rfl) (.inl ⟨by rfl, ?_⟩) hHeld ?_; rotate_left; focus (intro w hSw; (try dsimp only at hSw); go_simp; try with_reducible rfl)); simp only [PT]; (refine tk 8 (oi := ⟨some 12, _, _, _, _, _⟩) (v := ?_) rfl (by kernel_rfl) (.inl ⟨by rfl, ?_⟩) hHeld ?_; rotate_left; focus (intro w hSw; (try dsimp only at hSw); go_simp; try with_reducible rfl)); simp only [PT]; (first | (refine tk 9 (oi := ⟨some 13, _, _, _, _, _⟩) (v := undef) rfl (by kernel_rfl) (.inr ⟨by rfl, rfl⟩) hHeld ?_) | (refine' tk 9 (oi := ⟨some 13, _, _, _, _, _⟩) (v := _) rfl (by kernel_rfl) (yieldsIf_load_mid (by rfl) _ _ rfl _ _ rfl (v.cells) _ (fun u hu => hu.1) (Try.underlying27) rfl (HBI.out)) hHeld ?_)); simp only [PT]; (first | (refine tk 10 (oi := ⟨some 14, _, _, _, _, _⟩) (v := undef) rfl (by kernel_rfl) (.inr ⟨by rfl, rfl⟩) hHeld ?_) | (refine' tk 10 (oi := ⟨some 14, _, _, _, _, _⟩) (v := _) rfl (by kernel_rfl) (yieldsIf_load_mid (by rfl) _ _ rfl _ _ rfl (v.cells) _ (fun u hu => hu.1) (Try.underlying27) rfl (HBI.out)) hHeld ?_)); simp only [PT]
    refine wpAnyH_ready (rs := [11]) (by kernel_rfl) (by simp) ?_; refine (AllReadyH.cons (o := ⟨some 15, _, _, _, _, _⟩) rfl (fun K hK => ?_) AllReadyH.nil); (focus (first | (refine skip_if ?_ ?_; focus (simp [Region.wanted, yielded, undef]; done)) | (go_simp; (refine (only_any v _ (by omega) (by omega)).mono ?_); rintro e w5 ⟨rfl, hb5⟩; have hE__ := cU HB bup hb5; replace HB := ck HB hE__; replace HG1 := ck HG1 hE__; clear hE__; clear hb5; go_wp2_with fail))); refine hK.out _ _ ?_ (fun hHeld => ?_); (focus (exact blkS HG1.out)); clear hK K; (try simp only [PT]); refine wpAnyH_ready (rs := [12]) (by kernel_rfl) (by simp) ?_; refine (AllReadyH.cons (o := ⟨some 16, _, _, _, _, _⟩) rfl (fun K hK => ?_) AllReadyH.nil); (focus (first | (refine skip_if ?_ ?_; focus (simp [Region.wanted, yielded, undef]; done)) | (go_simp; (refine (blkSame_any v (onlyV v) _ (HV.out.below (HB.out.trans (Below.mono bup HB.out.size))) ((HV.out.only).below (HB.out.trans (Below.mono bup HB.out.size)))).mono ?_); intro e w6 hr; rw [only_fits v (by omega) (by omega), ← HF.out, HFv.out] at hr; obtain ⟨rfl, hb6⟩ := hr; have hE__ := cU HB bup hb6; replace HB := ck HB hE__; replace HG1 := ck HG1 hE__; clear hE__; clear hb6; go_wp2_with fail))); refine hK.out _ _ ?_ (fun hHeld => ?_); (focus (exact blkS HG1.out)); clear hK K; (try simp only [PT]); (first | (refine tk 13 (oi := ⟨some 17, _, _, _, _, _⟩) (v := undef) rfl (by kernel_rfl) (.inr ⟨by rfl, rfl⟩) hHeld ?_) | (refine tk 13 (oi := ⟨some 17, _, _, _, _, _⟩) (v := ?_) rfl (by kernel_rfl) (.inl ⟨by rfl, ?_⟩) hHeld ?_; rotate_left; focus (intro w hSw; (try dsimp only at hSw); go_simp; try with_reducible rfl))); simp only [PT]; (refine tk 14 (oi := ⟨some 18, _, _, _, _, _⟩) (v := ?_) rfl (by kernel_rfl) (.inl ⟨by rfl, ?_⟩) hHeld ?_; rotate_left; focus (intro w hSw; (try dsimp only at hSw); go_simp; try with_reducible rfl)); simp only [PT]; (refine tk 15 (oi := ⟨some 19, _, _, _, _, _⟩) (v := ?_) rfl (by kernel_rfl) (.inl ⟨by rfl, ?_⟩) hHeld ?_; rotate_left; focus (intro w hSw; (try dsimp only at hSw); go_simp; try with_reducible rfl)); simp only [PT]; (first | (refine tk 16 (oi := ⟨some 20, _, _, _, _, _⟩) (v := undef) rfl (by kernel_rfl) (.inr ⟨by rfl, rfl⟩) hHeld ?_) | (refine tk 16 (oi := ⟨some 20, _, _, _, _, _⟩) (v := ?_) rfl (by kernel_rfl) (.inl ⟨by rfl, ?_⟩) hHeld ?_; rotate_left; focus (intro w hSw; (try dsimp only at hSw); go_simp; try with_reducible rfl))); simp only [PT]; (first | (refine tk 17 (oi := ⟨some 21, _, _, _, _, _⟩) (v := undef) rfl (by kernel_rfl) (.inr ⟨by rfl, rfl⟩) hHeld ?_) | (refine tk 17 (oi := ⟨some 21, _, _, _, _, _⟩) (v := ?_) rfl (by kernel_rfl) (.inl ⟨by rfl, ?_⟩) hHeld ?_; rotate_left; focus (intro w hSw; (try dsimp only at hSw); go_simp; try with_reducible rfl))); simp only [PT]; (first | (refine tk 18 (oi := ⟨some 22, _, _, _, _, _⟩) (v := undef) rfl (by kernel_rfl) (.inr ⟨by rfl, rfl⟩) hHeld ?_) | (refine' tk 18 (oi := ⟨some 22, _, _, _, _, _⟩) (v := (.bool false)) rfl (by kernel_rfl) (.inl ⟨by rfl, ?_⟩) hHeld ?_; focus (intro w hSw; (try dsimp only at hSw); go_simp; first | done | rfl | (simp [*]; done) | (simp [*]; omega))) | (refine' tk 18 (oi := ⟨some 22, _, _, _, _, _⟩) (v := (.bool true)) rfl (by kernel_rfl) (.inl ⟨by rfl, ?_⟩) hHeld ?_; focus (intro w hSw; (try dsimp only at hSw); go_simp; first | done | rfl | (simp [*]; done) | (simp [*]; omega)))); simp only [PT]; (refine tk 19 (oi := ⟨some 23, _, _, _, _, _⟩) (v := ?_) rfl (by kernel_rfl) (.inl ⟨by rfl, ?_⟩) hHeld ?_; rotate_left; focus (intro w hSw; (try dsimp only at hSw); go_simp; try with_reducible rfl)); simp only [PT]; (refine tk 20 (oi := ⟨some 24, _, _, _, _, _⟩) (v := ?_) rfl (by kernel_rfl) (.inl ⟨by rfl, ?_⟩) hHeld ?_; rotate_left; focus (intro w hSw; (try dsimp only at hSw); go_simp; try with_reducible rfl)); simp only [PT]
    (first | (refine tk 21 (oi := ⟨some 25, _, _, _, _, _⟩) (v := undef) rfl (by kernel_rfl) (.inr ⟨by rfl, rfl⟩) hHeld ?_) | (refine tk 21 (oi := ⟨some 25, _, _, _, _, _⟩) (v := ?_) rfl (by kernel_rfl) (.inl ⟨by rfl, ?_⟩) hHeld ?_; rotate_left; focus (intro w hSw; (try dsimp only at hSw); go_simp; try with_reducible rfl))); simp only [PT]; (first | (refine tk 22 (oi := ⟨some 26, _, _, _, _, _⟩) (v := undef) rfl (by kernel_rfl) (.inr ⟨by rfl, rfl⟩) hHeld ?_) | (refine tk 22 (oi := ⟨some 26, _, _, _, _, _⟩) (v := ?_) rfl (by kernel_rfl) (.inl ⟨by rfl, ?_⟩) hHeld ?_; rotate_left; focus (intro w hSw; (try dsimp only at hSw); go_simp; try with_reducible rfl))); simp only [PT]; (first | (refine tk 23 (oi := ⟨some 27, _, _, _, _, _⟩) (v := undef) rfl (by kernel_rfl) (.inr ⟨by rfl, rfl⟩) hHeld ?_) | (refine' tk 23 (oi := ⟨some 27, _, _, _, _, _⟩) (v := (.bool false)) rfl (by kernel_rfl) (.inl ⟨by rfl, ?_⟩) hHeld ?_; focus (intro w hSw; (try dsimp only at hSw); go_simp; first | done | rfl | (simp [*]; done) | (simp [*]; omega))) | (refine' tk 23 (oi := ⟨some 27, _, _, _, _, _⟩) (v := (.bool true)) rfl (by kernel_rfl) (.inl ⟨by rfl, ?_⟩) hHeld ?_; focus (intro w hSw; (try dsimp only at hSw); go_simp; first | done | rfl | (simp [*]; done) | (simp [*]; omega)))); simp only [PT]; (refine tk 24 (oi := ⟨some 28, _, _, _, _, _⟩) (v := ?_) rfl (by kernel_rfl) (.inl ⟨by rfl, ?_⟩) hHeld ?_; rotate_left; focus (intro w hSw; (try dsimp only at hSw); go_simp; try with_reducible rfl)); simp only [PT]; (refine tk 25 (oi := ⟨some 29, _, _, _, _, _⟩) (v := ?_) rfl (by kernel_rfl) (.inl ⟨by rfl, ?_⟩) hHeld ?_; rotate_left; focus (intro w hSw; (try dsimp only at hSw); go_simp; try with_reducible rfl)); simp only [PT]; (first | (refine tk 26 (oi := ⟨some 30, _, _, _, _, _⟩) (v := undef) rfl (by kernel_rfl) (.inr ⟨by rfl, rfl⟩) hHeld ?_) | (refine tk 26 (oi := ⟨some 30, _, _, _, _, _⟩) (v := ?_) rfl (by kernel_rfl) (.inl ⟨by rfl, ?_⟩) hHeld ?_; rotate_left; focus (intro w hSw; (try dsimp only at hSw); go_simp; try with_reducible rfl))); simp only [PT]; (first | (refine tk 27 (oi := ⟨some 31, _, _, _, _, _⟩) (v := undef) rfl (by kernel_rfl) (.inr ⟨by rfl, rfl⟩) hHeld ?_) | (refine tk 27 (oi := ⟨some 31, _, _, _, _, _⟩) (v := ?_) rfl (by kernel_rfl) (.inl ⟨by rfl, ?_⟩) hHeld ?_; rotate_left; focus (intro w hSw; (try dsimp only at hSw); go_simp; try with_reducible rfl))); simp only [PT]; (first | (refine tk 28 (oi := ⟨some 32, _, _, _, _, _⟩) (v := undef) rfl (by kernel_rfl) (.inr ⟨by rfl, rfl⟩) hHeld ?_) | (refine' tk 28 (oi := ⟨some 32, _, _, _, _, _⟩) (v := (.bool false)) rfl (by kernel_rfl) (.inl ⟨by rfl, ?_⟩) hHeld ?_; focus (intro w hSw; (try dsimp only at hSw); go_simp; first | done | rfl | (simp [*]; done) | (simp [*]; omega))) | (refine' tk 28 (oi := ⟨some 32, _, _, _, _, _⟩) (v := (.bool true)) rfl (by kernel_rfl) (.inl ⟨by rfl, ?_⟩) hHeld ?_; focus (intro w hSw; (try dsimp only at hSw); go_simp; first | done | rfl | (simp [*]; done) | (simp [*]; omega)))); simp only [PT]; (refine tk 29 (oi := ⟨some 33, _, _, _, _, _⟩) (v := ?_) rfl (by kernel_rfl) (.inl ⟨by rfl, ?_⟩) hHeld ?_; rotate_left; focus (intro w hSw; (try dsimp only at hSw); go_simp; try with_reducible rfl)); simp only [PT]; (refine tk 30 (oi := ⟨some 34, _, _, _, _, _⟩) (v := ?_) rfl (by kernel_rfl) (.inl ⟨by rfl, ?_⟩) hHeld ?_; rotate_left; focus (intro w hSw; (try dsimp only at hSw); go_simp; try with_reducible rfl)); simp only [PT]; (first | (refine tk 31 (oi := ⟨some 35, _, _, _, _, _⟩) (v := undef) rfl (by kernel_rfl) (.inr ⟨by rfl, rfl⟩) hHeld ?_) | (refine tk 31 (oi := ⟨some 35, _, _, _, _, _⟩) (v := ?_) rfl (by kernel_rfl) (.inl ⟨by rfl, ?_⟩) hHeld ?_; rotate_left; focus (intro w hSw; (try dsimp only at hSw); go_simp; try with_reducible rfl))); simp only [PT]
    (first | (refine tk 32 (oi := ⟨some 36, _, _, _, _, _⟩) (v := undef) rfl (by kernel_rfl) (.inr ⟨by rfl, rfl⟩) hHeld ?_) | (refine tk 32 (oi := ⟨some 36, _, _, _, _, _⟩) (v := ?_) rfl (by kernel_rfl) (.inl ⟨by rfl, ?_⟩) hHeld ?_; rotate_left; focus (intro w hSw; (try dsimp only at hSw); go_simp; try with_reducible rfl))); simp only [PT]; (first | (refine tk 33 (oi := ⟨some 37, _, _, _, _, _⟩) (v := undef) rfl (by kernel_rfl) (.inr ⟨by rfl, rfl⟩) hHeld ?_) | (refine' tk 33 (oi := ⟨some 37, _, _, _, _, _⟩) (v := (.bool false)) rfl (by kernel_rfl) (.inl ⟨by rfl, ?_⟩) hHeld ?_; focus (intro w hSw; (try dsimp only at hSw); go_simp; first | done | rfl | (simp [*]; done) | (simp [*]; omega))) | (refine' tk 33 (oi := ⟨some 37, _, _, _, _, _⟩) (v := (.bool true)) rfl (by kernel_rfl) (.inl ⟨by rfl, ?_⟩) hHeld ?_; focus (intro w hSw; (try dsimp only at hSw); go_simp; first | done | rfl | (simp [*]; done) | (simp [*]; omega)))); simp only [PT]; (refine tk 34 (oi := ⟨some 38, _, _, _, _, _⟩) (v := ?_) rfl (by kernel_rfl) (.inl ⟨by rfl, ?_⟩) hHeld ?_; rotate_left; focus (intro w hSw; (try dsimp only at hSw); go_simp; try with_reducible rfl)); simp only [PT]; (refine tk 35 (oi := ⟨some 39, _, _, _, _, _⟩) (v := ?_) rfl (by kernel_rfl) (.inl ⟨by rfl, ?_⟩) hHeld ?_; rotate_left; focus (intro w hSw; (try dsimp only at hSw); go_simp; try with_reducible rfl)); simp only [PT]; (first | (refine tk 36 (oi := ⟨some 40, _, _, _, _, _⟩) (v := undef) rfl (by kernel_rfl) (.inr ⟨by rfl, rfl⟩) hHeld ?_) | (refine tk 36 (oi := ⟨some 40, _, _, _, _, _⟩) (v := ?_) rfl (by kernel_rfl) (.inl ⟨by rfl, ?_⟩) hHeld ?_; rotate_left; focus (intro w hSw; (try dsimp only at hSw); go_simp; try with_reducible rfl))); simp only [PT]; (first | (refine tk 37 (oi := ⟨some 41, _, _, _, _, _⟩) (v := undef) rfl (by kernel_rfl) (.inr ⟨by rfl, rfl⟩) hHeld ?_) | (refine tk 37 (oi := ⟨some 41, _, _, _, _, _⟩) (v := ?_) rfl (by kernel_rfl) (.inl ⟨by rfl, ?_⟩) hHeld ?_; rotate_left; focus (intro w hSw; (try dsimp only at hSw); go_simp; try with_reducible rfl))); simp only [PT]; refine wpAnyH_ready (rs := [38]) (by kernel_rfl) (by simp) ?_; refine (AllReadyH.cons (o := ⟨some 42, _, _, _, _, _⟩) rfl (fun K hK => ?_) AllReadyH.nil); (focus (first | (refine skip_if ?_ ?_; focus (simp [Region.wanted, yielded, undef]; done)) | (go_simp; (refine (fine_any v.oad v.on v.oc v.os _ (HV.out.2.2.below (HB.out.trans (Below.mono bup HB.out.size))) z2).mono ?_); intro e w7 hr; rw [← HWo.out, HWov.out] at hr; obtain ⟨rfl, hb7⟩ := hr; have hE__ := cU HB bup hb7; replace HB := ck HB hE__; replace HG1 := ck HG1 hE__; clear hE__; clear hb7; go_wp2_with fail))); refine hK.out _ _ ?_ (fun hHeld => ?_); (focus (exact blkS HG1.out)); clear hK K; (try simp only [PT]); (first | (refine tk 39 (oi := ⟨some 43, _, _, _, _, _⟩) (v := undef) rfl (by kernel_rfl) (.inr ⟨by rfl, rfl⟩) hHeld ?_) | (refine tk 39 (oi := ⟨some 43, _, _, _, _, _⟩) (v := ?_) rfl (by kernel_rfl) (.inl ⟨by rfl, ?_⟩) hHeld ?_; rotate_left; focus (intro w hSw; (try dsimp only at hSw); go_simp; try with_reducible rfl))); simp only [PT]; (refine tk 40 (oi := ⟨some 44, _, _, _, _, _⟩) (v := ?_) rfl (by kernel_rfl) (.inl ⟨by rfl, ?_⟩) hHeld ?_; rotate_left; focus (intro w hSw; (try dsimp only at hSw); go_simp; try with_reducible rfl)); simp only [PT]; (refine tk 41 (oi := ⟨some 45, _, _, _, _, _⟩) (v := ?_) rfl (by kernel_rfl) (.inl ⟨by rfl, ?_⟩) hHeld ?_; rotate_left; focus (intro w hSw; (try dsimp only at hSw); go_simp; try with_reducible rfl)); simp only [PT]; (first | (refine tk 42 (oi := ⟨some 46, _, _, _, _, _⟩) (v := undef) rfl (by kernel_rfl) (.inr ⟨by rfl, rfl⟩) hHeld ?_) | (refine tk 42 (oi := ⟨some 46, _, _, _, _, _⟩) (v := ?_) rfl (by kernel_rfl) (.inl ⟨by rfl, ?_⟩) hHeld ?_; rotate_left; focus (intro w hSw; (try dsimp only at hSw); go_simp; try with_reducible rfl))); simp only [PT]
    (first | (refine tk 43 (oi := ⟨some 47, _, _, _, _, _⟩) (v := undef) rfl (by kernel_rfl) (.inr ⟨by rfl, rfl⟩) hHeld ?_) | (refine tk 43 (oi := ⟨some 47, _, _, _, _, _⟩) (v := ?_) rfl (by kernel_rfl) (.inl ⟨by rfl, ?_⟩) hHeld ?_; rotate_left; focus (intro w hSw; (try dsimp only at hSw); go_simp; try with_reducible rfl))); simp only [PT]; refine wpAnyH_ready (rs := [44]) (by kernel_rfl) (by simp) ?_; refine (AllReadyH.cons (o := ⟨some 48, _, _, _, _, _⟩) rfl (fun K hK => ?_) AllReadyH.nil); (focus (first | (refine skip_if ?_ ?_; focus (simp [Region.wanted, yielded, undef]; done)) | (go_simp; (refine (fine_any v.nad v.nn v.nc v.ns _ (HV.out.2.1.below (HB.out.trans (Below.mono bup HB.out.size))) z1).mono ?_); intro e w8 hr; rw [← HWn.out, HWnv.out] at hr; obtain ⟨rfl, hb8⟩ := hr; have hE__ := cU HB bup hb8; replace HB := ck HB hE__; replace HG1 := ck HG1 hE__; clear hE__; clear hb8; go_wp2_with fail))); refine hK.out _ _ ?_ (fun hHeld => ?_); (focus (exact blkS HG1.out)); clear hK K; (try simp only [PT]); (first | (refine tk 45 (oi := ⟨some 49, _, _, _, _, _⟩) (v := undef) rfl (by kernel_rfl) (.inr ⟨by rfl, rfl⟩) hHeld ?_) | (refine tk 45 (oi := ⟨some 49, _, _, _, _, _⟩) (v := ?_) rfl (by kernel_rfl) (.inl ⟨by rfl, ?_⟩) hHeld ?_; rotate_left; focus (intro w hSw; (try dsimp only at hSw); go_simp; try with_reducible rfl))); simp only [PT]; (refine tk 46 (oi := ⟨some 50, _, _, _, _, _⟩) (v := ?_) rfl (by kernel_rfl) (.inl ⟨by rfl, ?_⟩) hHeld ?_; rotate_left; focus (intro w hSw; (try dsimp only at hSw); go_simp; try with_reducible rfl)); simp only [PT]; refine wpAnyH_done (by kernel_rfl) ?_ _
    obtain ⟨c0, c1, c2, c3, c4, c5, c6, c7, c8, c9, c10⟩ := z03 HG1.out
  rotate_right 1
  · by_cases hk4 : v.kind = 4
    · have hk7 : ¬ v.kind = 7 := by omega
      by_cases hA : v.dn = v.len
      · have hAi : (v.dn : Int) = (v.len : Int) := by omega
        go_wp2_with (first
 | (go_at_call 58; (refine (z2j v.type _).mono ?_); intro e w9 hr; rw [← HKT.out] at hr; obtain ⟨rfl, hb9⟩ := hr; have hE__ := cU HB bup hb9; replace HB := ck HB hE__; clear hE__; clear hb9))
        all_goals
          go_ret
          refine ⟨?_, HB.out.trans (Below.mono bup HB.out.size)⟩
          rw [HM.out, HFv.out, HWov.out, HWnv.out]
          first
            | (simp [*]; done)
            | (simp [*]; omega)
            | (change Ending.returned (Value.bool ((v.dn : Int) == (v.len : Int) || (v.dn : Int) % 4 == 0)) = _; rw [show ((v.dn : Int) == (v.len : Int)) = false from (by simp; omega), show ((v.dn : Int) % 4 == 0) = false from (by simp; omega)]; simp [*]; done)
            | (change Ending.returned (Value.bool ((v.dn : Int) == (v.len : Int))) = _; rw [show ((v.dn : Int) == (v.len : Int)) = false from (by simp; omega)]; simp [*]; done)
      · have hAi : ¬ (v.dn : Int) = (v.len : Int) := by omega
        by_cases hL : v.dn < v.len
        · have hLi : (v.dn : Int) < (v.len : Int) := by omega
          by_cases hm : v.dn % 4 = 0
          · have hmi : (v.dn : Int) % 4 = 0 := by omega
            go_wp2_with (first
 | (go_at_call 58; (refine (z2j v.type _).mono ?_); intro e w9 hr; rw [← HKT.out] at hr; obtain ⟨rfl, hb9⟩ := hr; have hE__ := cU HB bup hb9; replace HB := ck HB hE__; clear hE__; clear hb9))
            all_goals
              go_ret
              refine ⟨?_, HB.out.trans (Below.mono bup HB.out.size)⟩
              rw [HM.out, HFv.out, HWov.out, HWnv.out]
              first
                | (simp [*]; done)
                | (simp [*]; omega)
                | (change Ending.returned (Value.bool ((v.dn : Int) == (v.len : Int) || (v.dn : Int) % 4 == 0)) = _; rw [show ((v.dn : Int) == (v.len : Int)) = false from (by simp; omega), show ((v.dn : Int) % 4 == 0) = false from (by simp; omega)]; simp [*]; done)
                | (change Ending.returned (Value.bool ((v.dn : Int) == (v.len : Int))) = _; rw [show ((v.dn : Int) == (v.len : Int)) = false from (by simp; omega)]; simp [*]; done)
          · have hmi : ¬ (v.dn : Int) % 4 = 0 := by omega
            go_wp2_with (first
 | (go_at_call 58; (refine (z2j v.type _).mono ?_); intro e w9 hr; rw [← HKT.out] at hr; obtain ⟨rfl, hb9⟩ := hr; have hE__ := cU HB bup hb9; replace HB := ck HB hE__; clear hE__; clear hb9))
            all_goals
              go_ret
              refine ⟨?_, HB.out.trans (Below.mono bup HB.out.size)⟩
              rw [HM.out, HFv.out, HWov.out, HWnv.out]
              first
                | (simp [*]; done)
                | (simp [*]; omega)
                | (change Ending.returned (Value.bool ((v.dn : Int) == (v.len : Int) || (v.dn : Int) % 4 == 0)) = _; rw [show ((v.dn : Int) == (v.len : Int)) = false from (by simp; omega), show ((v.dn : Int) % 4 == 0) = false from (by simp; omega)]; simp [*]; done)
                | (change Ending.returned (Value.bool ((v.dn : Int) == (v.len : Int))) = _; rw [show ((v.dn : Int) == (v.len : Int)) = false from (by simp; omega)]; simp [*]; done)
        · have hLi : ¬ (v.dn : Int) < (v.len : Int) := by omega
          go_wp2_with (first
 | (go_at_call 58; (refine (z2j v.type _).mono ?_); intro e w9 hr; rw [← HKT.out] at hr; obtain ⟨rfl, hb9⟩ := hr; have hE__ := cU HB bup hb9; replace HB := ck HB hE__; clear hE__; clear hb9))
          all_goals
            go_ret
            refine ⟨?_, HB.out.trans (Below.mono bup HB.out.size)⟩
            rw [HM.out, HFv.out, HWov.out, HWnv.out]
            first
              | (simp [*]; done)
              | (simp [*]; omega)
              | (change Ending.returned (Value.bool ((v.dn : Int) == (v.len : Int) || (v.dn : Int) % 4 == 0)) = _; rw [show ((v.dn : Int) == (v.len : Int)) = false from (by simp; omega), show ((v.dn : Int) % 4 == 0) = false from (by simp; omega)]; simp [*]; done)
              | (change Ending.returned (Value.bool ((v.dn : Int) == (v.len : Int))) = _; rw [show ((v.dn : Int) == (v.len : Int)) = false from (by simp; omega)]; simp [*]; done)
    · by_cases hk7 : v.kind = 7
      · by_cases hm : v.dn % 4 = 0
        · have hmi : (v.dn : Int) % 4 = 0 := by omega
          go_wp2_with (first
 | (go_at_call 58; (refine (z2j v.type _).mono ?_); intro e w9 hr; rw [← HKT.out] at hr; obtain ⟨rfl, hb9⟩ := hr; have hE__ := cU HB bup hb9; replace HB := ck HB hE__; clear hE__; clear hb9))
          all_goals
            go_ret
            refine ⟨?_, HB.out.trans (Below.mono bup HB.out.size)⟩
            rw [HM.out, HFv.out, HWov.out, HWnv.out]
            first
              | (simp [*]; done)
              | (simp [*]; omega)
              | (change Ending.returned (Value.bool ((v.dn : Int) == (v.len : Int) || (v.dn : Int) % 4 == 0)) = _; rw [show ((v.dn : Int) == (v.len : Int)) = false from (by simp; omega), show ((v.dn : Int) % 4 == 0) = false from (by simp; omega)]; simp [*]; done)
              | (change Ending.returned (Value.bool ((v.dn : Int) == (v.len : Int))) = _; rw [show ((v.dn : Int) == (v.len : Int)) = false from (by simp; omega)]; simp [*]; done)
        · have hmi : ¬ (v.dn : Int) % 4 = 0 := by omega
          go_wp2_with (first
 | (go_at_call 58; (refine (z2j v.type _).mono ?_); intro e w9 hr; rw [← HKT.out] at hr; obtain ⟨rfl, hb9⟩ := hr; have hE__ := cU HB bup hb9; replace HB := ck HB hE__; clear hE__; clear hb9))
          all_goals
            go_ret
            refine ⟨?_, HB.out.trans (Below.mono bup HB.out.size)⟩
            rw [HM.out, HFv.out, HWov.out, HWnv.out]
            first
              | (simp [*]; done)
              | (simp [*]; omega)
              | (change Ending.returned (Value.bool ((v.dn : Int) == (v.len : Int) || (v.dn : Int) % 4 == 0)) = _; rw [show ((v.dn : Int) == (v.len : Int)) = false from (by simp; omega), show ((v.dn : Int) % 4 == 0) = false from (by simp; omega)]; simp [*]; done)
              | (change Ending.returned (Value.bool ((v.dn : Int) == (v.len : Int))) = _; rw [show ((v.dn : Int) == (v.len : Int)) = false from (by simp; omega)]; simp [*]; done)
      · go_wp2_with (first
 | (go_at_call 58; (refine (z2j v.type _).mono ?_); intro e w9 hr; rw [← HKT.out] at hr; obtain ⟨rfl, hb9⟩ := hr; have hE__ := cU HB bup hb9; replace HB := ck HB hE__; clear hE__; clear hb9))
        all_goals
          go_ret
          refine ⟨?_, HB.out.trans (Below.mono bup HB.out.size)⟩
          rw [HM.out, HFv.out, HWov.out, HWnv.out]
          first
            | (simp [*]; done)
            | (simp [*]; omega)
            | (change Ending.returned (Value.bool ((v.dn : Int) == (v.len : Int) || (v.dn : Int) % 4 == 0)) = _; rw [show ((v.dn : Int) == (v.len : Int)) = false from (by simp; omega), show ((v.dn : Int) % 4 == 0) = false from (by simp; omega)]; simp [*]; done)
            | (change Ending.returned (Value.bool ((v.dn : Int) == (v.len : Int))) = _; rw [show ((v.dn : Int) == (v.len : Int)) = false from (by simp; omega)]; simp [*]; done)
  all_goals
    go_wp2_with fail
    all_goals
      go_ret
      refine ⟨?_, HB.out.trans (Below.mono bup HB.out.size)⟩
      first | rw [HM.out, HFv.out, HWov.out, HWnv.out] | rw [HM.out, HFv.out, HWov.out] | rw [HM.out, HFv.out] | rw [HM.out]
      first
        | (simp [*]; done)
        | (simp [*]; omega)
def fieldN (x : PB) : Nat := if x.kind = 1 then 16 else if x.kind = 2 then 8 else if x.kind = 3 then 20 + x.data.length + padN x.data.length else if x.kind = 4 then 4 + x.data.length + padN x.data.length else if x.kind = 5 then sizeO x.names + 4 else if x.kind = 6 then 12 else x.data.length
theorem sizeB_eq (x : PB) : sizeB x = 12 + sizeA x.opts + fieldN x := by
  have hp : (putAll true x.opts).length = sizeA x.opts := by
    rw [z0q]; unfold sizeA; cases x.opts <;> rfl
  have hf : (fieldsB true x).length = fieldN x := by
    unfold fieldsB fieldN timeB
    repeat' split
    all_goals first | rfl | (simp [z06, z0m, z24, z0w]; done) | (simp [z06, z0m, z24, z0w]; omega)
  unfold sizeB bodyB
  rw [List.length_append, hp, hf]
  omega
theorem blkSize_any (v : BlkV) (w : World) (hv : Blk w v) (hf : SmB v) :
    Calls Try.prog 42 #[.agg v.cells.toArray] w fun e w' => e = .returned (.int .i64 ((sizeB v.val : Nat) : Int)) ∧ Below w.heap.size w w' := by
  obtain ⟨z1, z2, z3⟩ := hf.sizes
  have HB := Hd (Below.refl w.heap.size w)
  have HV := Hd hv
  have HM := Hd (sizeB_eq v.val)
  have hl := hv.lens
  have hlen : v.val.data.length = v.dn := hl.1.symm
  have hnam : v.val.names.length = v.nn := by show (vals v.ns).length = v.nn; rw [z0n]; exact hl.2.1.symm
  unfold fieldN at HM
  rw [hlen, show v.val.kind = v.kind from rfl, show v.val.names = vals v.ns from rfl, show v.val.opts = vals v.os from rfl] at HM
  obtain ⟨M, hM⟩ : ∃ M, M = sizeB v.val := ⟨_, rfl⟩
  rw [← hM] at HM ⊢
  obtain ⟨So, hSo⟩ : ∃ S, S = sizeA (vals v.os) := ⟨_, rfl⟩
  obtain ⟨Sn, hSn⟩ : ∃ S, S = sizeA (vals v.ns) := ⟨_, rfl⟩
  have hSn2 : sizeO (vals v.ns) + 4 = if v.nn = 0 then Sn + 4 else Sn := by
    rw [hSn]; unfold sizeA; rw [z0n, ← hl.2.1]; split <;> omega
  rw [hSn2, ← hSo] at HM
  have hSol : So ≤ 70424 := by rw [hSo]; unfold sizeA; split <;> omega
  have hSnl : Sn ≤ 70424 := by rw [hSn]; unfold sizeA; split <;> omega
  have HSo := Hd hSo
  have HSn := Hd hSn
  obtain ⟨pd, hpd⟩ : ∃ p, p = padN v.dn := ⟨_, rfl⟩
  have hp3 := padN_le v.dn
  rw [← hpd] at HM hp3
  have HPAD : Hid (∀ w : World, Calls Try.prog 72 #[.int .i64 (v.dn : Int)] w fun e w' => e = .returned (.int .i64 (pd : Int)) ∧ w' = w) := Hd (fun w => by rw [hpd]; exact pad_nat v.dn w (by omega))
  have e20 : IntKind.i64.wrap (20 + (v.dn : Int)) = 20 + (v.dn : Int) := by rw [IntKind.wrap_i64]; omega
  have e4 : IntKind.i64.wrap (4 + (v.dn : Int)) = 4 + (v.dn : Int) := by rw [IntKind.wrap_i64]; omega
  have f20 : IntKind.i64.wrap (20 + (v.dn : Int) + (pd : Int)) = 20 + (v.dn : Int) + (pd : Int) := by rw [IntKind.wrap_i64]; omega
  have f4 : IntKind.i64.wrap (4 + (v.dn : Int) + (pd : Int)) = 4 + (v.dn : Int) + (pd : Int) := by rw [IntKind.wrap_i64]; omega
  have g20 : IntKind.i64.wrap (12 + (So : Int) + (20 + (v.dn : Int) + (pd : Int))) = 12 + (So : Int) + (20 + (v.dn : Int) + (pd : Int)) := by rw [IntKind.wrap_i64]; omega
  have g4 : IntKind.i64.wrap (12 + (So : Int) + (4 + (v.dn : Int) + (pd : Int))) = 12 + (So : Int) + (4 + (v.dn : Int) + (pd : Int)) := by rw [IntKind.wrap_i64]; omega
  obtain ⟨Nn, hNn⟩ : ∃ n, n = (if v.nn = 0 then Sn + 4 else Sn) := ⟨_, rfl⟩
  rw [← hNn] at HM
  have hNn0 : v.nn = 0 → Nn = Sn + 4 := fun h => by rw [hNn, if_pos h]
  have hNn1 : ¬ v.nn = 0 → Nn = Sn := fun h => by rw [hNn, if_neg h]
  clear hv hM hSo hSn hSn2 hl hlen hnam hpd hf hNn
  have hnn : (v.nn = 0 ∧ (v.nn : Int) = 0 ∧ Nn = Sn + 4) ∨ (¬ v.nn = 0 ∧ ¬ (v.nn : Int) = 0 ∧ Nn = Sn) := by
    by_cases h : v.nn = 0
    · exact .inl ⟨h, by omega, hNn0 h⟩
    · exact .inr ⟨h, by omega, hNn1 h⟩
  clear hNn0 hNn1
  have hk : v.kind = 1 ∨ v.kind = 2 ∨ v.kind = 3 ∨ v.kind = 4 ∨ v.kind = 5 ∨ v.kind = 6 ∨ (v.kind ≠ 1 ∧ v.kind ≠ 2 ∧ v.kind ≠ 3 ∧ v.kind ≠ 4 ∧ v.kind ≠ 5 ∧ v.kind ≠ 6) := by omega
  rcases hk with hk | hk | hk | hk | hk | hk | ⟨k1, k2, k3, k4, k5, k6⟩
  · clear hnn
    go_enter Try.func42, Try.ntmps42
    go_wp2_with (first
 | ((with_reducible refine sl 1 ?_); (refine z1f rfl 27 (.tmp 0) rfl v.cells.toArray rfl ?_); intro w1 hg1 hb1; have HG1 := Hd hg1; have hE__ := cU HB bup hb1; replace HB := ck HB hE__; clear hE__; clear hg1 hb1; obtain ⟨c0, c1, c2, c3, c4, c5, c6, c7, c8, c9, c10⟩ := z03 HG1.out; simp only [PT])
 | (go_at_call 71; (with_reducible show Calls _ _ #[Value.slice v.oad _ _] _ _); (refine (z28 v.oad v.on v.oc v.os _ (HV.out.2.2.below (HB.out.trans (Below.mono bup HB.out.size))) (by omega)).mono ?_); intro e w5 hr; rw [← HSo.out] at hr; obtain ⟨rfl, hb5⟩ := hr; have hE__ := cU HB bup hb5; replace HB := ck HB hE__; replace HG1 := ck HG1 hE__; clear hE__; clear hb5 c0 c1 c2 c3 c4 c5 c6 c7 c8 c9 c10; obtain ⟨c0, c1, c2, c3, c4, c5, c6, c7, c8, c9, c10⟩ := z03 HG1.out)
 | (go_at_call 71; (with_reducible show Calls _ _ #[Value.slice v.nad _ _] _ _); (refine (z28 v.nad v.nn v.nc v.ns _ (HV.out.2.1.below (HB.out.trans (Below.mono bup HB.out.size))) (by omega)).mono ?_); intro e w6 hr; rw [← HSn.out] at hr; obtain ⟨rfl, hb5⟩ := hr; have hE__ := cU HB bup hb5; replace HB := ck HB hE__; replace HG1 := ck HG1 hE__; clear hE__; clear hb5 c0 c1 c2 c3 c4 c5 c6 c7 c8 c9 c10; obtain ⟨c0, c1, c2, c3, c4, c5, c6, c7, c8, c9, c10⟩ := z03 HG1.out))
    all_goals
      go_ret
      refine ⟨?_, HB.out.trans (Below.mono bup HB.out.size)⟩
      rw [HM.out]
      first
        | (simp [*]; done)
        | (simp [*]; omega)
        | (simp [*]; split <;> omega)
  · clear hnn
    go_enter Try.func42, Try.ntmps42
    go_wp2_with (first
 | ((with_reducible refine sl 1 ?_); (refine z1f rfl 27 (.tmp 0) rfl v.cells.toArray rfl ?_); intro w1 hg1 hb1; have HG1 := Hd hg1; have hE__ := cU HB bup hb1; replace HB := ck HB hE__; clear hE__; clear hg1 hb1; obtain ⟨c0, c1, c2, c3, c4, c5, c6, c7, c8, c9, c10⟩ := z03 HG1.out; simp only [PT])
 | (go_at_call 71; (with_reducible show Calls _ _ #[Value.slice v.oad _ _] _ _); (refine (z28 v.oad v.on v.oc v.os _ (HV.out.2.2.below (HB.out.trans (Below.mono bup HB.out.size))) (by omega)).mono ?_); intro e w5 hr; rw [← HSo.out] at hr; obtain ⟨rfl, hb5⟩ := hr; have hE__ := cU HB bup hb5; replace HB := ck HB hE__; replace HG1 := ck HG1 hE__; clear hE__; clear hb5 c0 c1 c2 c3 c4 c5 c6 c7 c8 c9 c10; obtain ⟨c0, c1, c2, c3, c4, c5, c6, c7, c8, c9, c10⟩ := z03 HG1.out)
 | (go_at_call 71; (with_reducible show Calls _ _ #[Value.slice v.nad _ _] _ _); (refine (z28 v.nad v.nn v.nc v.ns _ (HV.out.2.1.below (HB.out.trans (Below.mono bup HB.out.size))) (by omega)).mono ?_); intro e w6 hr; rw [← HSn.out] at hr; obtain ⟨rfl, hb5⟩ := hr; have hE__ := cU HB bup hb5; replace HB := ck HB hE__; replace HG1 := ck HG1 hE__; clear hE__; clear hb5 c0 c1 c2 c3 c4 c5 c6 c7 c8 c9 c10; obtain ⟨c0, c1, c2, c3, c4, c5, c6, c7, c8, c9, c10⟩ := z03 HG1.out))
    all_goals
      go_ret
      refine ⟨?_, HB.out.trans (Below.mono bup HB.out.size)⟩
      rw [HM.out]
      first
        | (simp [*]; done)
        | (simp [*]; omega)
        | (simp [*]; split <;> omega)
  · clear hnn
    go_enter Try.func42, Try.ntmps42
    go_wp2_with (first
 | ((with_reducible refine sl 1 ?_); (refine z1f rfl 27 (.tmp 0) rfl v.cells.toArray rfl ?_); intro w1 hg1 hb1; have HG1 := Hd hg1; have hE__ := cU HB bup hb1; replace HB := ck HB hE__; clear hE__; clear hg1 hb1; obtain ⟨c0, c1, c2, c3, c4, c5, c6, c7, c8, c9, c10⟩ := z03 HG1.out; simp only [PT])
 | (go_at_call 71; (with_reducible show Calls _ _ #[Value.slice v.oad _ _] _ _); (refine (z28 v.oad v.on v.oc v.os _ (HV.out.2.2.below (HB.out.trans (Below.mono bup HB.out.size))) (by omega)).mono ?_); intro e w5 hr; rw [← HSo.out] at hr; obtain ⟨rfl, hb5⟩ := hr; have hE__ := cU HB bup hb5; replace HB := ck HB hE__; replace HG1 := ck HG1 hE__; clear hE__; clear hb5 c0 c1 c2 c3 c4 c5 c6 c7 c8 c9 c10; obtain ⟨c0, c1, c2, c3, c4, c5, c6, c7, c8, c9, c10⟩ := z03 HG1.out)
 | (go_at_call 71; (with_reducible show Calls _ _ #[Value.slice v.nad _ _] _ _); (refine (z28 v.nad v.nn v.nc v.ns _ (HV.out.2.1.below (HB.out.trans (Below.mono bup HB.out.size))) (by omega)).mono ?_); intro e w6 hr; rw [← HSn.out] at hr; obtain ⟨rfl, hb5⟩ := hr; have hE__ := cU HB bup hb5; replace HB := ck HB hE__; replace HG1 := ck HG1 hE__; clear hE__; clear hb5 c0 c1 c2 c3 c4 c5 c6 c7 c8 c9 c10; obtain ⟨c0, c1, c2, c3, c4, c5, c6, c7, c8, c9, c10⟩ := z03 HG1.out))
    go_quiet ((go_at_call 72; exact Calls.quiet_of_same (HPAD.out _)))
    go_wp2_with fail
    all_goals
      go_ret
      refine ⟨?_, HB.out.trans (Below.mono bup HB.out.size)⟩
      rw [HM.out]
      first
        | (simp [*]; done)
        | (simp [*]; omega)
        | (simp [*]; split <;> omega)
  · clear hnn
    go_enter Try.func42, Try.ntmps42
    go_wp2_with (first
 | ((with_reducible refine sl 1 ?_); (refine z1f rfl 27 (.tmp 0) rfl v.cells.toArray rfl ?_); intro w1 hg1 hb1; have HG1 := Hd hg1; have hE__ := cU HB bup hb1; replace HB := ck HB hE__; clear hE__; clear hg1 hb1; obtain ⟨c0, c1, c2, c3, c4, c5, c6, c7, c8, c9, c10⟩ := z03 HG1.out; simp only [PT])
 | (go_at_call 71; (with_reducible show Calls _ _ #[Value.slice v.oad _ _] _ _); (refine (z28 v.oad v.on v.oc v.os _ (HV.out.2.2.below (HB.out.trans (Below.mono bup HB.out.size))) (by omega)).mono ?_); intro e w5 hr; rw [← HSo.out] at hr; obtain ⟨rfl, hb5⟩ := hr; have hE__ := cU HB bup hb5; replace HB := ck HB hE__; replace HG1 := ck HG1 hE__; clear hE__; clear hb5 c0 c1 c2 c3 c4 c5 c6 c7 c8 c9 c10; obtain ⟨c0, c1, c2, c3, c4, c5, c6, c7, c8, c9, c10⟩ := z03 HG1.out)
 | (go_at_call 71; (with_reducible show Calls _ _ #[Value.slice v.nad _ _] _ _); (refine (z28 v.nad v.nn v.nc v.ns _ (HV.out.2.1.below (HB.out.trans (Below.mono bup HB.out.size))) (by omega)).mono ?_); intro e w6 hr; rw [← HSn.out] at hr; obtain ⟨rfl, hb5⟩ := hr; have hE__ := cU HB bup hb5; replace HB := ck HB hE__; replace HG1 := ck HG1 hE__; clear hE__; clear hb5 c0 c1 c2 c3 c4 c5 c6 c7 c8 c9 c10; obtain ⟨c0, c1, c2, c3, c4, c5, c6, c7, c8, c9, c10⟩ := z03 HG1.out))
    go_quiet ((go_at_call 72; exact Calls.quiet_of_same (HPAD.out _)))
    go_wp2_with fail
    all_goals
      go_ret
      refine ⟨?_, HB.out.trans (Below.mono bup HB.out.size)⟩
      rw [HM.out]
      first
        | (simp [*]; done)
        | (simp [*]; omega)
        | (simp [*]; split <;> omega)
  · rcases hnn with ⟨n1, n2, n3⟩ | ⟨n1, n2, n3⟩
    all_goals
     have N3 := Hd n3
     clear n1 n3
     go_enter Try.func42, Try.ntmps42
     go_wp2_with (first
 | ((with_reducible refine sl 1 ?_); (refine z1f rfl 27 (.tmp 0) rfl v.cells.toArray rfl ?_); intro w1 hg1 hb1; have HG1 := Hd hg1; have hE__ := cU HB bup hb1; replace HB := ck HB hE__; clear hE__; clear hg1 hb1; obtain ⟨c0, c1, c2, c3, c4, c5, c6, c7, c8, c9, c10⟩ := z03 HG1.out; simp only [PT])
 | (go_at_call 71; (with_reducible show Calls _ _ #[Value.slice v.oad _ _] _ _); (refine (z28 v.oad v.on v.oc v.os _ (HV.out.2.2.below (HB.out.trans (Below.mono bup HB.out.size))) (by omega)).mono ?_); intro e w5 hr; rw [← HSo.out] at hr; obtain ⟨rfl, hb5⟩ := hr; have hE__ := cU HB bup hb5; replace HB := ck HB hE__; replace HG1 := ck HG1 hE__; clear hE__; clear hb5 c0 c1 c2 c3 c4 c5 c6 c7 c8 c9 c10; obtain ⟨c0, c1, c2, c3, c4, c5, c6, c7, c8, c9, c10⟩ := z03 HG1.out)
 | (go_at_call 71; (with_reducible show Calls _ _ #[Value.slice v.nad _ _] _ _); (refine (z28 v.nad v.nn v.nc v.ns _ (HV.out.2.1.below (HB.out.trans (Below.mono bup HB.out.size))) (by omega)).mono ?_); intro e w6 hr; rw [← HSn.out] at hr; obtain ⟨rfl, hb5⟩ := hr; have hE__ := cU HB bup hb5; replace HB := ck HB hE__; replace HG1 := ck HG1 hE__; clear hE__; clear hb5 c0 c1 c2 c3 c4 c5 c6 c7 c8 c9 c10; obtain ⟨c0, c1, c2, c3, c4, c5, c6, c7, c8, c9, c10⟩ := z03 HG1.out))
     all_goals
      go_ret
      refine ⟨?_, HB.out.trans (Below.mono bup HB.out.size)⟩
      rw [HM.out, N3.out]
      first
        | (simp [*]; done)
        | (simp [*]; omega)
        | (simp [*]; split <;> omega)
  · clear hnn
    go_enter Try.func42, Try.ntmps42
    go_wp2_with (first
 | ((with_reducible refine sl 1 ?_); (refine z1f rfl 27 (.tmp 0) rfl v.cells.toArray rfl ?_); intro w1 hg1 hb1; have HG1 := Hd hg1; have hE__ := cU HB bup hb1; replace HB := ck HB hE__; clear hE__; clear hg1 hb1; obtain ⟨c0, c1, c2, c3, c4, c5, c6, c7, c8, c9, c10⟩ := z03 HG1.out; simp only [PT])
 | (go_at_call 71; (with_reducible show Calls _ _ #[Value.slice v.oad _ _] _ _); (refine (z28 v.oad v.on v.oc v.os _ (HV.out.2.2.below (HB.out.trans (Below.mono bup HB.out.size))) (by omega)).mono ?_); intro e w5 hr; rw [← HSo.out] at hr; obtain ⟨rfl, hb5⟩ := hr; have hE__ := cU HB bup hb5; replace HB := ck HB hE__; replace HG1 := ck HG1 hE__; clear hE__; clear hb5 c0 c1 c2 c3 c4 c5 c6 c7 c8 c9 c10; obtain ⟨c0, c1, c2, c3, c4, c5, c6, c7, c8, c9, c10⟩ := z03 HG1.out)
 | (go_at_call 71; (with_reducible show Calls _ _ #[Value.slice v.nad _ _] _ _); (refine (z28 v.nad v.nn v.nc v.ns _ (HV.out.2.1.below (HB.out.trans (Below.mono bup HB.out.size))) (by omega)).mono ?_); intro e w6 hr; rw [← HSn.out] at hr; obtain ⟨rfl, hb5⟩ := hr; have hE__ := cU HB bup hb5; replace HB := ck HB hE__; replace HG1 := ck HG1 hE__; clear hE__; clear hb5 c0 c1 c2 c3 c4 c5 c6 c7 c8 c9 c10; obtain ⟨c0, c1, c2, c3, c4, c5, c6, c7, c8, c9, c10⟩ := z03 HG1.out))
    all_goals
      go_ret
      refine ⟨?_, HB.out.trans (Below.mono bup HB.out.size)⟩
      rw [HM.out]
      first
        | (simp [*]; done)
        | (simp [*]; omega)
        | (simp [*]; split <;> omega)
  · clear hnn
    go_enter Try.func42, Try.ntmps42
    go_wp2_with (first
 | ((with_reducible refine sl 1 ?_); (refine z1f rfl 27 (.tmp 0) rfl v.cells.toArray rfl ?_); intro w1 hg1 hb1; have HG1 := Hd hg1; have hE__ := cU HB bup hb1; replace HB := ck HB hE__; clear hE__; clear hg1 hb1; obtain ⟨c0, c1, c2, c3, c4, c5, c6, c7, c8, c9, c10⟩ := z03 HG1.out; simp only [PT])
 | (go_at_call 71; (with_reducible show Calls _ _ #[Value.slice v.oad _ _] _ _); (refine (z28 v.oad v.on v.oc v.os _ (HV.out.2.2.below (HB.out.trans (Below.mono bup HB.out.size))) (by omega)).mono ?_); intro e w5 hr; rw [← HSo.out] at hr; obtain ⟨rfl, hb5⟩ := hr; have hE__ := cU HB bup hb5; replace HB := ck HB hE__; replace HG1 := ck HG1 hE__; clear hE__; clear hb5 c0 c1 c2 c3 c4 c5 c6 c7 c8 c9 c10; obtain ⟨c0, c1, c2, c3, c4, c5, c6, c7, c8, c9, c10⟩ := z03 HG1.out)
 | (go_at_call 71; (with_reducible show Calls _ _ #[Value.slice v.nad _ _] _ _); (refine (z28 v.nad v.nn v.nc v.ns _ (HV.out.2.1.below (HB.out.trans (Below.mono bup HB.out.size))) (by omega)).mono ?_); intro e w6 hr; rw [← HSn.out] at hr; obtain ⟨rfl, hb5⟩ := hr; have hE__ := cU HB bup hb5; replace HB := ck HB hE__; replace HG1 := ck HG1 hE__; clear hE__; clear hb5 c0 c1 c2 c3 c4 c5 c6 c7 c8 c9 c10; obtain ⟨c0, c1, c2, c3, c4, c5, c6, c7, c8, c9, c10⟩ := z03 HG1.out))
    all_goals
      go_ret
      refine ⟨?_, HB.out.trans (Below.mono bup HB.out.size)⟩
      rw [HM.out]
      first
        | (simp [*]; done)
        | (simp [*]; omega)
        | (simp [*]; split <;> omega)
theorem z33 (v : BlkV) (w : World) (hv : Blk w v) (hf : SmB v) (hl : v.len < 4294967296) :
    Calls Try.prog 19 #[.agg v.cells.toArray] w fun e w' => e = .returned (.bool (rightP v.val)) ∧ Below w.heap.size w w' := by
  have HB := Hd (Below.refl w.heap.size w)
  have HV := Hd hv
  have HF := Hd hf
  have HBI := Hd z0d
  obtain ⟨m, hm⟩ : ∃ m, m = mayP v.val := ⟨_, rfl⟩
  obtain ⟨s, hs⟩ : ∃ s, s = sizeB v.val := ⟨_, rfl⟩
  have HM := Hd hm
  have HS := Hd hs
  have HR : Hid (rightP v.val = (m && decide (s ≤ 1048576))) := Hd (by rw [hm, hs]; rfl)
  have hd : (s ≤ 1048576 ∧ (s : Int) ≤ 1048576) ∨ (¬ s ≤ 1048576 ∧ ¬ (s : Int) ≤ 1048576) := by omega
  clear hv hf hm hs
  cases m
  all_goals
    rcases hd with ⟨d1, d2⟩ | ⟨d1, d2⟩
    all_goals
      go_enter Try.func19, Try.ntmps19
      go_wp2_with (first
 | ((with_reducible refine sl 1 ?_); (refine z1f rfl 27 (.tmp 0) rfl v.cells.toArray rfl ?_); intro w1 hg1 hb1; have HG1 := Hd hg1; have hE__ := cU HB bup hb1; replace HB := ck HB hE__; clear hE__; clear hg1 hb1; simp only [PT])
 | ((with_reducible refine sl 3 ?_); refine z05 rfl 27 (.tmp 1) rfl w.heap.size 0 rfl v.cells _ (z00 HG1.out) Try.underlying27 rfl HBI.out ?_; simp only [PT])
 | ((with_reducible refine sl 6 ?_); refine z05 rfl 27 (.tmp 1) rfl w.heap.size 0 rfl v.cells _ (z00 HG1.out) Try.underlying27 rfl HBI.out ?_; simp only [PT])
 | (go_at_call 41; refine (may_any v _ (HV.out.below (HB.out.trans (Below.mono bup HB.out.size))) HF.out hl).mono ?_; intro e w5 hr; rw [← HM.out] at hr; obtain ⟨rfl, hb5⟩ := hr; have hE__ := cU HB bup hb5; replace HB := ck HB hE__; replace HG1 := ck HG1 hE__; clear hE__; clear hb5)
 | (go_at_call 42; refine (blkSize_any v _ (HV.out.below (HB.out.trans (Below.mono bup HB.out.size))) HF.out).mono ?_; intro e w6 hr; rw [← HS.out] at hr; obtain ⟨rfl, hb6⟩ := hr; have hE__ := cU HB bup hb6; replace HB := ck HB hE__; replace HG1 := ck HG1 hE__; clear hE__; clear hb6))
      all_goals
        go_ret
        refine ⟨?_, HB.out.trans (Below.mono bup HB.out.size)⟩
        rw [HR.out]
        first
          | rfl
          | (simp [d1]; done)
          | (simp [d1, d2]; done)
def OutB (base g5 g3 : Nat) (big : Bool) (w : World) (L : List UInt8) : Prop :=
  ∃ ad c, w.heap[g5]? = some (.cells #[.slice ad L.length c] 24 (0, 0)) ∧ w.ownsRow base 5 1 (.slice ad L.length c) L.length (BV L) ∧ w.heap[g3]? = some (.cells #[.bool big] 4 (0, 0)) ∧ g5 < base ∧ g3 < base ∧ g3 ≠ g5 ∧ base ≤ w.heap.size
def Kb (base g5 : Nat) (w w' : World) : Prop := w'.os = w.os ∧ w'.tape = w.tape ∧ w'.output = w.output ∧ w.heap.size ≤ w'.heap.size ∧ ∀ k, k < base → k ≠ g5 → w'.heap[k]? = w.heap[k]?
theorem Kb.refl (base g5 : Nat) (w : World) : Kb base g5 w w := ⟨rfl, rfl, rfl, Nat.le_refl _, fun _ _ _ => rfl⟩
theorem Kb.trans {base g5 : Nat} {a b c : World} (h : Kb base g5 a b) (k : Kb base g5 b c) : Kb base g5 a c :=
  ⟨k.1.trans h.1, k.2.1.trans h.2.1, k.2.2.1.trans h.2.2.1, Nat.le_trans h.2.2.2.1 k.2.2.2.1, fun i h1 h2 => (k.2.2.2.2 i h1 h2).trans (h.2.2.2.2 i h1 h2)⟩
theorem Kb.of_below {base g5 : Nat} {w w' : World} (h : Below base w w') : Kb base g5 w w' := ⟨h.os, h.tape, h.output, h.size, fun k h1 _ => h.block k h1⟩
theorem Kb.below {base g5 B : Nat} {w0 w w' : World} (h : Below B w0 w) (k : Kb base g5 w w') (hB : B ≤ g5) (hb : g5 < base) : Below B w0 w' :=
  ⟨k.1.trans h.os, k.2.1.trans h.tape, k.2.2.1.trans h.output, Nat.le_trans h.size k.2.2.2.1, fun i hi => (k.2.2.2.2 i (by omega) (by omega)).trans (h.block i hi)⟩
theorem Kb.block {base g5 g : Nat} {w w' : World} {ob : Obj} (k : Kb base g5 w w') (hg : g < base) (hne : g ≠ g5) (h : w.heap[g]? = some ob) : w'.heap[g]? = some ob := (k.2.2.2.2 g hg hne).trans h
theorem Kb.set (base g5 : Nat) (w : World) (j : Nat) (v : Value) : Kb base g5 w (w.setCell ⟨g5, j, none⟩ v) :=
  ⟨rfl, rfl, rfl, by simp [World.setCell], fun k _ hk => Below.heap_setCell _ _ _ _ hk⟩
theorem OutB.below {base g5 g3 : Nat} {big : Bool} {w w' : World} {L : List UInt8} (h : OutB base g5 g3 big w L) (hb : Below w.heap.size w w') : OutB base g5 g3 big w' L := by
  obtain ⟨ad, c, h1, h2, h3, h4, h5, h6, h7⟩ := h
  exact ⟨ad, c, (hb.block _ (lt_of_block h1)).trans h1, z08 h2 hb, (hb.block _ (lt_of_block h3)).trans h3, h4, h5, h6, Nat.le_trans h7 hb.size⟩
theorem own_setCell {w : World} {base g5 j : Nat} {e : TypeId} {size : Nat} {ad : Option Addr} {n c : Nat} {xs : List Value} {v : Value} (h : w.ownsRow base e size (.slice ad n c) n xs) (hg : g5 < base) : (w.setCell ⟨g5, j, none⟩ v).ownsRow base e size (.slice ad n c) n xs := by
  refine h.kept (row := some g5) ⟨rfl, rfl, rfl, by simp [World.setCell], fun k _ hk => Below.heap_setCell _ _ _ _ (fun e => hk (by rw [e]))⟩ ?_
  rcases z29 h with ⟨h0, _⟩ | ⟨g, h1, h2, _⟩
  · rw [h0]; exact .inl rfl
  · rw [h1]
    refine .inr fun e => ?_
    simp [Value.ownBlock] at e
    omega
theorem z2w (base g5 g3 : Nat) (big : Bool) (L : List UInt8) (n : Nat) (size : Int) (hn : n < 18446744073709551616) (hL : L.length ≤ 4000000) (w : World) (h : OutB base g5 g3 big w L) :
    Calls Try.prog 76 #[.int .u64 (n : Int), .int .i64 size, .pointer (some ⟨g5, 0, none⟩), .pointer (some ⟨g3, 0, none⟩)] w fun e w' => e = .returned (.tuple #[]) ∧ OutB base g5 g3 big w' (L ++ putL n size big) ∧ Kb base g5 w w' := by
  obtain ⟨ad, c, h1, h2, h3, h4, h5, h6, h7⟩ := h
  have HG5 := Hd h1
  have HO := Hd h2
  have HG3 := Hd h3
  have HB := Hd (Below.refl w.heap.size w)
  have H7 := Hd h7
  obtain ⟨m, hm⟩ : ∃ m, m = (putL n size big).length := ⟨_, rfl⟩
  have hm8 : m ≤ 8 := by rw [hm, z1n]; unfold sizeOf8; omega
  have HM := Hd hm
  have HN5 := Hd (lt_of_block h1)
  obtain ⟨k, hk⟩ : ∃ k, k = L.length := ⟨_, rfl⟩
  have HK := Hd hk
  rw [← hk] at HG5 HO hL
  have hc5 := cell_of_one HG5.out
  have hc3 := cell_of_one HG3.out
  clear h1 h2 h3 h7 hm hk
  go_enter Try.func76, Try.ntmps76
  refine wp_region_held_drew (S := fun v => v.cell? ⟨g3, 0, none⟩ = some (.bool big)) (by kernel_rfl) ?_ (fun hHeld => ?_); (focus (first | exact cell_of_one HG3.out | exact cell_of_one (z0p h6 HG3.out))); (refine tk 1 (oi := ⟨some 7, _, _, _, _, _⟩) (v := ?_) rfl (by kernel_rfl) (.inl ⟨by rfl, ?_⟩) hHeld ?_; rotate_left; focus (intro w hSw; (try dsimp only at hSw); go_simp; try with_reducible rfl)); simp only [PT]; (refine tk 2 (oi := ⟨some 8, _, _, _, _, _⟩) (v := ?_) rfl (by kernel_rfl) (.inl ⟨by rfl, ?_⟩) hHeld ?_; rotate_left; focus (intro w hSw; (try dsimp only at hSw); go_simp; try with_reducible rfl)); simp only [PT]; (refine tk 3 (oi := ⟨some 9, _, _, _, _, _⟩) (v := ?_) rfl (by kernel_rfl) (.inl ⟨by rfl, ?_⟩) hHeld ?_; rotate_left; focus (intro w hSw; (try dsimp only at hSw); go_simp; try with_reducible rfl)); simp only [PT]; refine wpAnyH_ready (rs := [0, 4]) (by kernel_rfl) (by simp) ?_; refine (AllReadyH.cons (o := ⟨some 6, _, _, _, _, _⟩) rfl (fun K hK => ?_) (AllReadyH.cons (o := ⟨some 10, _, _, _, _, _⟩) rfl (fun K hK => ?_) AllReadyH.nil)); (have c5 := cell_of_one HG5.out; go_simp); refine hK.out _ _ ?_ (fun hHeld => ?_); (focus (first | exact cell_of_one HG3.out | exact cell_of_one (z0p h6 HG3.out))); clear hK K; (try simp only [PT]); refine wpAnyH_ready (rs := [4]) (by kernel_rfl) (by simp) ?_; refine (AllReadyH.cons (o := ⟨some 10, _, _, _, _, _⟩) rfl (fun K hK => ?_) AllReadyH.nil); (focus (go_simp; (refine (z3h n size big _ (by omega)).mono ?_); intro e w5 hr; unfold RetB at hr; rw [← HM.out] at hr; obtain ⟨ad5, c6, rfl, ho5, hb5⟩ := hr; have hE__ := cU HB bup hb5; replace HB := ck HB hE__; replace HG5 := ck HG5 hE__; replace HG3 := ck HG3 hE__; replace HO := ck HO hE__; clear hE__; have HP := Hd (Bs.of_own ho5); clear ho5 hb5; go_wp2_with fail)); refine hK.out _ _ ?_ (fun hHeld => ?_); (focus (first | exact cell_of_one HG3.out | exact cell_of_one (z0p h6 HG3.out))); clear hK K; (try simp only [PT]); refine wpAnyH_ready (rs := [5]) (by kernel_rfl) (by simp) ?_; refine (AllReadyH.cons (o := ⟨some 11, _, _, _, _, _⟩) rfl (fun K hK => ?_) AllReadyH.nil); ((refine z1v elB rfl (.tmp 6) (.tmp 10) rfl base rfl HO.out rfl HP.out (z11 _) (by unfold maxLen; omega) (by omega) (Nat.le_trans H7.out HB.out.size) ?_); intro ad7 c7 w7 ho7 hg7 _ _; have HO7 := Hd ho7; have HB7 := Hd (show Below base w w7 from (HB.out.mono H7.out).grown hg7 (Nat.le_trans H7.out HB.out.size) (z07 HO.out)); have HG57 := Hd (show w7.heap[g5]? = some (.cells #[.slice ad k c] 24 (0, 0)) from (hg7.block g5 (lt_of_block HG5.out) (fun e => by have := z07 HO.out g5 e.symm; omega)).trans HG5.out); have HG37 := Hd (show w7.heap[g3]? = some (.cells #[.bool big] 4 (0, 0)) from (hg7.block g3 (lt_of_block HG3.out) (fun e => by have := z07 HO.out g3 e.symm; omega)).trans HG3.out); clear HG3; have HG3 := HG37; clear ho7 hg7 HO HP HG5 HG37); refine hK.out _ _ ?_ (fun hHeld => ?_); (focus (first | exact cell_of_one HG3.out | exact cell_of_one (z0p h6 HG3.out))); clear hK K; (try simp only [PT]); refine wpAnyH_ready (rs := [6]) (by kernel_rfl) (by simp) ?_; refine (AllReadyH.cons (o := ⟨none, _, _, _, _, _⟩) rfl (fun K hK => ?_) AllReadyH.nil); (have e7 := cell_of_one HG57.out; have f7 := free_of_one HG57.out; go_simp); refine hK.out _ _ ?_ (fun hHeld => ?_); (focus (first | exact cell_of_one HG3.out | exact cell_of_one (z0p h6 HG3.out))); clear hK K; (try simp only [PT]); refine wpAnyH_done (by kernel_rfl) ?_ _; rotate_left; (focus (go_simp; (refine (z3h n size big _ (by omega)).mono ?_); intro e w5 hr; unfold RetB at hr; rw [← HM.out] at hr; obtain ⟨ad5, c6, rfl, ho5, hb5⟩ := hr; have hE__ := cU HB bup hb5; replace HB := ck HB hE__; replace HG5 := ck HG5 hE__; replace HG3 := ck HG3 hE__; replace HO := ck HO hE__; clear hE__; have HP := Hd (Bs.of_own ho5); clear ho5 hb5; go_wp2_with fail)); refine hK.out _ _ ?_ (fun hHeld => ?_)
  (focus (first | exact cell_of_one HG3.out | exact cell_of_one (z0p h6 HG3.out))); clear hK K; (try simp only [PT]); refine wpAnyH_ready (rs := [0]) (by kernel_rfl) (by simp) ?_; refine (AllReadyH.cons (o := ⟨some 6, _, _, _, _, _⟩) rfl (fun K hK => ?_) AllReadyH.nil); (have c5 := cell_of_one HG5.out; go_simp); refine hK.out _ _ ?_ (fun hHeld => ?_); (focus (first | exact cell_of_one HG3.out | exact cell_of_one (z0p h6 HG3.out))); clear hK K; (try simp only [PT]); refine wpAnyH_ready (rs := [5]) (by kernel_rfl) (by simp) ?_; refine (AllReadyH.cons (o := ⟨some 11, _, _, _, _, _⟩) rfl (fun K hK => ?_) AllReadyH.nil); ((refine z1v elB rfl (.tmp 6) (.tmp 10) rfl base rfl HO.out rfl HP.out (z11 _) (by unfold maxLen; omega) (by omega) (Nat.le_trans H7.out HB.out.size) ?_); intro ad7 c7 w7 ho7 hg7 _ _; have HO7 := Hd ho7; have HB7 := Hd (show Below base w w7 from (HB.out.mono H7.out).grown hg7 (Nat.le_trans H7.out HB.out.size) (z07 HO.out)); have HG57 := Hd (show w7.heap[g5]? = some (.cells #[.slice ad k c] 24 (0, 0)) from (hg7.block g5 (lt_of_block HG5.out) (fun e => by have := z07 HO.out g5 e.symm; omega)).trans HG5.out); have HG37 := Hd (show w7.heap[g3]? = some (.cells #[.bool big] 4 (0, 0)) from (hg7.block g3 (lt_of_block HG3.out) (fun e => by have := z07 HO.out g3 e.symm; omega)).trans HG3.out); clear HG3; have HG3 := HG37; clear ho7 hg7 HO HP HG5 HG37); refine hK.out _ _ ?_ (fun hHeld => ?_); (focus (first | exact cell_of_one HG3.out | exact cell_of_one (z0p h6 HG3.out))); clear hK K; (try simp only [PT]); refine wpAnyH_ready (rs := [6]) (by kernel_rfl) (by simp) ?_; refine (AllReadyH.cons (o := ⟨none, _, _, _, _, _⟩) rfl (fun K hK => ?_) AllReadyH.nil); (have e7 := cell_of_one HG57.out; have f7 := free_of_one HG57.out; go_simp); refine hK.out _ _ ?_ (fun hHeld => ?_); (focus (first | exact cell_of_one HG3.out | exact cell_of_one (z0p h6 HG3.out))); clear hK K; (try simp only [PT]); refine wpAnyH_done (by kernel_rfl) ?_ _; rotate_left
  all_goals
    have hlen : (L ++ putL n size big).length = k + m := by rw [List.length_append, ← HM.out, ← HK.out]
    have HL := Hd hlen
    clear hlen
    go_end0
    refine ⟨rfl, ⟨ad7, c7, ?_, ?_, z0p h6 HG3.out, h4, h5, h6, ?_⟩, Kb.trans (Kb.of_below HB7.out) (Kb.set base g5 w7 0 _)⟩
    · rw [HL.out]
      exact one_setCell HG57.out
    · rw [HL.out, z0i]
      exact own_setCell HO7.out h4
    · exact Nat.le_trans H7.out (Nat.le_trans HB7.out.size (by simp [World.setCell]))
theorem mul64_any (w : World) : Calls Try.prog 94 #[.int .u64 1, .int .u64 8] w fun e w' => e = .returned (.tuple #[.int .u64 0, .int .u64 8]) ∧ w = w' := by
  go_enter Try.func94, Try.ntmps94
  go_wp2_with fail
  go_ret2
  exact ⟨rfl, rfl⟩
theorem mul_any (w : World) : Calls Try.prog 89 #[.int .u64 1, .int .u64 8] w fun e w' => e = .returned (.tuple #[.int .u64 0, .int .u64 8]) ∧ w = w' := by
  go_enter Try.func89, Try.ntmps89
  go_wp2_with (first
 | (go_at_call 94; (refine (mul64_any _).mono ?_); rintro e w' ⟨rfl, rfl⟩))
  go_ret2
  exact ⟨rfl, rfl⟩
theorem z2c (k : Nat) (b : UInt8) : (List.replicate k (Value.int .u8 (b.toNat : Int))).length = k := List.length_replicate
theorem splice_rep (cur : List Value) (k : Nat) (v : Value) (h : cur.take k = List.replicate k v) (hl : k + k ≤ cur.length) : (splice cur k (List.replicate k v)).take (k + k) = List.replicate (k + k) v := by
  unfold splice
  rw [h, ← List.append_assoc, List.replicate_append_replicate]
  exact List.take_left' List.length_replicate
theorem splice_first (cur : List Value) (v : Value) : (splice cur 0 [v]).take 1 = [v] := by simp [splice]
theorem repeat8_any (ad : Option Addr) (c : Nat) (b : UInt8) (w : World) (hs : Bs w ad 1 c [b]) :
    Calls Try.prog 78 #[.slice ad 1 c, .int .i64 8] w fun e w' => (∃ ad' c', e = .returned (.slice ad' 8 c') ∧ Bs w' ad' 8 c' (List.replicate 8 b)) ∧ Below w.heap.size w w' := by
  obtain ⟨a, off, rfl, hab, hat⟩ := hs.at (j := 0) (by simp)
  have hc0 := hat 0 (by simp)
  rw [show at8 [b] 0 = b from rfl, Nat.add_zero] at hc0
  obtain ⟨cs, hrunM, hle, hmx⟩ := Lib.run_makeNoZero (P := Try.prog) w #[3] 24 5 Try.underlying24 8 (by omega)
  have hcall : (callFunc 90 #[.int .i64 8]).run Try.prog w = .ok (.value (.slice (some ⟨w.heap.size, 0, none⟩) 8 cs.size)) ((w.alloc (.cells cs 5)).drewN 2) := by
    rw [run_callFunc_extern Try.func90 (by kernel_rfl) (by kernel_rfl) (by kernel_rfl) (e := Extern.BytealgMakeNoZero.makeNoZero #[3] #[24]) (by kernel_rfl)]
    have h8 : ((8 : Nat) : Int) = 8 := rfl
    rw [h8] at hrunM
    rw [hrunM]
    rfl
  have i1 : (8 : Int) ≤ (cs.size : Int) := by omega
  have HB0 := Hd (show Below w.heap.size w ((w.alloc (.cells cs 5)).drewN 2) from ((Below.refl _ _).alloc (Nat.le_refl _) _).trans (below_drewN _ _ _))
  have HG0 : Hid (((w.alloc (.cells cs 5)).drewN 2).heap[w.heap.size]? = some (.cells cs.toList.toArray 5 (0, 0))) := Hd (by
    have := heap_alloc_last w (.cells cs 5)
    simpa using this)
  have HC := Hd hc0
  have HSRC : Hid (∀ (j : Nat) (v : Value), [Value.int .u8 (b.toNat : Int)][j]? = some v → ((w.alloc (.cells cs 5)).drewN 2).cell? ((⟨a, off, none⟩ : Addr).add j) = some v) := Hd (fun j v hj => by
    match j with
    | 0 => cases hj; rw [add_zero]; exact (HB0.out.cell (p := ⟨a, off, none⟩) hab).trans HC.out
    | j + 1 => simp at hj)
  have hcl : 8 ≤ cs.toList.length := by simpa using hle
  have hsz1 : (Try.prog.info? 5).map (·.size) = some 1 := by kernel_rfl
  have HSZ := Hd hsz1
  obtain ⟨L, hL⟩ : ∃ L, L = cs.toList := ⟨_, rfl⟩
  rw [← hL] at HG0 hcl
  clear hrunM hle hmx hs hat hc0 hsz1
  go_enter Try.func78, Try.ntmps78
  go_wp2_with (first
 | (go_at_call 89; (refine (mul_any _).mono ?_); rintro e w' ⟨rfl, rfl⟩)
 | ((with_reducible refine sl 60 ?_); (refine wpList_copy_splice rfl (.tmp 58) (.tmp 59) 24 24 rfl 5 Try.underlying24 HSZ.out _ _ 8 8 1 c rfl rfl w.heap.size 0 L 5 HG0.out [.int .u8 (b.toNat : Int)] (by rfl) (fun _ => ⟨rfl, _, rfl, HSRC.out⟩) (by simp; omega) (by intro v hv; simp at hv; subst hv; rfl) w.heap.size w HB0.out (Nat.le_refl _) ?_); intro w2 HG2 hb2; have HB2 := Hd hb2; clear hb2; simp only [PT]))
  obtain ⟨L1, hL1⟩ : ∃ L1, L1 = splice L 0 [Value.int .u8 (b.toNat : Int)] := ⟨_, rfl⟩
  have HL1 : Hid (L1.length = L.length ∧ L1.take 1 = List.replicate 1 (Value.int .u8 (b.toNat : Int))) := Hd ⟨by rw [hL1]; exact length_splice _ _ _ (by simp; omega), by rw [hL1]; exact splice_first _ _⟩
  rw [← hL1] at HG2
  clear hL1 HG0
  generalize hlen : L.length = N at *
  go_loopw [10] (fun i wr => ∃ (k : Nat) (M : List Value), (k = 1 ∨ k = 2 ∨ k = 4 ∨ k = 8) ∧ i = .int .i64 k ∧ wr.heap[w.heap.size]? = some (.cells M.toArray 5 (0, 0)) ∧ M.length = N ∧ M.take k = List.replicate k (.int .u8 (b.toNat : Int)) ∧ Below w.heap.size w wr) (fun i _ => 8 - (intOf i).toNat)
  case atStart => exact ⟨1, L1, .inl rfl, rfl, HG2.out, HL1.out.1, HL1.out.2, HB2.out⟩
  case round =>
    obtain ⟨k, M, hk, rfl, hg, hl, ht, hb⟩ := hrel
    have HG := Hd hg
    have HT := Hd ht
    have HB := Hd hb
    clear hg ht hb HG2 HB2
    rcases hk with rfl | rfl | rfl | rfl
    · obtain ⟨M2, hM2⟩ : ∃ M2, M2 = splice M 1 (List.replicate 1 (Value.int .u8 (b.toNat : Int))) := ⟨_, rfl⟩
      have HM2 : Hid (M2.length = N ∧ M2.take 2 = List.replicate 2 (Value.int .u8 (b.toNat : Int))) := Hd ⟨by rw [hM2, length_splice _ _ _ (by rw [z2c]; omega), hl], by rw [hM2]; exact splice_rep _ _ _ HT.out (by omega)⟩
      have HS : Hid (M2 = splice M 1 (List.replicate 1 (Value.int .u8 (b.toNat : Int)))) := Hd hM2
      clear hM2
      have HSR : Hid (∀ (j : Nat) (v : Value), (List.replicate 1 (Value.int .u8 (b.toNat : Int)))[j]? = some v → wr.drew.cell? ((⟨w.heap.size, 0, none⟩ : Addr).add j) = some v) := Hd (fun j v hj => by
        have hjl : j < 1 := by have := (List.getElem?_eq_some_iff.1 hj).1; rwa [z2c] at this
        rw [z36, Nat.zero_add]
        show wr.cell? _ = _
        rw [z1u HG.out]
        rw [← HT.out, List.getElem?_take, if_pos hjl] at hj
        exact hj)
      have HBd : Hid (Below w.heap.size w wr.drew) := Hd HB.out.drew
      have HGd : Hid (wr.drew.heap[w.heap.size]? = some (.cells M.toArray 5 (0, 0))) := Hd HG.out
      go_wp2_with fail
      obtain ⟨wd, hwd⟩ : ∃ wd, wd = wr.drew := ⟨_, rfl⟩
      refine wp_region_held_drew (S := fun v => True) (by kernel_rfl) ?_ (fun hHeld => ?_); (focus (exact trivial)); (refine tk 0 (oi := ⟨some 67, _, _, _, _, _⟩) (v := ?_) rfl (by kernel_rfl) (.inl ⟨by rfl, ?_⟩) hHeld ?_; rotate_left; focus (intro w hSw; (try dsimp only at hSw); go_simp; try with_reducible rfl)); simp only [PT]; (refine tk 1 (oi := ⟨some 68, _, _, _, _, _⟩) (v := ?_) rfl (by kernel_rfl) (.inl ⟨by rfl, ?_⟩) hHeld ?_; rotate_left; focus (intro w hSw; (try dsimp only at hSw); go_simp; try with_reducible rfl)); simp only [PT]; (refine tk 2 (oi := ⟨some 69, _, _, _, _, _⟩) (v := ?_) rfl (by kernel_rfl) (.inl ⟨by rfl, ?_⟩) hHeld ?_; rotate_left; focus (intro w hSw; (try dsimp only at hSw); go_simp; try with_reducible rfl)); simp only [PT]; (refine tk 3 (oi := ⟨some 70, _, _, _, _, _⟩) (v := ?_) rfl (by kernel_rfl) (.inl ⟨by rfl, ?_⟩) hHeld ?_; rotate_left; focus (intro w hSw; (try dsimp only at hSw); go_simp; try with_reducible rfl)); simp only [PT]; (refine tk 4 (oi := ⟨some 71, _, _, _, _, _⟩) (v := ?_) rfl (by kernel_rfl) (.inl ⟨by rfl, ?_⟩) hHeld ?_; rotate_left; focus (intro w hSw; (try dsimp only at hSw); go_simp; try with_reducible rfl)); simp only [PT]; (refine tk 5 (oi := ⟨some 72, _, _, _, _, _⟩) (v := ?_) rfl (by kernel_rfl) (.inl ⟨by rfl, ?_⟩) hHeld ?_; rotate_left; focus (intro w hSw; (try dsimp only at hSw); go_simp; try with_reducible rfl)); simp only [PT]; (refine tk 6 (oi := ⟨some 73, _, _, _, _, _⟩) (v := ?_) rfl (by kernel_rfl) (.inl ⟨by rfl, ?_⟩) hHeld ?_; rotate_left; focus (intro w hSw; (try dsimp only at hSw); go_simp; try with_reducible rfl)); simp only [PT]; refine wpAnyH_ready (rs := [7]) (by kernel_rfl) (by simp) ?_; refine (AllReadyH.cons (o := ⟨some 74, _, _, _, _, _⟩) rfl (fun K hK => ?_) AllReadyH.nil); ((refine step_copy_splice rfl (.tmp 70) (.tmp 73) 24 24 rfl 5 Try.underlying24 HSZ.out _ _ 7 7 1 8 rfl rfl w.heap.size 1 M 5 HGd.out (List.replicate 1 (.int .u8 (b.toNat : Int))) (by rfl) (fun _ => ⟨rfl, _, rfl, HSR.out⟩) (by rw [z2c]; omega) (by intro v hv; rw [List.eq_of_mem_replicate hv]; rfl) w.heap.size w HBd.out (Nat.le_refl _) ?_); intro w4 HG4 hb4; have HB4 := Hd hb4; clear hb4); refine hK.out _ _ ?_ (fun hHeld => ?_); (focus (exact trivial)); clear hK K; (try simp only [PT]); (refine tk 8 (oi := ⟨some 75, _, _, _, _, _⟩) (v := ?_) rfl (by kernel_rfl) (.inl ⟨by rfl, ?_⟩) hHeld ?_; rotate_left; focus (intro w hSw; (try dsimp only at hSw); go_simp; try with_reducible rfl)); simp only [PT]; (refine tk 9 (oi := ⟨some 10, _, _, _, _, _⟩) (v := ?_) rfl (by kernel_rfl) (.inl ⟨by rfl, ?_⟩) hHeld ?_; rotate_left; focus (intro w hSw; (try dsimp only at hSw); go_simp; try with_reducible rfl)); simp only [PT]; refine wpAnyH_done (by kernel_rfl) ?_ _
      all_goals
        rw [← HS.out] at HG4
        go_wp2_with fail
        go_roundw
        case rel => exact ⟨2, M2, by omega, by go_num, HG4.out, HM2.out.1, HM2.out.2, HB4.out⟩
        case measure => simp [intOf]; decide
    · obtain ⟨M2, hM2⟩ : ∃ M2, M2 = splice M 2 (List.replicate 2 (Value.int .u8 (b.toNat : Int))) := ⟨_, rfl⟩
      have HM2 : Hid (M2.length = N ∧ M2.take 4 = List.replicate 4 (Value.int .u8 (b.toNat : Int))) := Hd ⟨by rw [hM2, length_splice _ _ _ (by rw [z2c]; omega), hl], by rw [hM2]; exact splice_rep _ _ _ HT.out (by omega)⟩
      have HS : Hid (M2 = splice M 2 (List.replicate 2 (Value.int .u8 (b.toNat : Int)))) := Hd hM2
      clear hM2
      have HSR : Hid (∀ (j : Nat) (v : Value), (List.replicate 2 (Value.int .u8 (b.toNat : Int)))[j]? = some v → wr.drew.cell? ((⟨w.heap.size, 0, none⟩ : Addr).add j) = some v) := Hd (fun j v hj => by
        have hjl : j < 2 := by have := (List.getElem?_eq_some_iff.1 hj).1; rwa [z2c] at this
        rw [z36, Nat.zero_add]
        show wr.cell? _ = _
        rw [z1u HG.out]
        rw [← HT.out, List.getElem?_take, if_pos hjl] at hj
        exact hj)
      have HBd : Hid (Below w.heap.size w wr.drew) := Hd HB.out.drew
      have HGd : Hid (wr.drew.heap[w.heap.size]? = some (.cells M.toArray 5 (0, 0))) := Hd HG.out
      go_wp2_with fail
      obtain ⟨wd, hwd⟩ : ∃ wd, wd = wr.drew := ⟨_, rfl⟩
      refine wp_region_held_drew (S := fun v => True) (by kernel_rfl) ?_ (fun hHeld => ?_); (focus (exact trivial)); (refine tk 0 (oi := ⟨some 67, _, _, _, _, _⟩) (v := ?_) rfl (by kernel_rfl) (.inl ⟨by rfl, ?_⟩) hHeld ?_; rotate_left; focus (intro w hSw; (try dsimp only at hSw); go_simp; try with_reducible rfl)); simp only [PT]; (refine tk 1 (oi := ⟨some 68, _, _, _, _, _⟩) (v := ?_) rfl (by kernel_rfl) (.inl ⟨by rfl, ?_⟩) hHeld ?_; rotate_left; focus (intro w hSw; (try dsimp only at hSw); go_simp; try with_reducible rfl)); simp only [PT]; (refine tk 2 (oi := ⟨some 69, _, _, _, _, _⟩) (v := ?_) rfl (by kernel_rfl) (.inl ⟨by rfl, ?_⟩) hHeld ?_; rotate_left; focus (intro w hSw; (try dsimp only at hSw); go_simp; try with_reducible rfl)); simp only [PT]; (refine tk 3 (oi := ⟨some 70, _, _, _, _, _⟩) (v := ?_) rfl (by kernel_rfl) (.inl ⟨by rfl, ?_⟩) hHeld ?_; rotate_left; focus (intro w hSw; (try dsimp only at hSw); go_simp; try with_reducible rfl)); simp only [PT]; (refine tk 4 (oi := ⟨some 71, _, _, _, _, _⟩) (v := ?_) rfl (by kernel_rfl) (.inl ⟨by rfl, ?_⟩) hHeld ?_; rotate_left; focus (intro w hSw; (try dsimp only at hSw); go_simp; try with_reducible rfl)); simp only [PT]; (refine tk 5 (oi := ⟨some 72, _, _, _, _, _⟩) (v := ?_) rfl (by kernel_rfl) (.inl ⟨by rfl, ?_⟩) hHeld ?_; rotate_left; focus (intro w hSw; (try dsimp only at hSw); go_simp; try with_reducible rfl)); simp only [PT]; (refine tk 6 (oi := ⟨some 73, _, _, _, _, _⟩) (v := ?_) rfl (by kernel_rfl) (.inl ⟨by rfl, ?_⟩) hHeld ?_; rotate_left; focus (intro w hSw; (try dsimp only at hSw); go_simp; try with_reducible rfl)); simp only [PT]; refine wpAnyH_ready (rs := [7]) (by kernel_rfl) (by simp) ?_; refine (AllReadyH.cons (o := ⟨some 74, _, _, _, _, _⟩) rfl (fun K hK => ?_) AllReadyH.nil); ((refine step_copy_splice rfl (.tmp 70) (.tmp 73) 24 24 rfl 5 Try.underlying24 HSZ.out _ _ 6 6 2 8 rfl rfl w.heap.size 2 M 5 HGd.out (List.replicate 2 (.int .u8 (b.toNat : Int))) (by rfl) (fun _ => ⟨rfl, _, rfl, HSR.out⟩) (by rw [z2c]; omega) (by intro v hv; rw [List.eq_of_mem_replicate hv]; rfl) w.heap.size w HBd.out (Nat.le_refl _) ?_); intro w4 HG4 hb4; have HB4 := Hd hb4; clear hb4); refine hK.out _ _ ?_ (fun hHeld => ?_); (focus (exact trivial)); clear hK K; (try simp only [PT]); (refine tk 8 (oi := ⟨some 75, _, _, _, _, _⟩) (v := ?_) rfl (by kernel_rfl) (.inl ⟨by rfl, ?_⟩) hHeld ?_; rotate_left; focus (intro w hSw; (try dsimp only at hSw); go_simp; try with_reducible rfl)); simp only [PT]; (refine tk 9 (oi := ⟨some 10, _, _, _, _, _⟩) (v := ?_) rfl (by kernel_rfl) (.inl ⟨by rfl, ?_⟩) hHeld ?_; rotate_left; focus (intro w hSw; (try dsimp only at hSw); go_simp; try with_reducible rfl)); simp only [PT]; refine wpAnyH_done (by kernel_rfl) ?_ _
      all_goals
        rw [← HS.out] at HG4
        go_wp2_with fail
        go_roundw
        case rel => exact ⟨4, M2, by omega, by go_num, HG4.out, HM2.out.1, HM2.out.2, HB4.out⟩
        case measure => simp [intOf]; decide
    · obtain ⟨M2, hM2⟩ : ∃ M2, M2 = splice M 4 (List.replicate 4 (Value.int .u8 (b.toNat : Int))) := ⟨_, rfl⟩
      have HM2 : Hid (M2.length = N ∧ M2.take 8 = List.replicate 8 (Value.int .u8 (b.toNat : Int))) := Hd ⟨by rw [hM2, length_splice _ _ _ (by rw [z2c]; omega), hl], by rw [hM2]; exact splice_rep _ _ _ HT.out (by omega)⟩
      have HS : Hid (M2 = splice M 4 (List.replicate 4 (Value.int .u8 (b.toNat : Int)))) := Hd hM2
      clear hM2
      have HSR : Hid (∀ (j : Nat) (v : Value), (List.replicate 4 (Value.int .u8 (b.toNat : Int)))[j]? = some v → wr.drew.cell? ((⟨w.heap.size, 0, none⟩ : Addr).add j) = some v) := Hd (fun j v hj => by
        have hjl : j < 4 := by have := (List.getElem?_eq_some_iff.1 hj).1; rwa [z2c] at this
        rw [z36, Nat.zero_add]
        show wr.cell? _ = _
        rw [z1u HG.out]
        rw [← HT.out, List.getElem?_take, if_pos hjl] at hj
        exact hj)
      have HBd : Hid (Below w.heap.size w wr.drew) := Hd HB.out.drew
      have HGd : Hid (wr.drew.heap[w.heap.size]? = some (.cells M.toArray 5 (0, 0))) := Hd HG.out
      go_wp2_with fail
      obtain ⟨wd, hwd⟩ : ∃ wd, wd = wr.drew := ⟨_, rfl⟩
      refine wp_region_held_drew (S := fun v => True) (by kernel_rfl) ?_ (fun hHeld => ?_); (focus (exact trivial)); (refine tk 0 (oi := ⟨some 67, _, _, _, _, _⟩) (v := ?_) rfl (by kernel_rfl) (.inl ⟨by rfl, ?_⟩) hHeld ?_; rotate_left; focus (intro w hSw; (try dsimp only at hSw); go_simp; try with_reducible rfl)); simp only [PT]; (refine tk 1 (oi := ⟨some 68, _, _, _, _, _⟩) (v := ?_) rfl (by kernel_rfl) (.inl ⟨by rfl, ?_⟩) hHeld ?_; rotate_left; focus (intro w hSw; (try dsimp only at hSw); go_simp; try with_reducible rfl)); simp only [PT]; (refine tk 2 (oi := ⟨some 69, _, _, _, _, _⟩) (v := ?_) rfl (by kernel_rfl) (.inl ⟨by rfl, ?_⟩) hHeld ?_; rotate_left; focus (intro w hSw; (try dsimp only at hSw); go_simp; try with_reducible rfl)); simp only [PT]; (refine tk 3 (oi := ⟨some 70, _, _, _, _, _⟩) (v := ?_) rfl (by kernel_rfl) (.inl ⟨by rfl, ?_⟩) hHeld ?_; rotate_left; focus (intro w hSw; (try dsimp only at hSw); go_simp; try with_reducible rfl)); simp only [PT]; (refine tk 4 (oi := ⟨some 71, _, _, _, _, _⟩) (v := ?_) rfl (by kernel_rfl) (.inl ⟨by rfl, ?_⟩) hHeld ?_; rotate_left; focus (intro w hSw; (try dsimp only at hSw); go_simp; try with_reducible rfl)); simp only [PT]; (refine tk 5 (oi := ⟨some 72, _, _, _, _, _⟩) (v := ?_) rfl (by kernel_rfl) (.inl ⟨by rfl, ?_⟩) hHeld ?_; rotate_left; focus (intro w hSw; (try dsimp only at hSw); go_simp; try with_reducible rfl)); simp only [PT]; (refine tk 6 (oi := ⟨some 73, _, _, _, _, _⟩) (v := ?_) rfl (by kernel_rfl) (.inl ⟨by rfl, ?_⟩) hHeld ?_; rotate_left; focus (intro w hSw; (try dsimp only at hSw); go_simp; try with_reducible rfl)); simp only [PT]; refine wpAnyH_ready (rs := [7]) (by kernel_rfl) (by simp) ?_; refine (AllReadyH.cons (o := ⟨some 74, _, _, _, _, _⟩) rfl (fun K hK => ?_) AllReadyH.nil); ((refine step_copy_splice rfl (.tmp 70) (.tmp 73) 24 24 rfl 5 Try.underlying24 HSZ.out _ _ 4 4 4 8 rfl rfl w.heap.size 4 M 5 HGd.out (List.replicate 4 (.int .u8 (b.toNat : Int))) (by rfl) (fun _ => ⟨rfl, _, rfl, HSR.out⟩) (by rw [z2c]; omega) (by intro v hv; rw [List.eq_of_mem_replicate hv]; rfl) w.heap.size w HBd.out (Nat.le_refl _) ?_); intro w4 HG4 hb4; have HB4 := Hd hb4; clear hb4); refine hK.out _ _ ?_ (fun hHeld => ?_); (focus (exact trivial)); clear hK K; (try simp only [PT]); (refine tk 8 (oi := ⟨some 75, _, _, _, _, _⟩) (v := ?_) rfl (by kernel_rfl) (.inl ⟨by rfl, ?_⟩) hHeld ?_; rotate_left; focus (intro w hSw; (try dsimp only at hSw); go_simp; try with_reducible rfl)); simp only [PT]; (refine tk 9 (oi := ⟨some 10, _, _, _, _, _⟩) (v := ?_) rfl (by kernel_rfl) (.inl ⟨by rfl, ?_⟩) hHeld ?_; rotate_left; focus (intro w hSw; (try dsimp only at hSw); go_simp; try with_reducible rfl)); simp only [PT]; refine wpAnyH_done (by kernel_rfl) ?_ _
      all_goals
        rw [← HS.out] at HG4
        go_wp2_with fail
        go_roundw
        case rel => exact ⟨8, M2, by omega, by go_num, HG4.out, HM2.out.1, HM2.out.2, HB4.out⟩
        case measure => simp [intOf]; decide
    · go_wp2_with fail
      go_ret
      refine ⟨⟨_, _, rfl, ⟨by rw [z2g, List.length_replicate], by omega, by unfold maxLen; omega, by simp, fun j u hj => ⟨_, rfl, ?_⟩⟩⟩, HB.out⟩
      have hjl : j < 8 := by have := (List.getElem?_eq_some_iff.1 hj).1; rwa [z2g, List.length_replicate] at this
      rw [z36, Nat.zero_add, z1u HG.out]
      have e : BV (List.replicate 8 b) = List.replicate 8 (Value.int .u8 (b.toNat : Int)) := by simp [BV]
      rw [e, ← HT.out, List.getElem?_take, if_pos hjl] at hj
      exact hj
def numF (g5 g3 : Nat) : Value := .func (.func 76) #[] #[.pointer (some ⟨g5, 0, none⟩), .pointer (some ⟨g3, 0, none⟩)]
theorem OutB.length {base g5 g3 : Nat} {big : Bool} {w : World} {L : List UInt8} (h : OutB base g5 g3 big w L) : base ≤ w.heap.size := by
  obtain ⟨ad, c, h1, h2, h3, h4, h5, h6, h7⟩ := h
  exact h7
theorem time_any (base g5 g3 g6 g2 : Nat) (big : Bool) (L : List UInt8) (hL : L.length ≤ 3000000) (v : BlkV) (ht : v.time < 18446744073709551616) (w : World) (h : OutB base g5 g3 big w L) (h6 : w.heap[g6]? = some (.cells #[numF g5 g3] 97 (0, 0))) (h2 : w.heap[g2]? = some (.cells v.cells.toArray 27 (0, 0))) (b6 : g6 < base) (n6 : g6 ≠ g5) (b2 : g2 < base) (n2 : g2 ≠ g5) :
    Calls Try.prog 77 #[.pointer (some ⟨g6, 0, none⟩), .pointer (some ⟨g2, 0, none⟩)] w fun e w' => e = .returned (.tuple #[]) ∧ OutB base g5 g3 big w' (L ++ timeB big v.time) ∧ Kb base g5 w w' := by
  have HO := Hd h
  have H6 := Hd h6
  have H2 := Hd h2
  have c6 := cell_of_one H6.out
  obtain ⟨_, _, _, _, _, _, ct, _⟩ := z03 H2.out
  have hl1 : (putL (v.time / 4294967296) 4 big).length = 4 := z06 _ _
  unfold numF at c6
  clear h h6 h2
  go_enter Try.func77, Try.ntmps77
  obtain ⟨hi, hhi⟩ : ∃ h, h = v.time / 4294967296 := ⟨_, rfl⟩
  have hhi2 : (v.time : Int) / 4294967296 = (hi : Int) := by rw [hhi]; omega
  have hhb : hi < 18446744073709551616 := by omega
  rw [← hhi] at hl1
  have HI := Hd hhi
  clear hhi
  go_wp2_with (first
 | (go_at_call 76; (with_reducible show Calls _ _ #[.int .u64 ((v.time : Nat) : Int), _, _, _] _ _); (refine (z2w base g5 g3 big (L ++ putL hi 4 big) v.time 4 ht (by rw [List.length_append, hl1]; omega) _ HO.out).mono ?_); rintro e w6 ⟨rfl, ho6, hk6⟩; have HO6 := Hd ho6; have HK6 := Hd (HK.out.trans hk6); clear ho6 hk6)
 | (go_at_call 76; (try rw [hhi2]); (refine (z2w base g5 g3 big L hi 4 hhb (by omega) _ HO.out).mono ?_); rintro e w5 ⟨rfl, ho5, hk5⟩; clear HO; have HO := Hd ho5; have HK := Hd hk5; have H65 := Hd (Kb.block hk5 b6 n6 H6.out); have H25 := Hd (Kb.block hk5 b2 n2 H2.out); have c65 := cell_of_one H65.out; unfold numF at c65; obtain ⟨_, _, _, _, _, _, ct5, _⟩ := z03 H25.out; clear ho5 hk5 c6 ct))
  go_end0
  refine ⟨rfl, ?_, HK6.out⟩
  have := HO6.out
  rwa [← putL_mod4 v.time, List.append_assoc, HI.out] at this
theorem wpL_store1 {P : Program} {ops : Array Oper} {rest : List Oper} {o : Oper} {a : Act} {w : World} {Q : Exit → Act → World → Prop} (hgd : o.guard = none) (ty : TypeId) (x y : Operand) (ho : o.op = .store ty x y)
    (g : Nat) (v : Value) (hx : a.eval x = .pointer (some ⟨g, 0, none⟩)) (hy : a.eval y = v) (h1 : v.oneCell' = true) {old : Value} (hg : w.heap[g]? = some (.cells #[old] ty (0, 0))) (hi : (P.info? ty).map (·.size) = some 1)
    (h : ∀ w1, w1.heap[g]? = some (.cells #[v] ty (0, 0)) → w.grownBy w1 (some g) → wpList P ops Q rest (a.put o.dst undef) w1) : wpList P ops Q (o :: rest) a w :=
  wpList_plain hgd fun _ hK => by
    unfold Oper.wp execOp
    simp only [ho, hx, hy, Instr.storeAt, Instr.sureAddr, Sem.run_bind, Sem.run_pure, Result.andThen_ok, run_storeVar_one w g ty ty old v hg hi h1]
    exact hK _ _ (h _ (setRow_heap w g _ _ ty _ hg) ⟨rfl, rfl, rfl, by simp [World.setRow], fun k _ hk => setRow_other w g k _ (fun e => hk (by rw [e]))⟩)
theorem z2i {P : Program} {ops : Array Oper} {o : Oper} {a : Act} {w : World} {K : Act → World → Prop} {Q : Exit → Act → World → Prop} {E : Prop} (hgd : o.guard = none) (ty : TypeId) (x y : Operand) (ho : o.op = .store ty x y)
    (g : Nat) (v : Value) (hx : a.eval x = .pointer (some ⟨g, 0, none⟩)) (hy : a.eval y = v) (h1 : v.oneCell' = true) {old : Value} (hg : w.heap[g]? = some (.cells #[old] ty (0, 0))) (hi : (P.info? ty).map (·.size) = some 1)
    (h : ∀ w1, w1.heap[g]? = some (.cells #[v] ty (0, 0)) → w.grownBy w1 (some g) → K (a.put o.dst undef) w1) : if Region.wanted o (yielded ops a.tmps) = true then Oper.wp P o a w K Q else E := by
  rw [if_pos (by simp [Region.wanted, hgd])]
  unfold Oper.wp execOp
  simp only [ho, hx, hy, Instr.storeAt, Instr.sureAddr, Sem.run_bind, Sem.run_pure, Result.andThen_ok, run_storeVar_one w g ty ty old v hg hi h1]
  exact h _ (setRow_heap w g _ _ ty _ hg) ⟨rfl, rfl, rfl, by simp [World.setRow], fun k _ hk => setRow_other w g k _ (fun e => hk (by rw [e]))⟩
theorem z37 {base g5 g3 : Nat} {big : Bool} {w7 w9 : World} {L : List UInt8} {ad : Option Addr} {n c : Nat} (ho : w7.ownsRow base 5 1 (.slice ad n c) n (BV L)) (hn : n = L.length) (h9 : w9.heap[g5]? = some (.cells #[.slice ad n c] 24 (0, 0))) (hg : w7.grownBy w9 (some g5))
    (h3 : w7.heap[g3]? = some (.cells #[.bool big] 4 (0, 0))) (h4 : g5 < base) (h5 : g3 < base) (h6 : g3 ≠ g5) (h7 : base ≤ w7.heap.size) : OutB base g5 g3 big w9 L := by
  subst hn
  refine ⟨ad, c, h9, ho.kept hg ?_, (hg.block g3 (lt_of_block h3) (fun e => h6 (by cases e; rfl))).trans h3, h4, h5, h6, Nat.le_trans h7 hg.size⟩
  rcases z29 ho with ⟨h0, _⟩ | ⟨g, h1, h2, _⟩
  · rw [h0]; exact .inl rfl
  · rw [h1]
    refine .inr fun e => ?_
    simp [Value.ownBlock] at e
    omega
theorem Kb.of_grown {base g5 : Nat} {w w' : World} (hg : w.grownBy w' (some g5)) (hb : base ≤ w.heap.size) : Kb base g5 w w' :=
  ⟨hg.os, hg.tape, hg.output, hg.size, fun k h1 h2 => hg.block k (by omega) (fun e => h2 (by cases e; rfl))⟩
theorem z22 (w1 : World) (big : Bool) :
    Below w1.heap.size w1 (((w1.alloc (.cells #[.bool big] 4)).alloc (.cells #[.slice none 0 0] 24)).alloc (.cells #[.func (.func 76) #[] #[.pointer (some ⟨w1.heap.size + 1, 0, none⟩), .pointer (some ⟨w1.heap.size, 0, none⟩)]] 97)) ∧
    OutB (w1.heap.size + 3) (w1.heap.size + 1) w1.heap.size big (((w1.alloc (.cells #[.bool big] 4)).alloc (.cells #[.slice none 0 0] 24)).alloc (.cells #[.func (.func 76) #[] #[.pointer (some ⟨w1.heap.size + 1, 0, none⟩), .pointer (some ⟨w1.heap.size, 0, none⟩)]] 97)) [] ∧
    (((w1.alloc (.cells #[.bool big] 4)).alloc (.cells #[.slice none 0 0] 24)).alloc (.cells #[.func (.func 76) #[] #[.pointer (some ⟨w1.heap.size + 1, 0, none⟩), .pointer (some ⟨w1.heap.size, 0, none⟩)]] 97)).heap[w1.heap.size + 1 + 1]? = some (.cells #[numF (w1.heap.size + 1) w1.heap.size] 97 (0, 0)) := by
  obtain ⟨u1, hu1⟩ : ∃ u, u = w1.alloc (.cells #[.bool big] 4) := ⟨_, rfl⟩
  have g1 := heap_alloc_last w1 (.cells #[.bool big] 4)
  have s1 : u1.heap.size = w1.heap.size + 1 := by rw [hu1]; simp
  rw [← hu1] at g1 ⊢
  obtain ⟨u2, hu2⟩ : ∃ u, u = u1.alloc (.cells #[.slice none 0 0] 24) := ⟨_, rfl⟩
  have g2 := heap_alloc_last u1 (.cells #[.slice none 0 0] 24)
  have s2 : u2.heap.size = w1.heap.size + 2 := by rw [hu2]; simp; omega
  rw [← hu2] at g2 ⊢
  obtain ⟨u3, hu3⟩ : ∃ u, u = u2.alloc (.cells #[.func (.func 76) #[] #[.pointer (some ⟨w1.heap.size + 1, 0, none⟩), .pointer (some ⟨w1.heap.size, 0, none⟩)]] 97) := ⟨_, rfl⟩
  have g3 := heap_alloc_last u2 (.cells #[.func (.func 76) #[] #[.pointer (some ⟨w1.heap.size + 1, 0, none⟩), .pointer (some ⟨w1.heap.size, 0, none⟩)]] 97)
  have s3 : u3.heap.size = w1.heap.size + 3 := by rw [hu3]; simp; omega
  rw [← hu3] at g3 ⊢
  have b1 : Below w1.heap.size w1 u1 := by rw [hu1]; exact (Below.refl _ _).alloc (Nat.le_refl _) _
  have b2 : Below u1.heap.size u1 u2 := by rw [hu2]; exact (Below.refl _ _).alloc (Nat.le_refl _) _
  have b3 : Below u2.heap.size u2 u3 := by rw [hu3]; exact (Below.refl _ _).alloc (Nat.le_refl _) _
  rw [s1] at g2
  rw [s2] at g3
  refine ⟨(b1.trans (b2.mono (by omega))).trans (b3.mono (by omega)), ⟨none, 0, ?_, World.ownsRow_nil _ _ _ _, ?_, by omega, by omega, by omega, by omega⟩, g3⟩
  · exact (b3.block _ (by omega)).trans g2
  · exact ((b3.mono (by omega : u1.heap.size ≤ u2.heap.size)).block _ (by omega)).trans ((b2.block _ (by omega)).trans g1)
theorem body2_any (v : BlkV) (big : Bool) (w : World) (hv : Blk w v) (hk : v.kind = 2) (hf : SmB v) (hm : mayP v.val = true) (hw : wfB v.val) :
    Calls Try.prog 48 #[.agg v.cells.toArray, .bool big] w fun e w' => (∃ ad c, e = .returned (.slice ad (bodyB big v.val).length c) ∧ Bs w' ad (bodyB big v.val).length c (bodyB big v.val)) ∧ Below w.heap.size w w' := by
  obtain ⟨z1, z2, z3⟩ := hf.sizes
  obtain ⟨_, hfit, hlink, hifc, hwo, hwn, hlast⟩ := (z1c v.val).1 hm
  obtain ⟨hw1, hw2, hw3, hw4'⟩ := hw
  change 0 ≤ v.link ∧ v.link ≤ 65535 at hlink
  change 0 ≤ v.iface ∧ v.iface ≤ 4294967295 at hifc
  change wrongO (vals v.os) = 0 at hwo
  change wrongO (vals v.ns) = 0 at hwn
  change v.type < 4294967296 at hw1
  change v.snap < 4294967296 at hw2
  change v.time < 18446744073709551616 at hw3
  change v.len < 4294967296 at hw4'
  have HB := Hd (Below.refl w.heap.size w)
  have HV := Hd hv
  have HFIT := Hd hfit
  have HWo := Hd hwo
  have HWn := Hd hwn
  obtain ⟨PO, hPO⟩ : ∃ P, P = putAll big (vals v.os) := ⟨_, rfl⟩
  have hpl : PO.length ≤ 70424 := by rw [hPO, z0q]; split <;> omega
  have HPO := Hd hPO
  obtain ⟨L0, hL0⟩ : ∃ L : List UInt8, L = [] := ⟨_, rfl⟩
  have hn0 : L0.length ≤ 0 := by rw [hL0]; exact Nat.le_refl _
  have HL0 := Hd hL0
  obtain ⟨ln, hln⟩ : ∃ n : Nat, v.link = (n : Int) := ⟨v.link.toNat, by omega⟩
  have hlw : IntKind.u64.wrap (ln : Int) = (ln : Int) := z15 _ (by omega)
  have hlt : v.link.toNat = ln := by omega
  have HLT := Hd hlt
  have hsw : IntKind.u64.wrap (v.snap : Int) = (v.snap : Int) := z15 _ (by omega)
  clear hv hf hm hfit hwo hwn hlast hPO hL0
  go_enter Try.func48, Try.ntmps48
  go_wp2_with (first
 | ((with_reducible refine sl 2 ?_); (refine z1f rfl 27 (.tmp 0) rfl v.cells.toArray rfl ?_); intro w1 hg1 hb1; have hz1 := lt_of_block hg1; obtain ⟨w4, hw4⟩ : ∃ w4, w4 = ((w1.alloc (.cells #[.bool big] 4)).alloc (.cells #[.slice none 0 0] 24)).alloc (.cells #[.func (.func 76) #[] #[.pointer (some ⟨w1.heap.size + 1, 0, none⟩), .pointer (some ⟨w1.heap.size, 0, none⟩)]] 97) := ⟨_, rfl⟩; have h14 := z22 w1 big; rw [← hw4] at h14; have HG := Hd ((h14.1.block _ hz1).trans hg1); have H6 := Hd h14.2.2; have ho4 := h14.2.1; rw [← HL0.out] at ho4; have HO := Hd ho4; clear ho4; have HB' := Hd ((HB.out.trans hb1).trans (h14.1.mono (by omega))); clear HB; have HB := HB'; clear HB'; have HW4 := Hd hw4; obtain ⟨c0, c1, c2, c3, c4, c5, c6, c7, c8, c9, c10⟩ := z03 HG.out; have m6 := cell_of_one H6.out; unfold numF at m6; obtain ⟨ad5, k5, h51, h52, h53, _, _, _, h57⟩ := HO.out; have m5 := cell_of_one h51; have m3 := cell_of_one h53; have f5 := free_of_one h51; have H51 := Hd h51; have H52 := Hd h52; have H53 := Hd h53; have H57 := Hd h57; clear h51 h52 h53 h57; clear hg1 hb1 hw4 h14; simp only [PT])
 | ((with_reducible refine sl 14 ?_); rw [← HW4.out]; clear HW4)
 | (go_at_call 76; (with_reducible show Calls _ _ #[Value.int .u64 ((ln : Nat) : Int), .int .i64 2, _, _] _ _); (refine (z2w (w1.heap.size + 3) (w1.heap.size + 1) w1.heap.size big L0 ln 2 (by omega) (by omega) _ HO.out).mono ?_); rintro e w11 ⟨rfl, ho, hk⟩; obtain ⟨L1, hL1⟩ : ∃ L, L = L0 ++ putL ln 2 big := ⟨_, rfl⟩; rw [← hL1] at ho; have hn1 : L1.length ≤ L0.length + (putL ln 2 big).length := (by rw [hL1, List.length_append]; exact Nat.le_refl _); rw [z0m] at hn1; have HL1 := Hd hL1; clear hL1; clear c0 c1 c2 c3 c4 c5 c6 c7 c8 c9 c10 m6 m5 m3 f5 H51 H52 H53 H57; have HG' := Hd (Kb.block hk (by omega) (by omega) HG.out); clear HG; have HG := HG'; clear HG'; have H6' := Hd (Kb.block hk (by omega) (by omega) H6.out); clear H6; have H6 := H6'; clear H6'; have HB' := Hd (Kb.below HB.out hk (by omega) (by omega)); clear HB; have HB := HB'; clear HB'; clear HO; have HO := Hd ho; obtain ⟨c0, c1, c2, c3, c4, c5, c6, c7, c8, c9, c10⟩ := z03 HG.out; have m6 := cell_of_one H6.out; unfold numF at m6; obtain ⟨ad5, k5, h51, h52, h53, _, _, _, h57⟩ := HO.out; have m5 := cell_of_one h51; have m3 := cell_of_one h53; have f5 := free_of_one h51; have H51 := Hd h51; have H52 := Hd h52; have H53 := Hd h53; have H57 := Hd h57; clear h51 h52 h53 h57; clear ho hk)
 | (go_at_call 76; (with_reducible show Calls _ _ #[Value.int .u64 0, .int .i64 2, _, _] _ _); (refine (z2w (w1.heap.size + 3) (w1.heap.size + 1) w1.heap.size big L1 0 2 (by omega) (by omega) _ HO.out).mono ?_); rintro e w12 ⟨rfl, ho, hk⟩; obtain ⟨L2, hL2⟩ : ∃ L, L = L1 ++ putL 0 2 big := ⟨_, rfl⟩; rw [← hL2] at ho; have hn2 : L2.length ≤ L1.length + (putL 0 2 big).length := (by rw [hL2, List.length_append]; exact Nat.le_refl _); rw [z0m] at hn2; have HL2 := Hd hL2; clear hL2; clear c0 c1 c2 c3 c4 c5 c6 c7 c8 c9 c10 m6 m5 m3 f5 H51 H52 H53 H57; have HG' := Hd (Kb.block hk (by omega) (by omega) HG.out); clear HG; have HG := HG'; clear HG'; have H6' := Hd (Kb.block hk (by omega) (by omega) H6.out); clear H6; have H6 := H6'; clear H6'; have HB' := Hd (Kb.below HB.out hk (by omega) (by omega)); clear HB; have HB := HB'; clear HB'; clear HO; have HO := Hd ho; obtain ⟨c0, c1, c2, c3, c4, c5, c6, c7, c8, c9, c10⟩ := z03 HG.out; have m6 := cell_of_one H6.out; unfold numF at m6; obtain ⟨ad5, k5, h51, h52, h53, _, _, _, h57⟩ := HO.out; have m5 := cell_of_one h51; have m3 := cell_of_one h53; have f5 := free_of_one h51; have H51 := Hd h51; have H52 := Hd h52; have H53 := Hd h53; have H57 := Hd h57; clear h51 h52 h53 h57; clear ho hk)
 | (go_at_call 76; (with_reducible show Calls _ _ #[Value.int .u64 ((v.snap : Nat) : Int), .int .i64 4, _, _] _ _); (refine (z2w (w1.heap.size + 3) (w1.heap.size + 1) w1.heap.size big L2 v.snap 4 (by omega) (by omega) _ HO.out).mono ?_); rintro e w13 ⟨rfl, ho, hk⟩; obtain ⟨L3, hL3⟩ : ∃ L, L = L2 ++ putL v.snap 4 big := ⟨_, rfl⟩; rw [← hL3] at ho; have hn3 : L3.length ≤ L2.length + (putL v.snap 4 big).length := (by rw [hL3, List.length_append]; exact Nat.le_refl _); rw [z06] at hn3; have HL3 := Hd hL3; clear hL3; clear c0 c1 c2 c3 c4 c5 c6 c7 c8 c9 c10 m6 m5 m3 f5 H51 H52 H53 H57; have HG' := Hd (Kb.block hk (by omega) (by omega) HG.out); clear HG; have HG := HG'; clear HG'; have H6' := Hd (Kb.block hk (by omega) (by omega) H6.out); clear H6; have H6 := H6'; clear H6'; have HB' := Hd (Kb.below HB.out hk (by omega) (by omega)); clear HB; have HB := HB'; clear HB'; clear HO; have HO := Hd ho; obtain ⟨c0, c1, c2, c3, c4, c5, c6, c7, c8, c9, c10⟩ := z03 HG.out; have m6 := cell_of_one H6.out; unfold numF at m6; obtain ⟨ad5, k5, h51, h52, h53, _, _, _, h57⟩ := HO.out; have m5 := cell_of_one h51; have m3 := cell_of_one h53; have f5 := free_of_one h51; have H51 := Hd h51; have H52 := Hd h52; have H53 := Hd h53; have H57 := Hd h57; clear h51 h52 h53 h57; clear ho hk)
 | (go_at_call 80; (with_reducible show Calls _ _ #[Value.slice v.oad _ _, _] _ _); (refine (z1r v.oad v.on v.oc v.os big _ (HV.out.2.2.below (HB.out.trans (Below.mono bup HB.out.size))) (by omega)).mono ?_); intro e w40 hr; rw [HWo.out] at hr; rw [← HPO.out] at hr; obtain ⟨hb, h3⟩ := hr; rcases h3 with ⟨h3, _⟩ | ⟨_, ad40, c40, rfl, ho40⟩; exact absurd rfl h3; have H40 := Hd (Bs.of_own ho40); have ho := HO.out.below hb; have hk : Kb (w1.heap.size + 3) (w1.heap.size + 1) _ w40 := Kb.of_below (hb.mono H57.out); clear ho40; clear c0 c1 c2 c3 c4 c5 c6 c7 c8 c9 c10 m6 m5 m3 f5 H51 H52 H53 H57; have HG' := Hd (Kb.block hk (by omega) (by omega) HG.out); clear HG; have HG := HG'; clear HG'; have H6' := Hd (Kb.block hk (by omega) (by omega) H6.out); clear H6; have H6 := H6'; clear H6'; have HB' := Hd (Kb.below HB.out hk (by omega) (by omega)); clear HB; have HB := HB'; clear HB'; clear HO; have HO := Hd ho; obtain ⟨c0, c1, c2, c3, c4, c5, c6, c7, c8, c9, c10⟩ := z03 HG.out; have m6 := cell_of_one H6.out; unfold numF at m6; obtain ⟨ad5, k5, h51, h52, h53, _, _, _, h57⟩ := HO.out; have m5 := cell_of_one h51; have m3 := cell_of_one h53; have f5 := free_of_one h51; have H51 := Hd h51; have H52 := Hd h52; have H53 := Hd h53; have H57 := Hd h57; clear h51 h52 h53 h57; clear ho hk; clear hb)
 | ((with_reducible refine sl 117 ?_); (refine z0k elB rfl (.tmp 115) (.tmp 116) rfl (w1.heap.size + 3) rfl H52.out rfl H40.out (z11 _) (by unfold maxLen; omega) (by omega) H57.out ?_); intro ad41 c41 w41 hown hgr hat hnil; have HB' := Hd (HB.out.grown hgr HB.out.size (fun k e => by have := z07 H52.out k e; omega)); clear HB; have HB := HB'; clear HB'; rw [← z0i] at hown; have H41 := Hd (Bs.of_own hown); clear hown hgr hat hnil; simp only [PT]))
  have HFIN : Hid (L3 ++ PO = bodyB big v.val) := Hd (by
    rw [HL3.out, HL2.out, HL1.out, HL0.out, HPO.out]
    unfold bodyB fieldsB BlkV.val
    simp only [hk, HLT.out]
    cases big <;> simp [putL, List.append_assoc] <;> rfl)
  go_ret
  refine ⟨⟨ad41, c41, ?_, ?_⟩, HB.out⟩
  · rw [← HFIN.out, List.length_append]
    rfl
  · rw [← HFIN.out, List.length_append]
    exact H41.out
theorem body6_any (v : BlkV) (big : Bool) (w : World) (hv : Blk w v) (hk : v.kind = 6) (hf : SmB v) (hm : mayP v.val = true) (hw : wfB v.val) :
    Calls Try.prog 48 #[.agg v.cells.toArray, .bool big] w fun e w' => (∃ ad c, e = .returned (.slice ad (bodyB big v.val).length c) ∧ Bs w' ad (bodyB big v.val).length c (bodyB big v.val)) ∧ Below w.heap.size w w' := by
  obtain ⟨z1, z2, z3⟩ := hf.sizes
  obtain ⟨_, hfit, hlink, hifc, hwo, hwn, hlast⟩ := (z1c v.val).1 hm
  obtain ⟨hw1, hw2, hw3, hw4'⟩ := hw
  change 0 ≤ v.link ∧ v.link ≤ 65535 at hlink
  change 0 ≤ v.iface ∧ v.iface ≤ 4294967295 at hifc
  change wrongO (vals v.os) = 0 at hwo
  change wrongO (vals v.ns) = 0 at hwn
  change v.type < 4294967296 at hw1
  change v.snap < 4294967296 at hw2
  change v.time < 18446744073709551616 at hw3
  change v.len < 4294967296 at hw4'
  have HB := Hd (Below.refl w.heap.size w)
  have HV := Hd hv
  have HFIT := Hd hfit
  have HWo := Hd hwo
  have HWn := Hd hwn
  obtain ⟨PO, hPO⟩ : ∃ P, P = putAll big (vals v.os) := ⟨_, rfl⟩
  have hpl : PO.length ≤ 70424 := by rw [hPO, z0q]; split <;> omega
  have HPO := Hd hPO
  obtain ⟨L0, hL0⟩ : ∃ L : List UInt8, L = [] := ⟨_, rfl⟩
  have hn0 : L0.length ≤ 0 := by rw [hL0]; exact Nat.le_refl _
  have HL0 := Hd hL0
  obtain ⟨ic, hic⟩ : ∃ n : Nat, v.iface = (n : Int) := ⟨v.iface.toNat, by omega⟩
  have hiw : IntKind.u64.wrap (ic : Int) = (ic : Int) := z15 _ (by omega)
  have hit : v.iface.toNat = ic := by omega
  have HIT := Hd hit
  clear hv hf hm hfit hwo hwn hlast hPO hL0
  go_enter Try.func48, Try.ntmps48
  go_wp2_with (first
 | ((with_reducible refine sl 2 ?_); (refine z1f rfl 27 (.tmp 0) rfl v.cells.toArray rfl ?_); intro w1 hg1 hb1; have hz1 := lt_of_block hg1; obtain ⟨w4, hw4⟩ : ∃ w4, w4 = ((w1.alloc (.cells #[.bool big] 4)).alloc (.cells #[.slice none 0 0] 24)).alloc (.cells #[.func (.func 76) #[] #[.pointer (some ⟨w1.heap.size + 1, 0, none⟩), .pointer (some ⟨w1.heap.size, 0, none⟩)]] 97) := ⟨_, rfl⟩; have h14 := z22 w1 big; rw [← hw4] at h14; have HG := Hd ((h14.1.block _ hz1).trans hg1); have H6 := Hd h14.2.2; have ho4 := h14.2.1; rw [← HL0.out] at ho4; have HO := Hd ho4; clear ho4; have HB' := Hd ((HB.out.trans hb1).trans (h14.1.mono (by omega))); clear HB; have HB := HB'; clear HB'; have HW4 := Hd hw4; obtain ⟨c0, c1, c2, c3, c4, c5, c6, c7, c8, c9, c10⟩ := z03 HG.out; have m6 := cell_of_one H6.out; unfold numF at m6; obtain ⟨ad5, k5, h51, h52, h53, _, _, _, h57⟩ := HO.out; have m5 := cell_of_one h51; have m3 := cell_of_one h53; have f5 := free_of_one h51; have H51 := Hd h51; have H52 := Hd h52; have H53 := Hd h53; have H57 := Hd h57; clear h51 h52 h53 h57; clear hg1 hb1 hw4 h14; simp only [PT])
 | ((with_reducible refine sl 14 ?_); rw [← HW4.out]; clear HW4)
 | (go_at_call 76; (with_reducible show Calls _ _ #[Value.int .u64 ((ic : Nat) : Int), .int .i64 4, _, _] _ _); (refine (z2w (w1.heap.size + 3) (w1.heap.size + 1) w1.heap.size big L0 ic 4 (by omega) (by omega) _ HO.out).mono ?_); rintro e w11 ⟨rfl, ho, hk⟩; obtain ⟨L1, hL1⟩ : ∃ L, L = L0 ++ putL ic 4 big := ⟨_, rfl⟩; rw [← hL1] at ho; have hn1 : L1.length ≤ L0.length + (putL ic 4 big).length := (by rw [hL1, List.length_append]; exact Nat.le_refl _); rw [z06] at hn1; have HL1 := Hd hL1; clear hL1; clear c0 c1 c2 c3 c4 c5 c6 c7 c8 c9 c10 m6 m5 m3 f5 H51 H52 H53 H57; have HG' := Hd (Kb.block hk (by omega) (by omega) HG.out); clear HG; have HG := HG'; clear HG'; have H6' := Hd (Kb.block hk (by omega) (by omega) H6.out); clear H6; have H6 := H6'; clear H6'; have HB' := Hd (Kb.below HB.out hk (by omega) (by omega)); clear HB; have HB := HB'; clear HB'; clear HO; have HO := Hd ho; obtain ⟨c0, c1, c2, c3, c4, c5, c6, c7, c8, c9, c10⟩ := z03 HG.out; have m6 := cell_of_one H6.out; unfold numF at m6; obtain ⟨ad5, k5, h51, h52, h53, _, _, _, h57⟩ := HO.out; have m5 := cell_of_one h51; have m3 := cell_of_one h53; have f5 := free_of_one h51; have H51 := Hd h51; have H52 := Hd h52; have H53 := Hd h53; have H57 := Hd h57; clear h51 h52 h53 h57; clear ho hk)
 | (go_at_call 77; (refine (time_any (w1.heap.size + 3) (w1.heap.size + 1) w1.heap.size (w1.heap.size + 1 + 1) w.heap.size big L1 (by omega) v hw3 _ HO.out H6.out HG.out (by omega) (by omega) (by omega) (by omega)).mono ?_); rintro e w12 ⟨rfl, ho, hk⟩; obtain ⟨L2, hL2⟩ : ∃ L, L = L1 ++ timeB big v.time := ⟨_, rfl⟩; rw [← hL2] at ho; have hn2 : L2.length ≤ L1.length + 8 := (by rw [hL2, List.length_append]; unfold timeB; rw [List.length_append, z06, z06]; exact Nat.le_refl _); have HL2 := Hd hL2; clear hL2; clear c0 c1 c2 c3 c4 c5 c6 c7 c8 c9 c10 m6 m5 m3 f5 H51 H52 H53 H57; have HG' := Hd (Kb.block hk (by omega) (by omega) HG.out); clear HG; have HG := HG'; clear HG'; have H6' := Hd (Kb.block hk (by omega) (by omega) H6.out); clear H6; have H6 := H6'; clear H6'; have HB' := Hd (Kb.below HB.out hk (by omega) (by omega)); clear HB; have HB := HB'; clear HB'; clear HO; have HO := Hd ho; obtain ⟨c0, c1, c2, c3, c4, c5, c6, c7, c8, c9, c10⟩ := z03 HG.out; have m6 := cell_of_one H6.out; unfold numF at m6; obtain ⟨ad5, k5, h51, h52, h53, _, _, _, h57⟩ := HO.out; have m5 := cell_of_one h51; have m3 := cell_of_one h53; have f5 := free_of_one h51; have H51 := Hd h51; have H52 := Hd h52; have H53 := Hd h53; have H57 := Hd h57; clear h51 h52 h53 h57; clear ho hk)
 | (go_at_call 80; (with_reducible show Calls _ _ #[Value.slice v.oad _ _, _] _ _); (refine (z1r v.oad v.on v.oc v.os big _ (HV.out.2.2.below (HB.out.trans (Below.mono bup HB.out.size))) (by omega)).mono ?_); intro e w40 hr; rw [HWo.out] at hr; rw [← HPO.out] at hr; obtain ⟨hb, h3⟩ := hr; rcases h3 with ⟨h3, _⟩ | ⟨_, ad40, c40, rfl, ho40⟩; exact absurd rfl h3; have H40 := Hd (Bs.of_own ho40); have ho := HO.out.below hb; have hk : Kb (w1.heap.size + 3) (w1.heap.size + 1) _ w40 := Kb.of_below (hb.mono H57.out); clear ho40; clear c0 c1 c2 c3 c4 c5 c6 c7 c8 c9 c10 m6 m5 m3 f5 H51 H52 H53 H57; have HG' := Hd (Kb.block hk (by omega) (by omega) HG.out); clear HG; have HG := HG'; clear HG'; have H6' := Hd (Kb.block hk (by omega) (by omega) H6.out); clear H6; have H6 := H6'; clear H6'; have HB' := Hd (Kb.below HB.out hk (by omega) (by omega)); clear HB; have HB := HB'; clear HB'; clear HO; have HO := Hd ho; obtain ⟨c0, c1, c2, c3, c4, c5, c6, c7, c8, c9, c10⟩ := z03 HG.out; have m6 := cell_of_one H6.out; unfold numF at m6; obtain ⟨ad5, k5, h51, h52, h53, _, _, _, h57⟩ := HO.out; have m5 := cell_of_one h51; have m3 := cell_of_one h53; have f5 := free_of_one h51; have H51 := Hd h51; have H52 := Hd h52; have H53 := Hd h53; have H57 := Hd h57; clear h51 h52 h53 h57; clear ho hk; clear hb)
 | ((with_reducible refine sl 117 ?_); (refine z0k elB rfl (.tmp 115) (.tmp 116) rfl (w1.heap.size + 3) rfl H52.out rfl H40.out (z11 _) (by unfold maxLen; omega) (by omega) H57.out ?_); intro ad41 c41 w41 hown hgr hat hnil; have HB' := Hd (HB.out.grown hgr HB.out.size (fun k e => by have := z07 H52.out k e; omega)); clear HB; have HB := HB'; clear HB'; rw [← z0i] at hown; have H41 := Hd (Bs.of_own hown); clear hown hgr hat hnil; simp only [PT]))
  have HFIN : Hid (L2 ++ PO = bodyB big v.val) := Hd (by
    rw [HL2.out, HL1.out, HL0.out, HPO.out]
    unfold bodyB fieldsB BlkV.val
    simp only [hk, HIT.out]
    simp [List.append_assoc])
  go_ret
  refine ⟨⟨ad41, c41, ?_, ?_⟩, HB.out⟩
  · rw [← HFIN.out, List.length_append]
    rfl
  · rw [← HFIN.out, List.length_append]
    exact H41.out
theorem body7_any (v : BlkV) (big : Bool) (w : World) (hv : Blk w v) (hk : v.kind = 7) (hf : SmB v) (hm : mayP v.val = true) (hw : wfB v.val) :
    Calls Try.prog 48 #[.agg v.cells.toArray, .bool big] w fun e w' => (∃ ad c, e = .returned (.slice ad (bodyB big v.val).length c) ∧ Bs w' ad (bodyB big v.val).length c (bodyB big v.val)) ∧ Below w.heap.size w w' := by
  obtain ⟨z1, z2, z3⟩ := hf.sizes
  obtain ⟨_, hfit, hlink, hifc, hwo, hwn, hlast⟩ := (z1c v.val).1 hm
  obtain ⟨hw1, hw2, hw3, hw4'⟩ := hw
  change 0 ≤ v.link ∧ v.link ≤ 65535 at hlink
  change 0 ≤ v.iface ∧ v.iface ≤ 4294967295 at hifc
  change wrongO (vals v.os) = 0 at hwo
  change wrongO (vals v.ns) = 0 at hwn
  change v.type < 4294967296 at hw1
  change v.snap < 4294967296 at hw2
  change v.time < 18446744073709551616 at hw3
  change v.len < 4294967296 at hw4'
  have HB := Hd (Below.refl w.heap.size w)
  have HV := Hd hv
  have HFIT := Hd hfit
  have HWo := Hd hwo
  have HWn := Hd hwn
  obtain ⟨PO, hPO⟩ : ∃ P, P = putAll big (vals v.os) := ⟨_, rfl⟩
  have hpl : PO.length ≤ 70424 := by rw [hPO, z0q]; split <;> omega
  have HPO := Hd hPO
  obtain ⟨L0, hL0⟩ : ∃ L : List UInt8, L = [] := ⟨_, rfl⟩
  have hn0 : L0.length ≤ 0 := by rw [hL0]; exact Nat.le_refl _
  have HL0 := Hd hL0
  have HDL := Hd hv.1.len
  clear hv hf hm hfit hwo hwn hlast hPO hL0
  go_enter Try.func48, Try.ntmps48
  go_wp2_with (first
 | ((with_reducible refine sl 2 ?_); (refine z1f rfl 27 (.tmp 0) rfl v.cells.toArray rfl ?_); intro w1 hg1 hb1; have hz1 := lt_of_block hg1; obtain ⟨w4, hw4⟩ : ∃ w4, w4 = ((w1.alloc (.cells #[.bool big] 4)).alloc (.cells #[.slice none 0 0] 24)).alloc (.cells #[.func (.func 76) #[] #[.pointer (some ⟨w1.heap.size + 1, 0, none⟩), .pointer (some ⟨w1.heap.size, 0, none⟩)]] 97) := ⟨_, rfl⟩; have h14 := z22 w1 big; rw [← hw4] at h14; have HG := Hd ((h14.1.block _ hz1).trans hg1); have H6 := Hd h14.2.2; have ho4 := h14.2.1; rw [← HL0.out] at ho4; have HO := Hd ho4; clear ho4; have HB' := Hd ((HB.out.trans hb1).trans (h14.1.mono (by omega))); clear HB; have HB := HB'; clear HB'; have HW4 := Hd hw4; obtain ⟨c0, c1, c2, c3, c4, c5, c6, c7, c8, c9, c10⟩ := z03 HG.out; have m6 := cell_of_one H6.out; unfold numF at m6; obtain ⟨ad5, k5, h51, h52, h53, _, _, _, h57⟩ := HO.out; have m5 := cell_of_one h51; have m3 := cell_of_one h53; have f5 := free_of_one h51; have H51 := Hd h51; have H52 := Hd h52; have H53 := Hd h53; have H57 := Hd h57; clear h51 h52 h53 h57; clear hg1 hb1 hw4 h14; simp only [PT])
 | ((with_reducible refine sl 14 ?_); rw [← HW4.out]; clear HW4)
 | ((with_reducible refine sl 19 ?_); (refine z0k elB rfl (.tmp 16) (.tmp 18) rfl (w1.heap.size + 3) rfl H52.out rfl (HV.out.1.below (HB.out.trans (Below.mono bup HB.out.size))) (z11 _) (by unfold maxLen; omega) (by omega) H57.out ?_); intro adn kn w7 hown hgr _ _; rw [← z0i] at hown; have HS7 := Hd (show Below (w1.heap.size + 3) w4 w7 from ((Below.refl _ _)).grown hgr H57.out (z07 H52.out)); have HO7 := Hd hown; have H517 := Hd ((HS7.out.block _ (by omega)).trans H51.out); have H537 := Hd ((HS7.out.block _ (by omega)).trans H53.out); clear hown hgr; simp only [PT])
 | ((with_reducible show wpList _ _ _ (⟨none, .store _ _ (.tmp 19), _, _, _, _⟩ :: _) _ _); (refine wpL_store1 rfl 24 (.tmp 5) (.tmp 19) rfl (w1.heap.size + 1) (.slice adn (L0.length + v.dn) kn) rfl rfl rfl H517.out (by kernel_rfl) ?_); intro w11 hg8 hgr8; obtain ⟨L1, hL1⟩ : ∃ L, L = L0 ++ v.dl := ⟨_, rfl⟩; have hl8 : L0.length + v.dn = (L0 ++ v.dl).length := (by (try have hdl := HDL.out); rw [List.length_append]; omega); have ho := z37 HO7.out hl8 hg8 hgr8 H537.out (by omega) (by omega) (by omega) (Nat.le_trans H57.out HS7.out.size); have hk := Kb.trans (Kb.of_below (g5 := w1.heap.size + 1) HS7.out) (Kb.of_grown hgr8 (Nat.le_trans H57.out HS7.out.size)); rw [← hL1] at ho; have hn1 : L1.length ≤ L0.length + v.dn := (by rw [hL1, ← hl8]; exact Nat.le_refl _); have HL1 := Hd hL1; clear hL1 hl8 hg8 hgr8 HS7 HO7 H517 H537; clear c0 c1 c2 c3 c4 c5 c6 c7 c8 c9 c10 m6 m5 m3 f5 H51 H52 H53 H57; have HG' := Hd (Kb.block hk (by omega) (by omega) HG.out); clear HG; have HG := HG'; clear HG'; have H6' := Hd (Kb.block hk (by omega) (by omega) H6.out); clear H6; have H6 := H6'; clear H6'; have HB' := Hd (Kb.below HB.out hk (by omega) (by omega)); clear HB; have HB := HB'; clear HB'; clear HO; have HO := Hd ho; obtain ⟨c0, c1, c2, c3, c4, c5, c6, c7, c8, c9, c10⟩ := z03 HG.out; have m6 := cell_of_one H6.out; unfold numF at m6; obtain ⟨ad5, k5, h51, h52, h53, _, _, _, h57⟩ := HO.out; have m5 := cell_of_one h51; have m3 := cell_of_one h53; have f5 := free_of_one h51; have H51 := Hd h51; have H52 := Hd h52; have H53 := Hd h53; have H57 := Hd h57; clear h51 h52 h53 h57; clear ho hk; simp only [PT])
 | (go_at_call 80; (with_reducible show Calls _ _ #[Value.slice v.oad _ _, _] _ _); (refine (z1r v.oad v.on v.oc v.os big _ (HV.out.2.2.below (HB.out.trans (Below.mono bup HB.out.size))) (by omega)).mono ?_); intro e w40 hr; rw [HWo.out] at hr; rw [← HPO.out] at hr; obtain ⟨hb, h3⟩ := hr; rcases h3 with ⟨h3, _⟩ | ⟨_, ad40, c40, rfl, ho40⟩; exact absurd rfl h3; have H40 := Hd (Bs.of_own ho40); have ho := HO.out.below hb; have hk : Kb (w1.heap.size + 3) (w1.heap.size + 1) _ w40 := Kb.of_below (hb.mono H57.out); clear ho40; clear c0 c1 c2 c3 c4 c5 c6 c7 c8 c9 c10 m6 m5 m3 f5 H51 H52 H53 H57; have HG' := Hd (Kb.block hk (by omega) (by omega) HG.out); clear HG; have HG := HG'; clear HG'; have H6' := Hd (Kb.block hk (by omega) (by omega) H6.out); clear H6; have H6 := H6'; clear H6'; have HB' := Hd (Kb.below HB.out hk (by omega) (by omega)); clear HB; have HB := HB'; clear HB'; clear HO; have HO := Hd ho; obtain ⟨c0, c1, c2, c3, c4, c5, c6, c7, c8, c9, c10⟩ := z03 HG.out; have m6 := cell_of_one H6.out; unfold numF at m6; obtain ⟨ad5, k5, h51, h52, h53, _, _, _, h57⟩ := HO.out; have m5 := cell_of_one h51; have m3 := cell_of_one h53; have f5 := free_of_one h51; have H51 := Hd h51; have H52 := Hd h52; have H53 := Hd h53; have H57 := Hd h57; clear h51 h52 h53 h57; clear ho hk; clear hb)
 | ((with_reducible refine sl 117 ?_); (refine z0k elB rfl (.tmp 115) (.tmp 116) rfl (w1.heap.size + 3) rfl H52.out rfl H40.out (z11 _) (by unfold maxLen; omega) (by omega) H57.out ?_); intro ad41 c41 w41 hown hgr hat hnil; have HB' := Hd (HB.out.grown hgr HB.out.size (fun k e => by have := z07 H52.out k e; omega)); clear HB; have HB := HB'; clear HB'; rw [← z0i] at hown; have H41 := Hd (Bs.of_own hown); clear hown hgr hat hnil; simp only [PT]))
  have HFIN : Hid (L1 ++ PO = bodyB big v.val) := Hd (by
    rw [HL1.out, HL0.out, HPO.out]
    unfold bodyB fieldsB BlkV.val
    simp [hk])
  go_ret
  refine ⟨⟨ad41, c41, ?_, ?_⟩, HB.out⟩
  · rw [← HFIN.out, List.length_append]
    rfl
  · rw [← HFIN.out, List.length_append]
    exact H41.out
theorem body4_any (v : BlkV) (big : Bool) (w : World) (hv : Blk w v) (hk : v.kind = 4) (hf : SmB v) (hm : mayP v.val = true) (hw : wfB v.val) :
    Calls Try.prog 48 #[.agg v.cells.toArray, .bool big] w fun e w' => (∃ ad c, e = .returned (.slice ad (bodyB big v.val).length c) ∧ Bs w' ad (bodyB big v.val).length c (bodyB big v.val)) ∧ Below w.heap.size w w' := by
  obtain ⟨z1, z2, z3⟩ := hf.sizes
  obtain ⟨_, hfit, hlink, hifc, hwo, hwn, hlast⟩ := (z1c v.val).1 hm
  obtain ⟨hw1, hw2, hw3, hw4'⟩ := hw
  change 0 ≤ v.link ∧ v.link ≤ 65535 at hlink
  change 0 ≤ v.iface ∧ v.iface ≤ 4294967295 at hifc
  change wrongO (vals v.os) = 0 at hwo
  change wrongO (vals v.ns) = 0 at hwn
  change v.type < 4294967296 at hw1
  change v.snap < 4294967296 at hw2
  change v.time < 18446744073709551616 at hw3
  change v.len < 4294967296 at hw4'
  have HB := Hd (Below.refl w.heap.size w)
  have HV := Hd hv
  have HFIT := Hd hfit
  have HWo := Hd hwo
  have HWn := Hd hwn
  obtain ⟨PO, hPO⟩ : ∃ P, P = putAll big (vals v.os) := ⟨_, rfl⟩
  have hpl : PO.length ≤ 70424 := by rw [hPO, z0q]; split <;> omega
  have HPO := Hd hPO
  obtain ⟨L0, hL0⟩ : ∃ L : List UInt8, L = [] := ⟨_, rfl⟩
  have hn0 : L0.length ≤ 0 := by rw [hL0]; exact Nat.le_refl _
  have HL0 := Hd hL0
  have hlnw : IntKind.u64.wrap (v.len : Int) = (v.len : Int) := z15 _ (by omega)
  have hdnw : IntKind.u64.wrap (v.dn : Int) = (v.dn : Int) := z15 _ (by omega)
  obtain ⟨pdn, hpdn⟩ : ∃ n, n = (padL v.dl).length := ⟨_, rfl⟩
  have hpdb : pdn ≤ 1100003 := by rw [hpdn, z0w]; have := padN_le v.dl.length; have := hv.1.len; omega
  have HPD := Hd hpdn
  clear hpdn hv hf hm hfit hwo hwn hlast hPO hL0
  go_enter Try.func48, Try.ntmps48
  go_wp2_with (first
 | ((with_reducible refine sl 2 ?_); (refine z1f rfl 27 (.tmp 0) rfl v.cells.toArray rfl ?_); intro w1 hg1 hb1; have hz1 := lt_of_block hg1; obtain ⟨w4, hw4⟩ : ∃ w4, w4 = ((w1.alloc (.cells #[.bool big] 4)).alloc (.cells #[.slice none 0 0] 24)).alloc (.cells #[.func (.func 76) #[] #[.pointer (some ⟨w1.heap.size + 1, 0, none⟩), .pointer (some ⟨w1.heap.size, 0, none⟩)]] 97) := ⟨_, rfl⟩; have h14 := z22 w1 big; rw [← hw4] at h14; have HG := Hd ((h14.1.block _ hz1).trans hg1); have H6 := Hd h14.2.2; have ho4 := h14.2.1; rw [← HL0.out] at ho4; have HO := Hd ho4; clear ho4; have HB' := Hd ((HB.out.trans hb1).trans (h14.1.mono (by omega))); clear HB; have HB := HB'; clear HB'; have HW4 := Hd hw4; obtain ⟨c0, c1, c2, c3, c4, c5, c6, c7, c8, c9, c10⟩ := z03 HG.out; have m6 := cell_of_one H6.out; unfold numF at m6; obtain ⟨ad5, k5, h51, h52, h53, _, _, _, h57⟩ := HO.out; have m5 := cell_of_one h51; have m3 := cell_of_one h53; have f5 := free_of_one h51; have H51 := Hd h51; have H52 := Hd h52; have H53 := Hd h53; have H57 := Hd h57; clear h51 h52 h53 h57; clear hg1 hb1 hw4 h14; simp only [PT])
 | ((with_reducible refine sl 14 ?_); rw [← HW4.out]; clear HW4)
 | (go_at_call 76; (with_reducible show Calls _ _ #[Value.int .u64 ((v.len : Nat) : Int), .int .i64 4, _, _] _ _); (refine (z2w (w1.heap.size + 3) (w1.heap.size + 1) w1.heap.size big L0 v.len 4 (by omega) (by omega) _ HO.out).mono ?_); rintro e w11 ⟨rfl, ho, hk⟩; obtain ⟨L1, hL1⟩ : ∃ L, L = L0 ++ putL v.len 4 big := ⟨_, rfl⟩; rw [← hL1] at ho; have hn1 : L1.length ≤ L0.length + (putL v.len 4 big).length := (by rw [hL1, List.length_append]; exact Nat.le_refl _); rw [z06] at hn1; have HL1 := Hd hL1; clear hL1; clear c0 c1 c2 c3 c4 c5 c6 c7 c8 c9 c10 m6 m5 m3 f5 H51 H52 H53 H57; have HG' := Hd (Kb.block hk (by omega) (by omega) HG.out); clear HG; have HG := HG'; clear HG'; have H6' := Hd (Kb.block hk (by omega) (by omega) H6.out); clear H6; have H6 := H6'; clear H6'; have HB' := Hd (Kb.below HB.out hk (by omega) (by omega)); clear HB; have HB := HB'; clear HB'; clear HO; have HO := Hd ho; obtain ⟨c0, c1, c2, c3, c4, c5, c6, c7, c8, c9, c10⟩ := z03 HG.out; have m6 := cell_of_one H6.out; unfold numF at m6; obtain ⟨ad5, k5, h51, h52, h53, _, _, _, h57⟩ := HO.out; have m5 := cell_of_one h51; have m3 := cell_of_one h53; have f5 := free_of_one h51; have H51 := Hd h51; have H52 := Hd h52; have H53 := Hd h53; have H57 := Hd h57; clear h51 h52 h53 h57; clear ho hk))
  refine wp_region_held_drew (S := fun u => u.cell? ⟨w.heap.size, 8, none⟩ = some (.slice v.dad v.dn v.dc)) (by kernel_rfl) ?_ (fun hHeld => ?_); (focus (first | exact (z03 HG.out).2.2.2.2.2.2.2.2.1 | exact (z03 HGx.out).2.2.2.2.2.2.2.2.1)); (refine tk 1 (oi := ⟨some 79, _, _, _, _, _⟩) (v := ?_) rfl (by kernel_rfl) (.inl ⟨by rfl, ?_⟩) hHeld ?_; rotate_left; focus (intro w hSw; (try dsimp only at hSw); go_simp; try with_reducible rfl)); simp only [PT]; (refine tk 2 (oi := ⟨some 80, _, _, _, _, _⟩) (v := ?_) rfl (by kernel_rfl) (.inl ⟨by rfl, ?_⟩) hHeld ?_; rotate_left; focus (intro w hSw; (try dsimp only at hSw); go_simp; try with_reducible rfl)); simp only [PT]; refine wpAnyH_ready (rs := [0, 3]) (by kernel_rfl) (by simp) ?_; refine (AllReadyH.cons (o := ⟨some 78, _, _, _, _, _⟩) rfl (fun K hK => ?_) (AllReadyH.cons (o := ⟨some 81, _, _, _, _, _⟩) rfl (fun K hK => ?_) AllReadyH.nil)); (have m5 := cell_of_one H51.out; go_simp); refine hK.out _ _ ?_ (fun hHeld => ?_); (focus (first | exact (z03 HG.out).2.2.2.2.2.2.2.2.1 | exact (z03 HGx.out).2.2.2.2.2.2.2.2.1)); clear hK K; (try simp only [PT]); refine wpAnyH_ready (rs := [3]) (by kernel_rfl) (by simp) ?_; refine (AllReadyH.cons (o := ⟨some 81, _, _, _, _, _⟩) rfl (fun K hK => ?_) AllReadyH.nil); (focus (go_simp; (refine (z3p v.dad v.dn v.dc v.dl _ (HV.out.1.below (HB.out.trans (Below.mono bup HB.out.size))) (by omega)).mono ?_); intro e w30 hr; unfold RetB at hr; rw [← HPD.out] at hr; obtain ⟨ad30, k30, rfl, ho30, hb30⟩ := hr; have hB30 : Below w11.heap.size w11 w30 := ((Below.refl _ _).drew).trans hb30; have hE__ := cU HB bup hb30; replace HB := ck HB hE__; replace HG := ck HG hE__; replace H6 := ck H6 hE__; replace H51 := ck H51 hE__; replace H53 := ck H53 hE__; replace H52 := ck H52 hE__; clear hE__; have H57' := Hd (Nat.le_trans H57.out hB30.size); have HS0 := Hd hB30; have HP30 := Hd (Bs.of_own ho30); clear ho30 hb30 hB30; go_wp2_with fail)); refine hK.out _ _ ?_ (fun hHeld => ?_); (focus (first | exact (z03 HG.out).2.2.2.2.2.2.2.2.1 | exact (z03 HGx.out).2.2.2.2.2.2.2.2.1)); clear hK K; (try simp only [PT]); refine wpAnyH_ready (rs := [4]) (by kernel_rfl) (by simp) ?_; refine (AllReadyH.cons (o := ⟨some 82, _, _, _, _, _⟩) rfl (fun K hK => ?_) AllReadyH.nil); ((refine z1v elB rfl (.tmp 78) (.tmp 81) rfl (w1.heap.size + 3) rfl H52.out rfl HP30.out (z11 _) (by unfold maxLen; omega) (by omega) H57'.out ?_); intro adn kn w31 hown hgr _ _; rw [← z0i] at hown; have HS7 := Hd (show Below (w1.heap.size + 3) w30 w31 from ((Below.refl _ _)).grown hgr H57'.out (z07 H52.out)); have HO7 := Hd hown; have H517 := Hd ((HS7.out.block _ (by omega)).trans H51.out); have H537 := Hd ((HS7.out.block _ (by omega)).trans H53.out); have HG7 := Hd ((HS7.out.block _ (by omega)).trans HG.out); clear HG; have HG := HG7; clear HG7 hown hgr); refine hK.out _ _ ?_ (fun hHeld => ?_); (focus (first | exact (z03 HG.out).2.2.2.2.2.2.2.2.1 | exact (z03 HGx.out).2.2.2.2.2.2.2.2.1)); clear hK K; (try simp only [PT]); refine wpAnyH_ready (rs := [5]) (by kernel_rfl) (by simp) ?_; refine (AllReadyH.cons (o := ⟨none, _, _, _, _, _⟩) rfl (fun K hK => ?_) AllReadyH.nil); ((refine z2i rfl 24 (.tmp 5) (.tmp 82) rfl (w1.heap.size + 1) (.slice adn (L1.length + pdn) kn) rfl rfl rfl H517.out (by kernel_rfl) ?_); intro w32 hg8 hgr8; have HGx := Hd ((hgr8.block _ (lt_of_block HG.out) (by intro e; simp at e; omega)).trans HG.out); have H8 := Hd hg8; have HR8 := Hd hgr8; clear hg8 hgr8); refine hK.out _ _ ?_ (fun hHeld => ?_); (focus (first | exact (z03 HG.out).2.2.2.2.2.2.2.2.1 | exact (z03 HGx.out).2.2.2.2.2.2.2.2.1)); clear hK K; (try simp only [PT]); refine wpAnyH_done (by kernel_rfl) ?_ _; rotate_left
  (focus (go_simp; (refine (z3p v.dad v.dn v.dc v.dl _ (HV.out.1.below (HB.out.trans (Below.mono bup HB.out.size))) (by omega)).mono ?_); intro e w30 hr; unfold RetB at hr; rw [← HPD.out] at hr; obtain ⟨ad30, k30, rfl, ho30, hb30⟩ := hr; have hB30 : Below w11.heap.size w11 w30 := ((Below.refl _ _).drew).trans hb30; have hE__ := cU HB bup hb30; replace HB := ck HB hE__; replace HG := ck HG hE__; replace H6 := ck H6 hE__; replace H51 := ck H51 hE__; replace H53 := ck H53 hE__; replace H52 := ck H52 hE__; clear hE__; have H57' := Hd (Nat.le_trans H57.out hB30.size); have HS0 := Hd hB30; have HP30 := Hd (Bs.of_own ho30); clear ho30 hb30 hB30; go_wp2_with fail)); refine hK.out _ _ ?_ (fun hHeld => ?_); (focus (first | exact (z03 HG.out).2.2.2.2.2.2.2.2.1 | exact (z03 HGx.out).2.2.2.2.2.2.2.2.1)); clear hK K; (try simp only [PT]); refine wpAnyH_ready (rs := [0]) (by kernel_rfl) (by simp) ?_; refine (AllReadyH.cons (o := ⟨some 78, _, _, _, _, _⟩) rfl (fun K hK => ?_) AllReadyH.nil); (have m5 := cell_of_one H51.out; go_simp); refine hK.out _ _ ?_ (fun hHeld => ?_); (focus (first | exact (z03 HG.out).2.2.2.2.2.2.2.2.1 | exact (z03 HGx.out).2.2.2.2.2.2.2.2.1)); clear hK K; (try simp only [PT]); refine wpAnyH_ready (rs := [4]) (by kernel_rfl) (by simp) ?_; refine (AllReadyH.cons (o := ⟨some 82, _, _, _, _, _⟩) rfl (fun K hK => ?_) AllReadyH.nil); ((refine z1v elB rfl (.tmp 78) (.tmp 81) rfl (w1.heap.size + 3) rfl H52.out rfl HP30.out (z11 _) (by unfold maxLen; omega) (by omega) H57'.out ?_); intro adn kn w31 hown hgr _ _; rw [← z0i] at hown; have HS7 := Hd (show Below (w1.heap.size + 3) w30 w31 from ((Below.refl _ _)).grown hgr H57'.out (z07 H52.out)); have HO7 := Hd hown; have H517 := Hd ((HS7.out.block _ (by omega)).trans H51.out); have H537 := Hd ((HS7.out.block _ (by omega)).trans H53.out); have HG7 := Hd ((HS7.out.block _ (by omega)).trans HG.out); clear HG; have HG := HG7; clear HG7 hown hgr); refine hK.out _ _ ?_ (fun hHeld => ?_); (focus (first | exact (z03 HG.out).2.2.2.2.2.2.2.2.1 | exact (z03 HGx.out).2.2.2.2.2.2.2.2.1)); clear hK K; (try simp only [PT]); refine wpAnyH_ready (rs := [5]) (by kernel_rfl) (by simp) ?_; refine (AllReadyH.cons (o := ⟨none, _, _, _, _, _⟩) rfl (fun K hK => ?_) AllReadyH.nil); ((refine z2i rfl 24 (.tmp 5) (.tmp 82) rfl (w1.heap.size + 1) (.slice adn (L1.length + pdn) kn) rfl rfl rfl H517.out (by kernel_rfl) ?_); intro w32 hg8 hgr8; have HGx := Hd ((hgr8.block _ (lt_of_block HG.out) (by intro e; simp at e; omega)).trans HG.out); have H8 := Hd hg8; have HR8 := Hd hgr8; clear hg8 hgr8); refine hK.out _ _ ?_ (fun hHeld => ?_); (focus (first | exact (z03 HG.out).2.2.2.2.2.2.2.2.1 | exact (z03 HGx.out).2.2.2.2.2.2.2.2.1)); clear hK K; (try simp only [PT]); refine wpAnyH_done (by kernel_rfl) ?_ _; rotate_left
  all_goals
    obtain ⟨L2, hL2⟩ : ∃ L, L = L1 ++ padL v.dl := ⟨_, rfl⟩
    have hl8 : L1.length + pdn = (L1 ++ padL v.dl).length := by rw [List.length_append, ← HPD.out]
    have ho := z37 HO7.out hl8 H8.out HR8.out H537.out (by omega) (by omega) (by omega) (Nat.le_trans H57'.out HS7.out.size)
    have hk0 : Kb (w1.heap.size + 3) (w1.heap.size + 1) w30 w32 := Kb.trans (Kb.of_below HS7.out) (Kb.of_grown HR8.out (Nat.le_trans H57'.out HS7.out.size))
    rw [← hL2] at ho
    have hn2 : L2.length ≤ L1.length + pdn := by rw [hL2, ← hl8]; exact Nat.le_refl _
    have HL2 := Hd hL2
    clear hL2 hl8 HG H8 HR8 HS7 HO7 H517 H537 c0 c1 c2 c3 c4 c5 c6 c7 c8 c9 c10 m6 m5 m3 f5 H51 H52 H53 H57
    have HG := HGx
    clear HGx
    have H6' := Hd (Kb.block hk0 (by omega) (by omega) H6.out); clear H6; have H6 := H6'; clear H6'
    have HB' := Hd (Kb.below HB.out hk0 (by omega) (by omega)); clear HB; have HB := HB'; clear HB'
    clear HO
    have HO := Hd ho
    obtain ⟨c0, c1, c2, c3, c4, c5, c6, c7, c8, c9, c10⟩ := z03 HG.out; have m6 := cell_of_one H6.out; unfold numF at m6; obtain ⟨ad5, k5, h51, h52, h53, _, _, _, h57⟩ := HO.out; have m5 := cell_of_one h51; have m3 := cell_of_one h53; have f5 := free_of_one h51; have H51 := Hd h51; have H52 := Hd h52; have H53 := Hd h53; have H57 := Hd h57; clear h51 h52 h53 h57
    clear ho hk0 HP30 HS0 H57'
    go_wp2_with (first
 | (go_at_call 80; (with_reducible show Calls _ _ #[Value.slice v.oad _ _, _] _ _); (refine (z1r v.oad v.on v.oc v.os big _ (HV.out.2.2.below (HB.out.trans (Below.mono bup HB.out.size))) (by omega)).mono ?_); intro e w40 hr; rw [HWo.out] at hr; rw [← HPO.out] at hr; obtain ⟨hb, h3⟩ := hr; rcases h3 with ⟨h3, _⟩ | ⟨_, ad40, c40, rfl, ho40⟩; exact absurd rfl h3; have H40 := Hd (Bs.of_own ho40); have ho := HO.out.below hb; have hk : Kb (w1.heap.size + 3) (w1.heap.size + 1) _ w40 := Kb.of_below (hb.mono H57.out); clear ho40; clear c0 c1 c2 c3 c4 c5 c6 c7 c8 c9 c10 m6 m5 m3 f5 H51 H52 H53 H57; have HG' := Hd (Kb.block hk (by omega) (by omega) HG.out); clear HG; have HG := HG'; clear HG'; have H6' := Hd (Kb.block hk (by omega) (by omega) H6.out); clear H6; have H6 := H6'; clear H6'; have HB' := Hd (Kb.below HB.out hk (by omega) (by omega)); clear HB; have HB := HB'; clear HB'; clear HO; have HO := Hd ho; obtain ⟨c0, c1, c2, c3, c4, c5, c6, c7, c8, c9, c10⟩ := z03 HG.out; have m6 := cell_of_one H6.out; unfold numF at m6; obtain ⟨ad5, k5, h51, h52, h53, _, _, _, h57⟩ := HO.out; have m5 := cell_of_one h51; have m3 := cell_of_one h53; have f5 := free_of_one h51; have H51 := Hd h51; have H52 := Hd h52; have H53 := Hd h53; have H57 := Hd h57; clear h51 h52 h53 h57; clear ho hk; clear hb)
 | ((with_reducible refine sl 117 ?_); (refine z0k elB rfl (.tmp 115) (.tmp 116) rfl (w1.heap.size + 3) rfl H52.out rfl H40.out (z11 _) (by unfold maxLen; omega) (by omega) H57.out ?_); intro ad41 c41 w41 hown hgr hat hnil; have HB' := Hd (HB.out.grown hgr HB.out.size (fun k e => by have := z07 H52.out k e; omega)); clear HB; have HB := HB'; clear HB'; rw [← z0i] at hown; have H41 := Hd (Bs.of_own hown); clear hown hgr hat hnil; simp only [PT]))
    have HFIN : Hid (L2 ++ PO = bodyB big v.val) := Hd (by
      rw [HL2.out, HL1.out, HL0.out, HPO.out]
      unfold bodyB fieldsB BlkV.val
      simp [hk, List.append_assoc])
    go_ret
    refine ⟨⟨ad41, c41, ?_, ?_⟩, HB.out⟩
    · rw [← HFIN.out, List.length_append]
      rfl
    · rw [← HFIN.out, List.length_append]
      exact H41.out
end Go.Proofs.Ytmfplinbbcoahaa
