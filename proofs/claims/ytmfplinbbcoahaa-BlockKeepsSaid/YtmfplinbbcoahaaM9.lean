/-
  Joined by program (merge.py): Blk5, Blk7, Blk8.
-/
import Derived.Test.YtmfplinbbcoahaaM8
/-
  Chapter 26: may a block be? walked.
-/
namespace Go.Proofs.Ytmfplinbbcoahaa
open Go.RowKit Go.Sort
set_option linter.unusedVariables false
set_option linter.unusedSimpArgs false

theorem skip_if {c : Prop} [Decidable c] {A B : Prop} (h : ¬ c) (hb : B) : if c then A else B := by rw [if_neg h]; exact hb
theorem only_fits (v : BlkV) (h1 : 1 ≤ v.kind) (h7 : v.kind ≤ 7) : sameP v.val (onlyV v).val = fitsP v.val := by
  rw [Bool.eq_iff_iff, sameP_iff]
  obtain ⟨kind, big, type, link, snap, iface, time, len, dad, dn, dc, dl, nad, nn, nc, ns, oad, on, oc, os⟩ := v
  simp only at h1 h7
  have hv : vals ([] : List OptV) = [] := rfl
  rcases kind_cases h1 h7 with rfl | rfl | rfl | rfl | rfl | rfl | rfl <;>
    simp [onlyV, BlkV.val, fitsP, PB.mk.injEq, hv, and_assoc] <;> try omega
def lastV (v : BlkV) : Bool := (v.kind != 4 || v.dn == v.len || (decide (v.dn < v.len) && v.dn % 4 == 0)) && (v.kind != 7 || (v.dn % 4 == 0 && kindP v.type == 7))
theorem mayV_val {w : World} {v : BlkV} (h : Blk w v) : mayP v.val = (decide (1 ≤ v.kind) && decide (v.kind ≤ 7) && fitsP v.val && decide (0 ≤ v.link) && decide (v.link ≤ 65535) && decide (0 ≤ v.iface) && decide (v.iface ≤ 4294967295) && (wrongO (vals v.os) == 0) && (wrongO (vals v.ns) == 0) && lastV v) := by
  obtain ⟨h1, h2, h3⟩ := h.lens
  unfold mayP lastV lastP BlkV.val
  simp only [← h1]
theorem blkS {u : World} {g : Nat} {v : BlkV} {T : TypeId} {fz : Nat × Nat} (h : u.heap[g]? = some (.cells v.cells.toArray T fz)) :
    u.rangeAt g 0 v.cells ∧ u.cell? ⟨g, 0, none⟩ = some (.int .i64 v.kind) ∧ u.cell? ⟨g, 3, none⟩ = some (.int .i64 v.link) ∧ u.cell? ⟨g, 5, none⟩ = some (.int .i64 v.iface) ∧ u.cell? ⟨g, 9, none⟩ = some (.slice v.nad v.nn v.nc) ∧ u.cell? ⟨g, 10, none⟩ = some (.slice v.oad v.on v.oc) := by
  obtain ⟨c0, c1, c2, c3, c4, c5, c6, c7, c8, c9, c10⟩ := blk_cells h
  exact ⟨range_block h, c0, c3, c5, c9, c10⟩

set_option maxRecDepth 100000 in
set_option maxHeartbeats 16000000 in
theorem may_any (v : BlkV) (w : World) (hv : Blk w v) (hf : SmB v) (hl : v.len < 4294967296) :
    Calls Try.prog 41 #[.agg v.cells.toArray] w fun e w' => e = .returned (.bool (mayP v.val)) ∧ Below w.heap.size w w' := by
  obtain ⟨z1, z2, z3⟩ := hf.sizes
  have HB := Lib.hid (Below.refl w.heap.size w)
  have HV := Lib.hid hv
  have HM := Lib.hid (mayV_val hv)
  unfold lastV at HM
  have HBI := Lib.hid blk_info
  obtain ⟨M, hM⟩ : ∃ M, M = mayP v.val := ⟨_, rfl⟩
  rw [← hM] at HM ⊢
  obtain ⟨F, hF⟩ : ∃ F, F = fitsP v.val := ⟨_, rfl⟩
  rw [← hF] at HM
  have HF := Lib.hid hF
  obtain ⟨Wo, hWo⟩ : ∃ W, W = (wrongO (vals v.os) == 0) := ⟨_, rfl⟩
  obtain ⟨Wn, hWn⟩ : ∃ W, W = (wrongO (vals v.ns) == 0) := ⟨_, rfl⟩
  obtain ⟨KT, hKT⟩ : ∃ K, K = kindP v.type := ⟨_, rfl⟩
  rw [← hWo, ← hWn, ← hKT] at HM
  have HWo := Lib.hid hWo
  have HWn := Lib.hid hWn
  have HKT := Lib.hid hKT
  have hwd : IntKind.u64.wrap (v.dn : Int) = (v.dn : Int) := u64_wrap_nat _ (by omega)
  have hwl : IntKind.u64.wrap (v.len : Int) = (v.len : Int) := u64_wrap_nat _ (by omega)
  clear hv hM hF hWo hWn hKT hf
  have cs : (v.kind < 1) ∨ (¬ v.kind < 1 ∧ 7 < v.kind) ∨ (¬ v.kind < 1 ∧ ¬ 7 < v.kind ∧ F = false) ∨ (¬ v.kind < 1 ∧ ¬ 7 < v.kind ∧ F = true ∧ v.link < 0) ∨ (¬ v.kind < 1 ∧ ¬ 7 < v.kind ∧ F = true ∧ ¬ v.link < 0 ∧ 65535 < v.link) ∨ (¬ v.kind < 1 ∧ ¬ 7 < v.kind ∧ F = true ∧ ¬ v.link < 0 ∧ ¬ 65535 < v.link ∧ v.iface < 0) ∨ (¬ v.kind < 1 ∧ ¬ 7 < v.kind ∧ F = true ∧ ¬ v.link < 0 ∧ ¬ 65535 < v.link ∧ ¬ v.iface < 0 ∧ 4294967295 < v.iface) ∨ (¬ v.kind < 1 ∧ ¬ 7 < v.kind ∧ F = true ∧ ¬ v.link < 0 ∧ ¬ 65535 < v.link ∧ ¬ v.iface < 0 ∧ ¬ 4294967295 < v.iface ∧ Wo = false) ∨ (¬ v.kind < 1 ∧ ¬ 7 < v.kind ∧ F = true ∧ ¬ v.link < 0 ∧ ¬ 65535 < v.link ∧ ¬ v.iface < 0 ∧ ¬ 4294967295 < v.iface ∧ Wo = true ∧ Wn = false) ∨ (¬ v.kind < 1 ∧ ¬ 7 < v.kind ∧ F = true ∧ ¬ v.link < 0 ∧ ¬ 65535 < v.link ∧ ¬ v.iface < 0 ∧ ¬ 4294967295 < v.iface ∧ Wo = true ∧ Wn = true) := by
    by_cases h1 : v.kind < 1
    · exact .inl h1
    by_cases h2 : 7 < v.kind
    · exact .inr (.inl ⟨h1, h2⟩)
    cases hF : F
    · exact .inr (.inr (.inl ⟨h1, h2, rfl⟩))
    by_cases h3 : v.link < 0
    · exact .inr (.inr (.inr (.inl ⟨h1, h2, rfl, h3⟩)))
    by_cases h4 : 65535 < v.link
    · exact .inr (.inr (.inr (.inr (.inl ⟨h1, h2, rfl, h3, h4⟩))))
    by_cases h5 : v.iface < 0
    · exact .inr (.inr (.inr (.inr (.inr (.inl ⟨h1, h2, rfl, h3, h4, h5⟩)))))
    by_cases h6 : 4294967295 < v.iface
    · exact .inr (.inr (.inr (.inr (.inr (.inr (.inl ⟨h1, h2, rfl, h3, h4, h5, h6⟩))))))
    cases hWo : Wo
    · exact .inr (.inr (.inr (.inr (.inr (.inr (.inr (.inl ⟨h1, h2, rfl, h3, h4, h5, h6, rfl⟩)))))))
    cases hWn : Wn
    · exact .inr (.inr (.inr (.inr (.inr (.inr (.inr (.inr (.inl ⟨h1, h2, rfl, h3, h4, h5, h6, rfl, rfl⟩))))))))
    · exact .inr (.inr (.inr (.inr (.inr (.inr (.inr (.inr (.inr ⟨h1, h2, rfl, h3, h4, h5, h6, rfl, rfl⟩))))))))
  rcases cs with h1 | ⟨h1, h2⟩ | ⟨h1, h2, hFv⟩ | ⟨h1, h2, hFv, h3⟩ | ⟨h1, h2, hFv, h3, h4⟩ | ⟨h1, h2, hFv, h3, h4, h5⟩ | ⟨h1, h2, hFv, h3, h4, h5, h6⟩ | ⟨h1, h2, hFv, h3, h4, h5, h6, hWov⟩ | ⟨h1, h2, hFv, h3, h4, h5, h6, hWov, hWnv⟩ | ⟨h1, h2, hFv, h3, h4, h5, h6, hWov, hWnv⟩
  all_goals
    (try (have HFv := Lib.hid hFv; clear hFv))
    (try (have HWov := Lib.hid hWov; clear hWov))
    (try (have HWnv := Lib.hid hWnv; clear hWnv))
    go_enter Try.func41, Try.ntmps41
    go_wp2_with ((with_reducible refine sl 1 ?_); go_must (refine wpL_box rfl 27 (.tmp 0) rfl v.cells.toArray rfl ?_); intro w1 hg1 hb1; have HG1 := Lib.hid hg1; have hE__ := cU HB bup hb1; replace HB := ck HB hE__; clear hE__; clear hg1 hb1; simp only [PT])
    refine wp_region_held_drew (S := fun u => u.rangeAt w.heap.size 0 v.cells ∧ u.cell? ⟨w.heap.size, 0, none⟩ = some (.int .i64 v.kind) ∧ u.cell? ⟨w.heap.size, 3, none⟩ = some (.int .i64 v.link) ∧ u.cell? ⟨w.heap.size, 5, none⟩ = some (.int .i64 v.iface) ∧ u.cell? ⟨w.heap.size, 9, none⟩ = some (.slice v.nad v.nn v.nc) ∧ u.cell? ⟨w.heap.size, 10, none⟩ = some (.slice v.oad v.on v.oc)) (by kernel_rfl) ?_ (fun hHeld => ?_)
    focus (exact blkS HG1.out)
    refine tk 0 (oi := ⟨some 4, _, _, _, _, _⟩) (v := ?_) rfl (by kernel_rfl) (.inl ⟨by rfl, ?_⟩) hHeld ?_; rotate_left; focus (intro w hSw; (try dsimp only at hSw); go_simp; try with_reducible rfl)
    simp only [PT]
    refine tk 1 (oi := ⟨some 5, _, _, _, _, _⟩) (v := ?_) rfl (by kernel_rfl) (.inl ⟨by rfl, ?_⟩) hHeld ?_; rotate_left; focus (intro w hSw; (try dsimp only at hSw); go_simp; try with_reducible rfl)
    simp only [PT]
    first | (refine' tk 2 (oi := ⟨some 6, _, _, _, _, _⟩) (v := (.bool false)) rfl (by kernel_rfl) (.inl ⟨by rfl, ?_⟩) hHeld ?_; focus (intro w hSw; (try dsimp only at hSw); go_simp; first | done | rfl | (simp [*]; done) | (simp [*]; omega))) | (refine' tk 2 (oi := ⟨some 6, _, _, _, _, _⟩) (v := (.bool true)) rfl (by kernel_rfl) (.inl ⟨by rfl, ?_⟩) hHeld ?_; focus (intro w hSw; (try dsimp only at hSw); go_simp; first | done | rfl | (simp [*]; done) | (simp [*]; omega)))
    simp only [PT]
    refine tk 3 (oi := ⟨some 7, _, _, _, _, _⟩) (v := ?_) rfl (by kernel_rfl) (.inl ⟨by rfl, ?_⟩) hHeld ?_; rotate_left; focus (intro w hSw; (try dsimp only at hSw); go_simp; try with_reducible rfl)
    simp only [PT]
    first | (refine tk 4 (oi := ⟨some 8, _, _, _, _, _⟩) (v := undef) rfl (by kernel_rfl) (.inr ⟨by rfl, rfl⟩) hHeld ?_) | (refine tk 4 (oi := ⟨some 8, _, _, _, _, _⟩) (v := ?_) rfl (by kernel_rfl) (.inl ⟨by rfl, ?_⟩) hHeld ?_; rotate_left; focus (intro w hSw; (try dsimp only at hSw); go_simp; try with_reducible rfl))
    simp only [PT]
    first | (refine tk 5 (oi := ⟨some 9, _, _, _, _, _⟩) (v := undef) rfl (by kernel_rfl) (.inr ⟨by rfl, rfl⟩) hHeld ?_) | (refine tk 5 (oi := ⟨some 9, _, _, _, _, _⟩) (v := ?_) rfl (by kernel_rfl) (.inl ⟨by rfl, ?_⟩) hHeld ?_; rotate_left; focus (intro w hSw; (try dsimp only at hSw); go_simp; try with_reducible rfl))
    simp only [PT]
    first | (refine tk 6 (oi := ⟨some 10, _, _, _, _, _⟩) (v := undef) rfl (by kernel_rfl) (.inr ⟨by rfl, rfl⟩) hHeld ?_) | (refine' tk 6 (oi := ⟨some 10, _, _, _, _, _⟩) (v := (.bool false)) rfl (by kernel_rfl) (.inl ⟨by rfl, ?_⟩) hHeld ?_; focus (intro w hSw; (try dsimp only at hSw); go_simp; first | done | rfl | (simp [*]; done) | (simp [*]; omega))) | (refine' tk 6 (oi := ⟨some 10, _, _, _, _, _⟩) (v := (.bool true)) rfl (by kernel_rfl) (.inl ⟨by rfl, ?_⟩) hHeld ?_; focus (intro w hSw; (try dsimp only at hSw); go_simp; first | done | rfl | (simp [*]; done) | (simp [*]; omega)))
    simp only [PT]
    refine tk 7 (oi := ⟨some 11, _, _, _, _, _⟩) (v := ?_) rfl (by kernel_rfl) (.inl ⟨by rfl, ?_⟩) hHeld ?_; rotate_left; focus (intro w hSw; (try dsimp only at hSw); go_simp; try with_reducible rfl)
    simp only [PT]
    refine tk 8 (oi := ⟨some 12, _, _, _, _, _⟩) (v := ?_) rfl (by kernel_rfl) (.inl ⟨by rfl, ?_⟩) hHeld ?_; rotate_left; focus (intro w hSw; (try dsimp only at hSw); go_simp; try with_reducible rfl)
    simp only [PT]
    first | (refine tk 9 (oi := ⟨some 13, _, _, _, _, _⟩) (v := undef) rfl (by kernel_rfl) (.inr ⟨by rfl, rfl⟩) hHeld ?_) | (refine' tk 9 (oi := ⟨some 13, _, _, _, _, _⟩) (v := _) rfl (by kernel_rfl) (yieldsIf_load_mid (by rfl) _ _ rfl _ _ rfl (v.cells) _ (fun u hu => hu.1) (Try.underlying27) rfl (HBI.out)) hHeld ?_)
    simp only [PT]
    first | (refine tk 10 (oi := ⟨some 14, _, _, _, _, _⟩) (v := undef) rfl (by kernel_rfl) (.inr ⟨by rfl, rfl⟩) hHeld ?_) | (refine' tk 10 (oi := ⟨some 14, _, _, _, _, _⟩) (v := _) rfl (by kernel_rfl) (yieldsIf_load_mid (by rfl) _ _ rfl _ _ rfl (v.cells) _ (fun u hu => hu.1) (Try.underlying27) rfl (HBI.out)) hHeld ?_)
    simp only [PT]
    refine wpAnyH_ready (rs := [11]) (by kernel_rfl) (by simp) ?_
    refine (AllReadyH.cons (o := ⟨some 15, _, _, _, _, _⟩) rfl (fun K hK => ?_) AllReadyH.nil)
    focus (first | (refine skip_if ?_ ?_; focus (simp [Region.wanted, yielded, undef]; done)) | (go_simp; go_must (refine (only_any v _ (by omega) (by omega)).mono ?_); rintro e w5 ⟨rfl, hb5⟩; have hE__ := cU HB bup hb5; replace HB := ck HB hE__; replace HG1 := ck HG1 hE__; clear hE__; clear hb5; go_wp2_with fail))
    refine hK.out _ _ ?_ (fun hHeld => ?_)
    focus (exact blkS HG1.out)
    clear hK K
    try simp only [PT]
    refine wpAnyH_ready (rs := [12]) (by kernel_rfl) (by simp) ?_
    refine (AllReadyH.cons (o := ⟨some 16, _, _, _, _, _⟩) rfl (fun K hK => ?_) AllReadyH.nil)
    focus (first | (refine skip_if ?_ ?_; focus (simp [Region.wanted, yielded, undef]; done)) | (go_simp; go_must (refine (blkSame_any v (onlyV v) _ (HV.out.below (HB.out.trans (Below.mono bup HB.out.size))) ((HV.out.only).below (HB.out.trans (Below.mono bup HB.out.size)))).mono ?_); intro e w6 hr; rw [only_fits v (by omega) (by omega), ← HF.out, HFv.out] at hr; obtain ⟨rfl, hb6⟩ := hr; have hE__ := cU HB bup hb6; replace HB := ck HB hE__; replace HG1 := ck HG1 hE__; clear hE__; clear hb6; go_wp2_with fail))
    refine hK.out _ _ ?_ (fun hHeld => ?_)
    focus (exact blkS HG1.out)
    clear hK K
    try simp only [PT]
    first | (refine tk 13 (oi := ⟨some 17, _, _, _, _, _⟩) (v := undef) rfl (by kernel_rfl) (.inr ⟨by rfl, rfl⟩) hHeld ?_) | (refine tk 13 (oi := ⟨some 17, _, _, _, _, _⟩) (v := ?_) rfl (by kernel_rfl) (.inl ⟨by rfl, ?_⟩) hHeld ?_; rotate_left; focus (intro w hSw; (try dsimp only at hSw); go_simp; try with_reducible rfl))
    simp only [PT]
    refine tk 14 (oi := ⟨some 18, _, _, _, _, _⟩) (v := ?_) rfl (by kernel_rfl) (.inl ⟨by rfl, ?_⟩) hHeld ?_; rotate_left; focus (intro w hSw; (try dsimp only at hSw); go_simp; try with_reducible rfl)
    simp only [PT]
    refine tk 15 (oi := ⟨some 19, _, _, _, _, _⟩) (v := ?_) rfl (by kernel_rfl) (.inl ⟨by rfl, ?_⟩) hHeld ?_; rotate_left; focus (intro w hSw; (try dsimp only at hSw); go_simp; try with_reducible rfl)
    simp only [PT]
    first | (refine tk 16 (oi := ⟨some 20, _, _, _, _, _⟩) (v := undef) rfl (by kernel_rfl) (.inr ⟨by rfl, rfl⟩) hHeld ?_) | (refine tk 16 (oi := ⟨some 20, _, _, _, _, _⟩) (v := ?_) rfl (by kernel_rfl) (.inl ⟨by rfl, ?_⟩) hHeld ?_; rotate_left; focus (intro w hSw; (try dsimp only at hSw); go_simp; try with_reducible rfl))
    simp only [PT]
    first | (refine tk 17 (oi := ⟨some 21, _, _, _, _, _⟩) (v := undef) rfl (by kernel_rfl) (.inr ⟨by rfl, rfl⟩) hHeld ?_) | (refine tk 17 (oi := ⟨some 21, _, _, _, _, _⟩) (v := ?_) rfl (by kernel_rfl) (.inl ⟨by rfl, ?_⟩) hHeld ?_; rotate_left; focus (intro w hSw; (try dsimp only at hSw); go_simp; try with_reducible rfl))
    simp only [PT]
    first | (refine tk 18 (oi := ⟨some 22, _, _, _, _, _⟩) (v := undef) rfl (by kernel_rfl) (.inr ⟨by rfl, rfl⟩) hHeld ?_) | (refine' tk 18 (oi := ⟨some 22, _, _, _, _, _⟩) (v := (.bool false)) rfl (by kernel_rfl) (.inl ⟨by rfl, ?_⟩) hHeld ?_; focus (intro w hSw; (try dsimp only at hSw); go_simp; first | done | rfl | (simp [*]; done) | (simp [*]; omega))) | (refine' tk 18 (oi := ⟨some 22, _, _, _, _, _⟩) (v := (.bool true)) rfl (by kernel_rfl) (.inl ⟨by rfl, ?_⟩) hHeld ?_; focus (intro w hSw; (try dsimp only at hSw); go_simp; first | done | rfl | (simp [*]; done) | (simp [*]; omega)))
    simp only [PT]
    refine tk 19 (oi := ⟨some 23, _, _, _, _, _⟩) (v := ?_) rfl (by kernel_rfl) (.inl ⟨by rfl, ?_⟩) hHeld ?_; rotate_left; focus (intro w hSw; (try dsimp only at hSw); go_simp; try with_reducible rfl)
    simp only [PT]
    refine tk 20 (oi := ⟨some 24, _, _, _, _, _⟩) (v := ?_) rfl (by kernel_rfl) (.inl ⟨by rfl, ?_⟩) hHeld ?_; rotate_left; focus (intro w hSw; (try dsimp only at hSw); go_simp; try with_reducible rfl)
    simp only [PT]
    first | (refine tk 21 (oi := ⟨some 25, _, _, _, _, _⟩) (v := undef) rfl (by kernel_rfl) (.inr ⟨by rfl, rfl⟩) hHeld ?_) | (refine tk 21 (oi := ⟨some 25, _, _, _, _, _⟩) (v := ?_) rfl (by kernel_rfl) (.inl ⟨by rfl, ?_⟩) hHeld ?_; rotate_left; focus (intro w hSw; (try dsimp only at hSw); go_simp; try with_reducible rfl))
    simp only [PT]
    first | (refine tk 22 (oi := ⟨some 26, _, _, _, _, _⟩) (v := undef) rfl (by kernel_rfl) (.inr ⟨by rfl, rfl⟩) hHeld ?_) | (refine tk 22 (oi := ⟨some 26, _, _, _, _, _⟩) (v := ?_) rfl (by kernel_rfl) (.inl ⟨by rfl, ?_⟩) hHeld ?_; rotate_left; focus (intro w hSw; (try dsimp only at hSw); go_simp; try with_reducible rfl))
    simp only [PT]
    first | (refine tk 23 (oi := ⟨some 27, _, _, _, _, _⟩) (v := undef) rfl (by kernel_rfl) (.inr ⟨by rfl, rfl⟩) hHeld ?_) | (refine' tk 23 (oi := ⟨some 27, _, _, _, _, _⟩) (v := (.bool false)) rfl (by kernel_rfl) (.inl ⟨by rfl, ?_⟩) hHeld ?_; focus (intro w hSw; (try dsimp only at hSw); go_simp; first | done | rfl | (simp [*]; done) | (simp [*]; omega))) | (refine' tk 23 (oi := ⟨some 27, _, _, _, _, _⟩) (v := (.bool true)) rfl (by kernel_rfl) (.inl ⟨by rfl, ?_⟩) hHeld ?_; focus (intro w hSw; (try dsimp only at hSw); go_simp; first | done | rfl | (simp [*]; done) | (simp [*]; omega)))
    simp only [PT]
    refine tk 24 (oi := ⟨some 28, _, _, _, _, _⟩) (v := ?_) rfl (by kernel_rfl) (.inl ⟨by rfl, ?_⟩) hHeld ?_; rotate_left; focus (intro w hSw; (try dsimp only at hSw); go_simp; try with_reducible rfl)
    simp only [PT]
    refine tk 25 (oi := ⟨some 29, _, _, _, _, _⟩) (v := ?_) rfl (by kernel_rfl) (.inl ⟨by rfl, ?_⟩) hHeld ?_; rotate_left; focus (intro w hSw; (try dsimp only at hSw); go_simp; try with_reducible rfl)
    simp only [PT]
    first | (refine tk 26 (oi := ⟨some 30, _, _, _, _, _⟩) (v := undef) rfl (by kernel_rfl) (.inr ⟨by rfl, rfl⟩) hHeld ?_) | (refine tk 26 (oi := ⟨some 30, _, _, _, _, _⟩) (v := ?_) rfl (by kernel_rfl) (.inl ⟨by rfl, ?_⟩) hHeld ?_; rotate_left; focus (intro w hSw; (try dsimp only at hSw); go_simp; try with_reducible rfl))
    simp only [PT]
    first | (refine tk 27 (oi := ⟨some 31, _, _, _, _, _⟩) (v := undef) rfl (by kernel_rfl) (.inr ⟨by rfl, rfl⟩) hHeld ?_) | (refine tk 27 (oi := ⟨some 31, _, _, _, _, _⟩) (v := ?_) rfl (by kernel_rfl) (.inl ⟨by rfl, ?_⟩) hHeld ?_; rotate_left; focus (intro w hSw; (try dsimp only at hSw); go_simp; try with_reducible rfl))
    simp only [PT]
    first | (refine tk 28 (oi := ⟨some 32, _, _, _, _, _⟩) (v := undef) rfl (by kernel_rfl) (.inr ⟨by rfl, rfl⟩) hHeld ?_) | (refine' tk 28 (oi := ⟨some 32, _, _, _, _, _⟩) (v := (.bool false)) rfl (by kernel_rfl) (.inl ⟨by rfl, ?_⟩) hHeld ?_; focus (intro w hSw; (try dsimp only at hSw); go_simp; first | done | rfl | (simp [*]; done) | (simp [*]; omega))) | (refine' tk 28 (oi := ⟨some 32, _, _, _, _, _⟩) (v := (.bool true)) rfl (by kernel_rfl) (.inl ⟨by rfl, ?_⟩) hHeld ?_; focus (intro w hSw; (try dsimp only at hSw); go_simp; first | done | rfl | (simp [*]; done) | (simp [*]; omega)))
    simp only [PT]
    refine tk 29 (oi := ⟨some 33, _, _, _, _, _⟩) (v := ?_) rfl (by kernel_rfl) (.inl ⟨by rfl, ?_⟩) hHeld ?_; rotate_left; focus (intro w hSw; (try dsimp only at hSw); go_simp; try with_reducible rfl)
    simp only [PT]
    refine tk 30 (oi := ⟨some 34, _, _, _, _, _⟩) (v := ?_) rfl (by kernel_rfl) (.inl ⟨by rfl, ?_⟩) hHeld ?_; rotate_left; focus (intro w hSw; (try dsimp only at hSw); go_simp; try with_reducible rfl)
    simp only [PT]
    first | (refine tk 31 (oi := ⟨some 35, _, _, _, _, _⟩) (v := undef) rfl (by kernel_rfl) (.inr ⟨by rfl, rfl⟩) hHeld ?_) | (refine tk 31 (oi := ⟨some 35, _, _, _, _, _⟩) (v := ?_) rfl (by kernel_rfl) (.inl ⟨by rfl, ?_⟩) hHeld ?_; rotate_left; focus (intro w hSw; (try dsimp only at hSw); go_simp; try with_reducible rfl))
    simp only [PT]
    first | (refine tk 32 (oi := ⟨some 36, _, _, _, _, _⟩) (v := undef) rfl (by kernel_rfl) (.inr ⟨by rfl, rfl⟩) hHeld ?_) | (refine tk 32 (oi := ⟨some 36, _, _, _, _, _⟩) (v := ?_) rfl (by kernel_rfl) (.inl ⟨by rfl, ?_⟩) hHeld ?_; rotate_left; focus (intro w hSw; (try dsimp only at hSw); go_simp; try with_reducible rfl))
    simp only [PT]
    first | (refine tk 33 (oi := ⟨some 37, _, _, _, _, _⟩) (v := undef) rfl (by kernel_rfl) (.inr ⟨by rfl, rfl⟩) hHeld ?_) | (refine' tk 33 (oi := ⟨some 37, _, _, _, _, _⟩) (v := (.bool false)) rfl (by kernel_rfl) (.inl ⟨by rfl, ?_⟩) hHeld ?_; focus (intro w hSw; (try dsimp only at hSw); go_simp; first | done | rfl | (simp [*]; done) | (simp [*]; omega))) | (refine' tk 33 (oi := ⟨some 37, _, _, _, _, _⟩) (v := (.bool true)) rfl (by kernel_rfl) (.inl ⟨by rfl, ?_⟩) hHeld ?_; focus (intro w hSw; (try dsimp only at hSw); go_simp; first | done | rfl | (simp [*]; done) | (simp [*]; omega)))
    simp only [PT]
    refine tk 34 (oi := ⟨some 38, _, _, _, _, _⟩) (v := ?_) rfl (by kernel_rfl) (.inl ⟨by rfl, ?_⟩) hHeld ?_; rotate_left; focus (intro w hSw; (try dsimp only at hSw); go_simp; try with_reducible rfl)
    simp only [PT]
    refine tk 35 (oi := ⟨some 39, _, _, _, _, _⟩) (v := ?_) rfl (by kernel_rfl) (.inl ⟨by rfl, ?_⟩) hHeld ?_; rotate_left; focus (intro w hSw; (try dsimp only at hSw); go_simp; try with_reducible rfl)
    simp only [PT]
    first | (refine tk 36 (oi := ⟨some 40, _, _, _, _, _⟩) (v := undef) rfl (by kernel_rfl) (.inr ⟨by rfl, rfl⟩) hHeld ?_) | (refine tk 36 (oi := ⟨some 40, _, _, _, _, _⟩) (v := ?_) rfl (by kernel_rfl) (.inl ⟨by rfl, ?_⟩) hHeld ?_; rotate_left; focus (intro w hSw; (try dsimp only at hSw); go_simp; try with_reducible rfl))
    simp only [PT]
    first | (refine tk 37 (oi := ⟨some 41, _, _, _, _, _⟩) (v := undef) rfl (by kernel_rfl) (.inr ⟨by rfl, rfl⟩) hHeld ?_) | (refine tk 37 (oi := ⟨some 41, _, _, _, _, _⟩) (v := ?_) rfl (by kernel_rfl) (.inl ⟨by rfl, ?_⟩) hHeld ?_; rotate_left; focus (intro w hSw; (try dsimp only at hSw); go_simp; try with_reducible rfl))
    simp only [PT]
    refine wpAnyH_ready (rs := [38]) (by kernel_rfl) (by simp) ?_
    refine (AllReadyH.cons (o := ⟨some 42, _, _, _, _, _⟩) rfl (fun K hK => ?_) AllReadyH.nil)
    focus (first | (refine skip_if ?_ ?_; focus (simp [Region.wanted, yielded, undef]; done)) | (go_simp; go_must (refine (fine_any v.oad v.on v.oc v.os _ (HV.out.2.2.below (HB.out.trans (Below.mono bup HB.out.size))) z2).mono ?_); intro e w7 hr; rw [← HWo.out, HWov.out] at hr; obtain ⟨rfl, hb7⟩ := hr; have hE__ := cU HB bup hb7; replace HB := ck HB hE__; replace HG1 := ck HG1 hE__; clear hE__; clear hb7; go_wp2_with fail))
    refine hK.out _ _ ?_ (fun hHeld => ?_)
    focus (exact blkS HG1.out)
    clear hK K
    try simp only [PT]
    first | (refine tk 39 (oi := ⟨some 43, _, _, _, _, _⟩) (v := undef) rfl (by kernel_rfl) (.inr ⟨by rfl, rfl⟩) hHeld ?_) | (refine tk 39 (oi := ⟨some 43, _, _, _, _, _⟩) (v := ?_) rfl (by kernel_rfl) (.inl ⟨by rfl, ?_⟩) hHeld ?_; rotate_left; focus (intro w hSw; (try dsimp only at hSw); go_simp; try with_reducible rfl))
    simp only [PT]
    refine tk 40 (oi := ⟨some 44, _, _, _, _, _⟩) (v := ?_) rfl (by kernel_rfl) (.inl ⟨by rfl, ?_⟩) hHeld ?_; rotate_left; focus (intro w hSw; (try dsimp only at hSw); go_simp; try with_reducible rfl)
    simp only [PT]
    refine tk 41 (oi := ⟨some 45, _, _, _, _, _⟩) (v := ?_) rfl (by kernel_rfl) (.inl ⟨by rfl, ?_⟩) hHeld ?_; rotate_left; focus (intro w hSw; (try dsimp only at hSw); go_simp; try with_reducible rfl)
    simp only [PT]
    first | (refine tk 42 (oi := ⟨some 46, _, _, _, _, _⟩) (v := undef) rfl (by kernel_rfl) (.inr ⟨by rfl, rfl⟩) hHeld ?_) | (refine tk 42 (oi := ⟨some 46, _, _, _, _, _⟩) (v := ?_) rfl (by kernel_rfl) (.inl ⟨by rfl, ?_⟩) hHeld ?_; rotate_left; focus (intro w hSw; (try dsimp only at hSw); go_simp; try with_reducible rfl))
    simp only [PT]
    first | (refine tk 43 (oi := ⟨some 47, _, _, _, _, _⟩) (v := undef) rfl (by kernel_rfl) (.inr ⟨by rfl, rfl⟩) hHeld ?_) | (refine tk 43 (oi := ⟨some 47, _, _, _, _, _⟩) (v := ?_) rfl (by kernel_rfl) (.inl ⟨by rfl, ?_⟩) hHeld ?_; rotate_left; focus (intro w hSw; (try dsimp only at hSw); go_simp; try with_reducible rfl))
    simp only [PT]
    refine wpAnyH_ready (rs := [44]) (by kernel_rfl) (by simp) ?_
    refine (AllReadyH.cons (o := ⟨some 48, _, _, _, _, _⟩) rfl (fun K hK => ?_) AllReadyH.nil)
    focus (first | (refine skip_if ?_ ?_; focus (simp [Region.wanted, yielded, undef]; done)) | (go_simp; go_must (refine (fine_any v.nad v.nn v.nc v.ns _ (HV.out.2.1.below (HB.out.trans (Below.mono bup HB.out.size))) z1).mono ?_); intro e w8 hr; rw [← HWn.out, HWnv.out] at hr; obtain ⟨rfl, hb8⟩ := hr; have hE__ := cU HB bup hb8; replace HB := ck HB hE__; replace HG1 := ck HG1 hE__; clear hE__; clear hb8; go_wp2_with fail))
    refine hK.out _ _ ?_ (fun hHeld => ?_)
    focus (exact blkS HG1.out)
    clear hK K
    try simp only [PT]
    first | (refine tk 45 (oi := ⟨some 49, _, _, _, _, _⟩) (v := undef) rfl (by kernel_rfl) (.inr ⟨by rfl, rfl⟩) hHeld ?_) | (refine tk 45 (oi := ⟨some 49, _, _, _, _, _⟩) (v := ?_) rfl (by kernel_rfl) (.inl ⟨by rfl, ?_⟩) hHeld ?_; rotate_left; focus (intro w hSw; (try dsimp only at hSw); go_simp; try with_reducible rfl))
    simp only [PT]
    refine tk 46 (oi := ⟨some 50, _, _, _, _, _⟩) (v := ?_) rfl (by kernel_rfl) (.inl ⟨by rfl, ?_⟩) hHeld ?_; rotate_left; focus (intro w hSw; (try dsimp only at hSw); go_simp; try with_reducible rfl)
    simp only [PT]
    refine wpAnyH_done (by kernel_rfl) ?_ _
    obtain ⟨c0, c1, c2, c3, c4, c5, c6, c7, c8, c9, c10⟩ := blk_cells HG1.out
  rotate_right 1
  · by_cases hk4 : v.kind = 4
    · have hk7 : ¬ v.kind = 7 := by omega
      by_cases hA : v.dn = v.len
      · have hAi : (v.dn : Int) = (v.len : Int) := by omega
        go_wp2_with (first
          | (go_at_call 58; go_must (refine (kindOf_any v.type _).mono ?_); intro e w9 hr; rw [← HKT.out] at hr; obtain ⟨rfl, hb9⟩ := hr; have hE__ := cU HB bup hb9; replace HB := ck HB hE__; clear hE__; clear hb9))
        all_goals
          go_ret
          refine ⟨?_, HB.out.trans (Below.mono bup HB.out.size)⟩
          rw [HM.out, HFv.out, HWov.out, HWnv.out]
          first
            | (simp [*]; done)
            | (simp [*]; omega)
            | (change Ending.returned (Value.bool ((v.dn : Int) == (v.len : Int) || (v.dn : Int) % 4 == 0)) = _; rw [show ((v.dn : Int) == (v.len : Int)) = false from (by simp; omega), show ((v.dn : Int) % 4 == 0) = false from (by simp; omega)]; simp [*]; done)
            | (change Ending.returned (Value.bool ((v.dn : Int) == (v.len : Int))) = _; rw [show ((v.dn : Int) == (v.len : Int)) = false from (by simp; omega)]; simp [*]; done)
      · have hAi : ¬ (v.dn : Int) = (v.len : Int) := by omega
        by_cases hL : v.dn < v.len
        · have hLi : (v.dn : Int) < (v.len : Int) := by omega
          by_cases hm : v.dn % 4 = 0
          · have hmi : (v.dn : Int) % 4 = 0 := by omega
            go_wp2_with (first
              | (go_at_call 58; go_must (refine (kindOf_any v.type _).mono ?_); intro e w9 hr; rw [← HKT.out] at hr; obtain ⟨rfl, hb9⟩ := hr; have hE__ := cU HB bup hb9; replace HB := ck HB hE__; clear hE__; clear hb9))
            all_goals
              go_ret
              refine ⟨?_, HB.out.trans (Below.mono bup HB.out.size)⟩
              rw [HM.out, HFv.out, HWov.out, HWnv.out]
              first
                | (simp [*]; done)
                | (simp [*]; omega)
                | (change Ending.returned (Value.bool ((v.dn : Int) == (v.len : Int) || (v.dn : Int) % 4 == 0)) = _; rw [show ((v.dn : Int) == (v.len : Int)) = false from (by simp; omega), show ((v.dn : Int) % 4 == 0) = false from (by simp; omega)]; simp [*]; done)
                | (change Ending.returned (Value.bool ((v.dn : Int) == (v.len : Int))) = _; rw [show ((v.dn : Int) == (v.len : Int)) = false from (by simp; omega)]; simp [*]; done)
          · have hmi : ¬ (v.dn : Int) % 4 = 0 := by omega
            go_wp2_with (first
              | (go_at_call 58; go_must (refine (kindOf_any v.type _).mono ?_); intro e w9 hr; rw [← HKT.out] at hr; obtain ⟨rfl, hb9⟩ := hr; have hE__ := cU HB bup hb9; replace HB := ck HB hE__; clear hE__; clear hb9))
            all_goals
              go_ret
              refine ⟨?_, HB.out.trans (Below.mono bup HB.out.size)⟩
              rw [HM.out, HFv.out, HWov.out, HWnv.out]
              first
                | (simp [*]; done)
                | (simp [*]; omega)
                | (change Ending.returned (Value.bool ((v.dn : Int) == (v.len : Int) || (v.dn : Int) % 4 == 0)) = _; rw [show ((v.dn : Int) == (v.len : Int)) = false from (by simp; omega), show ((v.dn : Int) % 4 == 0) = false from (by simp; omega)]; simp [*]; done)
                | (change Ending.returned (Value.bool ((v.dn : Int) == (v.len : Int))) = _; rw [show ((v.dn : Int) == (v.len : Int)) = false from (by simp; omega)]; simp [*]; done)
        · have hLi : ¬ (v.dn : Int) < (v.len : Int) := by omega
          go_wp2_with (first
            | (go_at_call 58; go_must (refine (kindOf_any v.type _).mono ?_); intro e w9 hr; rw [← HKT.out] at hr; obtain ⟨rfl, hb9⟩ := hr; have hE__ := cU HB bup hb9; replace HB := ck HB hE__; clear hE__; clear hb9))
          all_goals
            go_ret
            refine ⟨?_, HB.out.trans (Below.mono bup HB.out.size)⟩
            rw [HM.out, HFv.out, HWov.out, HWnv.out]
            first
              | (simp [*]; done)
              | (simp [*]; omega)
              | (change Ending.returned (Value.bool ((v.dn : Int) == (v.len : Int) || (v.dn : Int) % 4 == 0)) = _; rw [show ((v.dn : Int) == (v.len : Int)) = false from (by simp; omega), show ((v.dn : Int) % 4 == 0) = false from (by simp; omega)]; simp [*]; done)
              | (change Ending.returned (Value.bool ((v.dn : Int) == (v.len : Int))) = _; rw [show ((v.dn : Int) == (v.len : Int)) = false from (by simp; omega)]; simp [*]; done)
    · by_cases hk7 : v.kind = 7
      · by_cases hm : v.dn % 4 = 0
        · have hmi : (v.dn : Int) % 4 = 0 := by omega
          go_wp2_with (first
            | (go_at_call 58; go_must (refine (kindOf_any v.type _).mono ?_); intro e w9 hr; rw [← HKT.out] at hr; obtain ⟨rfl, hb9⟩ := hr; have hE__ := cU HB bup hb9; replace HB := ck HB hE__; clear hE__; clear hb9))
          all_goals
            go_ret
            refine ⟨?_, HB.out.trans (Below.mono bup HB.out.size)⟩
            rw [HM.out, HFv.out, HWov.out, HWnv.out]
            first
              | (simp [*]; done)
              | (simp [*]; omega)
              | (change Ending.returned (Value.bool ((v.dn : Int) == (v.len : Int) || (v.dn : Int) % 4 == 0)) = _; rw [show ((v.dn : Int) == (v.len : Int)) = false from (by simp; omega), show ((v.dn : Int) % 4 == 0) = false from (by simp; omega)]; simp [*]; done)
              | (change Ending.returned (Value.bool ((v.dn : Int) == (v.len : Int))) = _; rw [show ((v.dn : Int) == (v.len : Int)) = false from (by simp; omega)]; simp [*]; done)
        · have hmi : ¬ (v.dn : Int) % 4 = 0 := by omega
          go_wp2_with (first
            | (go_at_call 58; go_must (refine (kindOf_any v.type _).mono ?_); intro e w9 hr; rw [← HKT.out] at hr; obtain ⟨rfl, hb9⟩ := hr; have hE__ := cU HB bup hb9; replace HB := ck HB hE__; clear hE__; clear hb9))
          all_goals
            go_ret
            refine ⟨?_, HB.out.trans (Below.mono bup HB.out.size)⟩
            rw [HM.out, HFv.out, HWov.out, HWnv.out]
            first
              | (simp [*]; done)
              | (simp [*]; omega)
              | (change Ending.returned (Value.bool ((v.dn : Int) == (v.len : Int) || (v.dn : Int) % 4 == 0)) = _; rw [show ((v.dn : Int) == (v.len : Int)) = false from (by simp; omega), show ((v.dn : Int) % 4 == 0) = false from (by simp; omega)]; simp [*]; done)
              | (change Ending.returned (Value.bool ((v.dn : Int) == (v.len : Int))) = _; rw [show ((v.dn : Int) == (v.len : Int)) = false from (by simp; omega)]; simp [*]; done)
      · go_wp2_with (first
          | (go_at_call 58; go_must (refine (kindOf_any v.type _).mono ?_); intro e w9 hr; rw [← HKT.out] at hr; obtain ⟨rfl, hb9⟩ := hr; have hE__ := cU HB bup hb9; replace HB := ck HB hE__; clear hE__; clear hb9))
        all_goals
          go_ret
          refine ⟨?_, HB.out.trans (Below.mono bup HB.out.size)⟩
          rw [HM.out, HFv.out, HWov.out, HWnv.out]
          first
            | (simp [*]; done)
            | (simp [*]; omega)
            | (change Ending.returned (Value.bool ((v.dn : Int) == (v.len : Int) || (v.dn : Int) % 4 == 0)) = _; rw [show ((v.dn : Int) == (v.len : Int)) = false from (by simp; omega), show ((v.dn : Int) % 4 == 0) = false from (by simp; omega)]; simp [*]; done)
            | (change Ending.returned (Value.bool ((v.dn : Int) == (v.len : Int))) = _; rw [show ((v.dn : Int) == (v.len : Int)) = false from (by simp; omega)]; simp [*]; done)
  all_goals
    go_wp2_with fail
    all_goals
      go_ret
      refine ⟨?_, HB.out.trans (Below.mono bup HB.out.size)⟩
      first | rw [HM.out, HFv.out, HWov.out, HWnv.out] | rw [HM.out, HFv.out, HWov.out] | rw [HM.out, HFv.out] | rw [HM.out]
      first
        | (simp [*]; done)
        | (simp [*]; omega)
end Go.Proofs.Ytmfplinbbcoahaa
/-
  Chapter 26: how many bytes a block has; is it right? walked.
-/
namespace Go.Proofs.Ytmfplinbbcoahaa
open Go.RowKit Go.Sort
set_option linter.unusedVariables false
set_option linter.unusedSimpArgs false

def fieldN (x : PB) : Nat := if x.kind = 1 then 16 else if x.kind = 2 then 8 else if x.kind = 3 then 20 + x.data.length + padN x.data.length else if x.kind = 4 then 4 + x.data.length + padN x.data.length else if x.kind = 5 then sizeO x.names + 4 else if x.kind = 6 then 12 else x.data.length
theorem sizeB_eq (x : PB) : sizeB x = 12 + sizeA x.opts + fieldN x := by
  have hp : (putAll true x.opts).length = sizeA x.opts := by
    rw [putAll_length]; unfold sizeA; cases x.opts <;> rfl
  have hf : (fieldsB true x).length = fieldN x := by
    unfold fieldsB fieldN timeB
    repeat' split
    all_goals first | rfl | (simp [putL4_length, putL2_length, namesB_length, padL_length]; done) | (simp [putL4_length, putL2_length, namesB_length, padL_length]; omega)
  unfold sizeB bodyB
  rw [List.length_append, hp, hf]
  omega
set_option maxRecDepth 100000 in
set_option maxHeartbeats 16000000 in
theorem blkSize_any (v : BlkV) (w : World) (hv : Blk w v) (hf : SmB v) :
    Calls Try.prog 42 #[.agg v.cells.toArray] w fun e w' => e = .returned (.int .i64 ((sizeB v.val : Nat) : Int)) ∧ Below w.heap.size w w' := by
  obtain ⟨z1, z2, z3⟩ := hf.sizes
  have HB := Lib.hid (Below.refl w.heap.size w)
  have HV := Lib.hid hv
  have HM := Lib.hid (sizeB_eq v.val)
  have hl := hv.lens
  have hlen : v.val.data.length = v.dn := hl.1.symm
  have hnam : v.val.names.length = v.nn := by show (vals v.ns).length = v.nn; rw [vals_length]; exact hl.2.1.symm
  unfold fieldN at HM
  rw [hlen, show v.val.kind = v.kind from rfl, show v.val.names = vals v.ns from rfl, show v.val.opts = vals v.os from rfl] at HM
  obtain ⟨M, hM⟩ : ∃ M, M = sizeB v.val := ⟨_, rfl⟩
  rw [← hM] at HM ⊢
  obtain ⟨So, hSo⟩ : ∃ S, S = sizeA (vals v.os) := ⟨_, rfl⟩
  obtain ⟨Sn, hSn⟩ : ∃ S, S = sizeA (vals v.ns) := ⟨_, rfl⟩
  have hSn2 : sizeO (vals v.ns) + 4 = if v.nn = 0 then Sn + 4 else Sn := by
    rw [hSn]; unfold sizeA; rw [vals_length, ← hl.2.1]; split <;> omega
  rw [hSn2, ← hSo] at HM
  have hSol : So ≤ 70424 := by rw [hSo]; unfold sizeA; split <;> omega
  have hSnl : Sn ≤ 70424 := by rw [hSn]; unfold sizeA; split <;> omega
  have HSo := Lib.hid hSo
  have HSn := Lib.hid hSn
  obtain ⟨pd, hpd⟩ : ∃ p, p = padN v.dn := ⟨_, rfl⟩
  have hp3 := padN_le v.dn
  rw [← hpd] at HM hp3
  have HPAD : Hid (∀ w : World, Calls Try.prog 72 #[.int .i64 (v.dn : Int)] w fun e w' => e = .returned (.int .i64 (pd : Int)) ∧ w' = w) := Lib.hid (fun w => by rw [hpd]; exact pad_nat v.dn w (by omega))
  have e20 : IntKind.i64.wrap (20 + (v.dn : Int)) = 20 + (v.dn : Int) := by rw [IntKind.wrap_i64]; omega
  have e4 : IntKind.i64.wrap (4 + (v.dn : Int)) = 4 + (v.dn : Int) := by rw [IntKind.wrap_i64]; omega
  have f20 : IntKind.i64.wrap (20 + (v.dn : Int) + (pd : Int)) = 20 + (v.dn : Int) + (pd : Int) := by rw [IntKind.wrap_i64]; omega
  have f4 : IntKind.i64.wrap (4 + (v.dn : Int) + (pd : Int)) = 4 + (v.dn : Int) + (pd : Int) := by rw [IntKind.wrap_i64]; omega
  have g20 : IntKind.i64.wrap (12 + (So : Int) + (20 + (v.dn : Int) + (pd : Int))) = 12 + (So : Int) + (20 + (v.dn : Int) + (pd : Int)) := by rw [IntKind.wrap_i64]; omega
  have g4 : IntKind.i64.wrap (12 + (So : Int) + (4 + (v.dn : Int) + (pd : Int))) = 12 + (So : Int) + (4 + (v.dn : Int) + (pd : Int)) := by rw [IntKind.wrap_i64]; omega
  obtain ⟨Nn, hNn⟩ : ∃ n, n = (if v.nn = 0 then Sn + 4 else Sn) := ⟨_, rfl⟩
  rw [← hNn] at HM
  have hNn0 : v.nn = 0 → Nn = Sn + 4 := fun h => by rw [hNn, if_pos h]
  have hNn1 : ¬ v.nn = 0 → Nn = Sn := fun h => by rw [hNn, if_neg h]
  clear hv hM hSo hSn hSn2 hl hlen hnam hpd hf hNn
  have hnn : (v.nn = 0 ∧ (v.nn : Int) = 0 ∧ Nn = Sn + 4) ∨ (¬ v.nn = 0 ∧ ¬ (v.nn : Int) = 0 ∧ Nn = Sn) := by
    by_cases h : v.nn = 0
    · exact .inl ⟨h, by omega, hNn0 h⟩
    · exact .inr ⟨h, by omega, hNn1 h⟩
  clear hNn0 hNn1
  have hk : v.kind = 1 ∨ v.kind = 2 ∨ v.kind = 3 ∨ v.kind = 4 ∨ v.kind = 5 ∨ v.kind = 6 ∨ (v.kind ≠ 1 ∧ v.kind ≠ 2 ∧ v.kind ≠ 3 ∧ v.kind ≠ 4 ∧ v.kind ≠ 5 ∧ v.kind ≠ 6) := by omega
  rcases hk with hk | hk | hk | hk | hk | hk | ⟨k1, k2, k3, k4, k5, k6⟩
  · clear hnn
    go_enter Try.func42, Try.ntmps42
    go_wp2_with (first
      | ((with_reducible refine sl 1 ?_); go_must (refine wpL_box rfl 27 (.tmp 0) rfl v.cells.toArray rfl ?_); intro w1 hg1 hb1; have HG1 := Lib.hid hg1; have hE__ := cU HB bup hb1; replace HB := ck HB hE__; clear hE__; clear hg1 hb1; obtain ⟨c0, c1, c2, c3, c4, c5, c6, c7, c8, c9, c10⟩ := blk_cells HG1.out; simp only [PT])
      | (go_at_call 71; (with_reducible show Calls _ _ #[Value.slice v.oad _ _] _ _); go_must (refine (size_any v.oad v.on v.oc v.os _ (HV.out.2.2.below (HB.out.trans (Below.mono bup HB.out.size))) (by omega)).mono ?_); intro e w5 hr; rw [← HSo.out] at hr; obtain ⟨rfl, hb5⟩ := hr; have hE__ := cU HB bup hb5; replace HB := ck HB hE__; replace HG1 := ck HG1 hE__; clear hE__; clear hb5 c0 c1 c2 c3 c4 c5 c6 c7 c8 c9 c10; obtain ⟨c0, c1, c2, c3, c4, c5, c6, c7, c8, c9, c10⟩ := blk_cells HG1.out)
      | (go_at_call 71; (with_reducible show Calls _ _ #[Value.slice v.nad _ _] _ _); go_must (refine (size_any v.nad v.nn v.nc v.ns _ (HV.out.2.1.below (HB.out.trans (Below.mono bup HB.out.size))) (by omega)).mono ?_); intro e w6 hr; rw [← HSn.out] at hr; obtain ⟨rfl, hb5⟩ := hr; have hE__ := cU HB bup hb5; replace HB := ck HB hE__; replace HG1 := ck HG1 hE__; clear hE__; clear hb5 c0 c1 c2 c3 c4 c5 c6 c7 c8 c9 c10; obtain ⟨c0, c1, c2, c3, c4, c5, c6, c7, c8, c9, c10⟩ := blk_cells HG1.out))
    all_goals
      go_ret
      refine ⟨?_, HB.out.trans (Below.mono bup HB.out.size)⟩
      rw [HM.out]
      first
        | (simp [*]; done)
        | (simp [*]; omega)
        | (simp [*]; split <;> omega)
  · clear hnn
    go_enter Try.func42, Try.ntmps42
    go_wp2_with (first
      | ((with_reducible refine sl 1 ?_); go_must (refine wpL_box rfl 27 (.tmp 0) rfl v.cells.toArray rfl ?_); intro w1 hg1 hb1; have HG1 := Lib.hid hg1; have hE__ := cU HB bup hb1; replace HB := ck HB hE__; clear hE__; clear hg1 hb1; obtain ⟨c0, c1, c2, c3, c4, c5, c6, c7, c8, c9, c10⟩ := blk_cells HG1.out; simp only [PT])
      | (go_at_call 71; (with_reducible show Calls _ _ #[Value.slice v.oad _ _] _ _); go_must (refine (size_any v.oad v.on v.oc v.os _ (HV.out.2.2.below (HB.out.trans (Below.mono bup HB.out.size))) (by omega)).mono ?_); intro e w5 hr; rw [← HSo.out] at hr; obtain ⟨rfl, hb5⟩ := hr; have hE__ := cU HB bup hb5; replace HB := ck HB hE__; replace HG1 := ck HG1 hE__; clear hE__; clear hb5 c0 c1 c2 c3 c4 c5 c6 c7 c8 c9 c10; obtain ⟨c0, c1, c2, c3, c4, c5, c6, c7, c8, c9, c10⟩ := blk_cells HG1.out)
      | (go_at_call 71; (with_reducible show Calls _ _ #[Value.slice v.nad _ _] _ _); go_must (refine (size_any v.nad v.nn v.nc v.ns _ (HV.out.2.1.below (HB.out.trans (Below.mono bup HB.out.size))) (by omega)).mono ?_); intro e w6 hr; rw [← HSn.out] at hr; obtain ⟨rfl, hb5⟩ := hr; have hE__ := cU HB bup hb5; replace HB := ck HB hE__; replace HG1 := ck HG1 hE__; clear hE__; clear hb5 c0 c1 c2 c3 c4 c5 c6 c7 c8 c9 c10; obtain ⟨c0, c1, c2, c3, c4, c5, c6, c7, c8, c9, c10⟩ := blk_cells HG1.out))
    all_goals
      go_ret
      refine ⟨?_, HB.out.trans (Below.mono bup HB.out.size)⟩
      rw [HM.out]
      first
        | (simp [*]; done)
        | (simp [*]; omega)
        | (simp [*]; split <;> omega)
  · clear hnn
    go_enter Try.func42, Try.ntmps42
    go_wp2_with (first
      | ((with_reducible refine sl 1 ?_); go_must (refine wpL_box rfl 27 (.tmp 0) rfl v.cells.toArray rfl ?_); intro w1 hg1 hb1; have HG1 := Lib.hid hg1; have hE__ := cU HB bup hb1; replace HB := ck HB hE__; clear hE__; clear hg1 hb1; obtain ⟨c0, c1, c2, c3, c4, c5, c6, c7, c8, c9, c10⟩ := blk_cells HG1.out; simp only [PT])
      | (go_at_call 71; (with_reducible show Calls _ _ #[Value.slice v.oad _ _] _ _); go_must (refine (size_any v.oad v.on v.oc v.os _ (HV.out.2.2.below (HB.out.trans (Below.mono bup HB.out.size))) (by omega)).mono ?_); intro e w5 hr; rw [← HSo.out] at hr; obtain ⟨rfl, hb5⟩ := hr; have hE__ := cU HB bup hb5; replace HB := ck HB hE__; replace HG1 := ck HG1 hE__; clear hE__; clear hb5 c0 c1 c2 c3 c4 c5 c6 c7 c8 c9 c10; obtain ⟨c0, c1, c2, c3, c4, c5, c6, c7, c8, c9, c10⟩ := blk_cells HG1.out)
      | (go_at_call 71; (with_reducible show Calls _ _ #[Value.slice v.nad _ _] _ _); go_must (refine (size_any v.nad v.nn v.nc v.ns _ (HV.out.2.1.below (HB.out.trans (Below.mono bup HB.out.size))) (by omega)).mono ?_); intro e w6 hr; rw [← HSn.out] at hr; obtain ⟨rfl, hb5⟩ := hr; have hE__ := cU HB bup hb5; replace HB := ck HB hE__; replace HG1 := ck HG1 hE__; clear hE__; clear hb5 c0 c1 c2 c3 c4 c5 c6 c7 c8 c9 c10; obtain ⟨c0, c1, c2, c3, c4, c5, c6, c7, c8, c9, c10⟩ := blk_cells HG1.out))
    go_quiet ((go_at_call 72; exact Calls.quiet_of_same (HPAD.out _)))
    go_wp2_with fail
    all_goals
      go_ret
      refine ⟨?_, HB.out.trans (Below.mono bup HB.out.size)⟩
      rw [HM.out]
      first
        | (simp [*]; done)
        | (simp [*]; omega)
        | (simp [*]; split <;> omega)
  · clear hnn
    go_enter Try.func42, Try.ntmps42
    go_wp2_with (first
      | ((with_reducible refine sl 1 ?_); go_must (refine wpL_box rfl 27 (.tmp 0) rfl v.cells.toArray rfl ?_); intro w1 hg1 hb1; have HG1 := Lib.hid hg1; have hE__ := cU HB bup hb1; replace HB := ck HB hE__; clear hE__; clear hg1 hb1; obtain ⟨c0, c1, c2, c3, c4, c5, c6, c7, c8, c9, c10⟩ := blk_cells HG1.out; simp only [PT])
      | (go_at_call 71; (with_reducible show Calls _ _ #[Value.slice v.oad _ _] _ _); go_must (refine (size_any v.oad v.on v.oc v.os _ (HV.out.2.2.below (HB.out.trans (Below.mono bup HB.out.size))) (by omega)).mono ?_); intro e w5 hr; rw [← HSo.out] at hr; obtain ⟨rfl, hb5⟩ := hr; have hE__ := cU HB bup hb5; replace HB := ck HB hE__; replace HG1 := ck HG1 hE__; clear hE__; clear hb5 c0 c1 c2 c3 c4 c5 c6 c7 c8 c9 c10; obtain ⟨c0, c1, c2, c3, c4, c5, c6, c7, c8, c9, c10⟩ := blk_cells HG1.out)
      | (go_at_call 71; (with_reducible show Calls _ _ #[Value.slice v.nad _ _] _ _); go_must (refine (size_any v.nad v.nn v.nc v.ns _ (HV.out.2.1.below (HB.out.trans (Below.mono bup HB.out.size))) (by omega)).mono ?_); intro e w6 hr; rw [← HSn.out] at hr; obtain ⟨rfl, hb5⟩ := hr; have hE__ := cU HB bup hb5; replace HB := ck HB hE__; replace HG1 := ck HG1 hE__; clear hE__; clear hb5 c0 c1 c2 c3 c4 c5 c6 c7 c8 c9 c10; obtain ⟨c0, c1, c2, c3, c4, c5, c6, c7, c8, c9, c10⟩ := blk_cells HG1.out))
    go_quiet ((go_at_call 72; exact Calls.quiet_of_same (HPAD.out _)))
    go_wp2_with fail
    all_goals
      go_ret
      refine ⟨?_, HB.out.trans (Below.mono bup HB.out.size)⟩
      rw [HM.out]
      first
        | (simp [*]; done)
        | (simp [*]; omega)
        | (simp [*]; split <;> omega)
  · rcases hnn with ⟨n1, n2, n3⟩ | ⟨n1, n2, n3⟩
    all_goals
     have N3 := Lib.hid n3
     clear n1 n3
     go_enter Try.func42, Try.ntmps42
     go_wp2_with (first
      | ((with_reducible refine sl 1 ?_); go_must (refine wpL_box rfl 27 (.tmp 0) rfl v.cells.toArray rfl ?_); intro w1 hg1 hb1; have HG1 := Lib.hid hg1; have hE__ := cU HB bup hb1; replace HB := ck HB hE__; clear hE__; clear hg1 hb1; obtain ⟨c0, c1, c2, c3, c4, c5, c6, c7, c8, c9, c10⟩ := blk_cells HG1.out; simp only [PT])
      | (go_at_call 71; (with_reducible show Calls _ _ #[Value.slice v.oad _ _] _ _); go_must (refine (size_any v.oad v.on v.oc v.os _ (HV.out.2.2.below (HB.out.trans (Below.mono bup HB.out.size))) (by omega)).mono ?_); intro e w5 hr; rw [← HSo.out] at hr; obtain ⟨rfl, hb5⟩ := hr; have hE__ := cU HB bup hb5; replace HB := ck HB hE__; replace HG1 := ck HG1 hE__; clear hE__; clear hb5 c0 c1 c2 c3 c4 c5 c6 c7 c8 c9 c10; obtain ⟨c0, c1, c2, c3, c4, c5, c6, c7, c8, c9, c10⟩ := blk_cells HG1.out)
      | (go_at_call 71; (with_reducible show Calls _ _ #[Value.slice v.nad _ _] _ _); go_must (refine (size_any v.nad v.nn v.nc v.ns _ (HV.out.2.1.below (HB.out.trans (Below.mono bup HB.out.size))) (by omega)).mono ?_); intro e w6 hr; rw [← HSn.out] at hr; obtain ⟨rfl, hb5⟩ := hr; have hE__ := cU HB bup hb5; replace HB := ck HB hE__; replace HG1 := ck HG1 hE__; clear hE__; clear hb5 c0 c1 c2 c3 c4 c5 c6 c7 c8 c9 c10; obtain ⟨c0, c1, c2, c3, c4, c5, c6, c7, c8, c9, c10⟩ := blk_cells HG1.out))
     all_goals
      go_ret
      refine ⟨?_, HB.out.trans (Below.mono bup HB.out.size)⟩
      rw [HM.out, N3.out]
      first
        | (simp [*]; done)
        | (simp [*]; omega)
        | (simp [*]; split <;> omega)
  · clear hnn
    go_enter Try.func42, Try.ntmps42
    go_wp2_with (first
      | ((with_reducible refine sl 1 ?_); go_must (refine wpL_box rfl 27 (.tmp 0) rfl v.cells.toArray rfl ?_); intro w1 hg1 hb1; have HG1 := Lib.hid hg1; have hE__ := cU HB bup hb1; replace HB := ck HB hE__; clear hE__; clear hg1 hb1; obtain ⟨c0, c1, c2, c3, c4, c5, c6, c7, c8, c9, c10⟩ := blk_cells HG1.out; simp only [PT])
      | (go_at_call 71; (with_reducible show Calls _ _ #[Value.slice v.oad _ _] _ _); go_must (refine (size_any v.oad v.on v.oc v.os _ (HV.out.2.2.below (HB.out.trans (Below.mono bup HB.out.size))) (by omega)).mono ?_); intro e w5 hr; rw [← HSo.out] at hr; obtain ⟨rfl, hb5⟩ := hr; have hE__ := cU HB bup hb5; replace HB := ck HB hE__; replace HG1 := ck HG1 hE__; clear hE__; clear hb5 c0 c1 c2 c3 c4 c5 c6 c7 c8 c9 c10; obtain ⟨c0, c1, c2, c3, c4, c5, c6, c7, c8, c9, c10⟩ := blk_cells HG1.out)
      | (go_at_call 71; (with_reducible show Calls _ _ #[Value.slice v.nad _ _] _ _); go_must (refine (size_any v.nad v.nn v.nc v.ns _ (HV.out.2.1.below (HB.out.trans (Below.mono bup HB.out.size))) (by omega)).mono ?_); intro e w6 hr; rw [← HSn.out] at hr; obtain ⟨rfl, hb5⟩ := hr; have hE__ := cU HB bup hb5; replace HB := ck HB hE__; replace HG1 := ck HG1 hE__; clear hE__; clear hb5 c0 c1 c2 c3 c4 c5 c6 c7 c8 c9 c10; obtain ⟨c0, c1, c2, c3, c4, c5, c6, c7, c8, c9, c10⟩ := blk_cells HG1.out))
    all_goals
      go_ret
      refine ⟨?_, HB.out.trans (Below.mono bup HB.out.size)⟩
      rw [HM.out]
      first
        | (simp [*]; done)
        | (simp [*]; omega)
        | (simp [*]; split <;> omega)
  · clear hnn
    go_enter Try.func42, Try.ntmps42
    go_wp2_with (first
      | ((with_reducible refine sl 1 ?_); go_must (refine wpL_box rfl 27 (.tmp 0) rfl v.cells.toArray rfl ?_); intro w1 hg1 hb1; have HG1 := Lib.hid hg1; have hE__ := cU HB bup hb1; replace HB := ck HB hE__; clear hE__; clear hg1 hb1; obtain ⟨c0, c1, c2, c3, c4, c5, c6, c7, c8, c9, c10⟩ := blk_cells HG1.out; simp only [PT])
      | (go_at_call 71; (with_reducible show Calls _ _ #[Value.slice v.oad _ _] _ _); go_must (refine (size_any v.oad v.on v.oc v.os _ (HV.out.2.2.below (HB.out.trans (Below.mono bup HB.out.size))) (by omega)).mono ?_); intro e w5 hr; rw [← HSo.out] at hr; obtain ⟨rfl, hb5⟩ := hr; have hE__ := cU HB bup hb5; replace HB := ck HB hE__; replace HG1 := ck HG1 hE__; clear hE__; clear hb5 c0 c1 c2 c3 c4 c5 c6 c7 c8 c9 c10; obtain ⟨c0, c1, c2, c3, c4, c5, c6, c7, c8, c9, c10⟩ := blk_cells HG1.out)
      | (go_at_call 71; (with_reducible show Calls _ _ #[Value.slice v.nad _ _] _ _); go_must (refine (size_any v.nad v.nn v.nc v.ns _ (HV.out.2.1.below (HB.out.trans (Below.mono bup HB.out.size))) (by omega)).mono ?_); intro e w6 hr; rw [← HSn.out] at hr; obtain ⟨rfl, hb5⟩ := hr; have hE__ := cU HB bup hb5; replace HB := ck HB hE__; replace HG1 := ck HG1 hE__; clear hE__; clear hb5 c0 c1 c2 c3 c4 c5 c6 c7 c8 c9 c10; obtain ⟨c0, c1, c2, c3, c4, c5, c6, c7, c8, c9, c10⟩ := blk_cells HG1.out))
    all_goals
      go_ret
      refine ⟨?_, HB.out.trans (Below.mono bup HB.out.size)⟩
      rw [HM.out]
      first
        | (simp [*]; done)
        | (simp [*]; omega)
        | (simp [*]; split <;> omega)
end Go.Proofs.Ytmfplinbbcoahaa
/-
  Chapter 26: is a block right? walked.
-/
namespace Go.Proofs.Ytmfplinbbcoahaa
open Go.RowKit Go.Sort
set_option linter.unusedVariables false
set_option linter.unusedSimpArgs false

set_option maxRecDepth 100000 in
set_option maxHeartbeats 8000000 in
theorem blkRight_any (v : BlkV) (w : World) (hv : Blk w v) (hf : SmB v) (hl : v.len < 4294967296) :
    Calls Try.prog 19 #[.agg v.cells.toArray] w fun e w' => e = .returned (.bool (rightP v.val)) ∧ Below w.heap.size w w' := by
  have HB := Lib.hid (Below.refl w.heap.size w)
  have HV := Lib.hid hv
  have HF := Lib.hid hf
  have HBI := Lib.hid blk_info
  obtain ⟨m, hm⟩ : ∃ m, m = mayP v.val := ⟨_, rfl⟩
  obtain ⟨s, hs⟩ : ∃ s, s = sizeB v.val := ⟨_, rfl⟩
  have HM := Lib.hid hm
  have HS := Lib.hid hs
  have HR : Hid (rightP v.val = (m && decide (s ≤ 1048576))) := Lib.hid (by rw [hm, hs]; rfl)
  have hd : (s ≤ 1048576 ∧ (s : Int) ≤ 1048576) ∨ (¬ s ≤ 1048576 ∧ ¬ (s : Int) ≤ 1048576) := by omega
  clear hv hf hm hs
  cases m
  all_goals
    rcases hd with ⟨d1, d2⟩ | ⟨d1, d2⟩
    all_goals
      go_enter Try.func19, Try.ntmps19
      go_wp2_with (first
        | ((with_reducible refine sl 1 ?_); go_must (refine wpL_box rfl 27 (.tmp 0) rfl v.cells.toArray rfl ?_); intro w1 hg1 hb1; have HG1 := Lib.hid hg1; have hE__ := cU HB bup hb1; replace HB := ck HB hE__; clear hE__; clear hg1 hb1; simp only [PT])
        | ((with_reducible refine sl 3 ?_); refine wpL_load rfl 27 (.tmp 1) rfl w.heap.size 0 rfl v.cells _ (range_block HG1.out) Try.underlying27 rfl HBI.out ?_; simp only [PT])
        | ((with_reducible refine sl 6 ?_); refine wpL_load rfl 27 (.tmp 1) rfl w.heap.size 0 rfl v.cells _ (range_block HG1.out) Try.underlying27 rfl HBI.out ?_; simp only [PT])
        | (go_at_call 41; refine (may_any v _ (HV.out.below (HB.out.trans (Below.mono bup HB.out.size))) HF.out hl).mono ?_; intro e w5 hr; rw [← HM.out] at hr; obtain ⟨rfl, hb5⟩ := hr; have hE__ := cU HB bup hb5; replace HB := ck HB hE__; replace HG1 := ck HG1 hE__; clear hE__; clear hb5)
        | (go_at_call 42; refine (blkSize_any v _ (HV.out.below (HB.out.trans (Below.mono bup HB.out.size))) HF.out).mono ?_; intro e w6 hr; rw [← HS.out] at hr; obtain ⟨rfl, hb6⟩ := hr; have hE__ := cU HB bup hb6; replace HB := ck HB hE__; replace HG1 := ck HG1 hE__; clear hE__; clear hb6))
      all_goals
        go_ret
        refine ⟨?_, HB.out.trans (Below.mono bup HB.out.size)⟩
        rw [HR.out]
        first
          | rfl
          | (simp [d1]; done)
          | (simp [d1, d2]; done)
end Go.Proofs.Ytmfplinbbcoahaa
