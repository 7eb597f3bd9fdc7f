/-
  Joined by program (merge.py): Body6, Body7, Body8, Body, PutB, Opn3, OrWord, Opn4, Opn5.
-/
import Derived.Great.BuildSlice
import Derived.Test.YtmfplinbbcoahaaR1
import Derived.Test.YtmfplinbbcoahaaR2
import Derived.Test.YtmfplinbbcoahaaR4
import Derived.Test.YtmfplinbbcoahaaR5
import Derived.Test.YtmfplinbbcoahaaR6
set_option linter.unusedVariables false
set_option linter.unusedSimpArgs false
set_option maxRecDepth 100000
set_option maxHeartbeats 16000000
namespace Go.Proofs.Ytmfplinbbcoahaa
open Go.RowKit Go.Sort
theorem body3_any (v : BlkV) (big : Bool) (w : World) (hv : Blk w v) (hk : v.kind = 3) (hf : SmB v) (hm : mayP v.val = true) (hw : wfB v.val) :
    Calls Try.prog 48 #[.agg v.cells.toArray, .bool big] w fun e w' => (∃ ad c, e = .returned (.slice ad (bodyB big v.val).length c) ∧ Bs w' ad (bodyB big v.val).length c (bodyB big v.val)) ∧ Below w.heap.size w w' := by
  obtain ⟨z1, z2, z3⟩ := hf.sizes
  obtain ⟨_, hfit, hlink, hifc, hwo, hwn, hlast⟩ := (z1c v.val).1 hm
  obtain ⟨hw1, hw2, hw3, hw4'⟩ := hw
  change 0 ≤ v.link ∧ v.link ≤ 65535 at hlink
  change 0 ≤ v.iface ∧ v.iface ≤ 4294967295 at hifc
  change wrongO (vals v.os) = 0 at hwo
  change wrongO (vals v.ns) = 0 at hwn
  change v.type < 4294967296 at hw1
  change v.snap < 4294967296 at hw2
  change v.time < 18446744073709551616 at hw3
  change v.len < 4294967296 at hw4'
  have HB := Hd (Below.refl w.heap.size w)
  have HV := Hd hv
  have HFIT := Hd hfit
  have HDLN := Hd hv.lens.1
  have HWo := Hd hwo
  have HWn := Hd hwn
  obtain ⟨PO, hPO⟩ : ∃ P, P = putAll big (vals v.os) := ⟨_, rfl⟩
  have hpl : PO.length ≤ 70424 := by rw [hPO, z0q]; split <;> omega
  have HPO := Hd hPO
  obtain ⟨L0, hL0⟩ : ∃ L : List UInt8, L = [] := ⟨_, rfl⟩
  have hn0 : L0.length ≤ 0 := by rw [hL0]; exact Nat.le_refl _
  have HL0 := Hd hL0
  obtain ⟨ic, hic⟩ : ∃ n : Nat, v.iface = (n : Int) := ⟨v.iface.toNat, by omega⟩
  have hiw : IntKind.u64.wrap (ic : Int) = (ic : Int) := z15 _ (by omega)
  have hit : v.iface.toNat = ic := by omega
  have HIT := Hd hit
  have hlnw : IntKind.u64.wrap (v.len : Int) = (v.len : Int) := z15 _ (by omega)
  have hdnw : IntKind.u64.wrap (v.dn : Int) = (v.dn : Int) := z15 _ (by omega)
  obtain ⟨pdn, hpdn⟩ : ∃ n, n = (padL v.dl).length := ⟨_, rfl⟩
  have hpdb : pdn ≤ 1100003 := by rw [hpdn, z0w]; have := padN_le v.dl.length; have := hv.1.len; omega
  have HPD := Hd hpdn
  clear hpdn hv hf hm hfit hwo hwn hlast hPO hL0
  go_enter Try.func48, Try.ntmps48
  go_wp2_with (first
 | ((with_reducible refine sl 2 ?_); (refine z1f rfl 27 (.tmp 0) rfl v.cells.toArray rfl ?_); intro w1 hg1 hb1; have hz1 := lt_of_block hg1; obtain ⟨w4, hw4⟩ : ∃ w4, w4 = ((w1.alloc (.cells #[.bool big] 4)).alloc (.cells #[.slice none 0 0] 24)).alloc (.cells #[.func (.func 76) #[] #[.pointer (some ⟨w1.heap.size + 1, 0, none⟩), .pointer (some ⟨w1.heap.size, 0, none⟩)]] 97) := ⟨_, rfl⟩; have h14 := z22 w1 big; rw [← hw4] at h14; have HG := Hd ((h14.1.block _ hz1).trans hg1); have H6 := Hd h14.2.2; have ho4 := h14.2.1; rw [← HL0.out] at ho4; have HO := Hd ho4; clear ho4; have HB' := Hd ((HB.out.trans hb1).trans (h14.1.mono (by omega))); clear HB; have HB := HB'; clear HB'; have HW4 := Hd hw4; obtain ⟨c0, c1, c2, c3, c4, c5, c6, c7, c8, c9, c10⟩ := z03 HG.out; have m6 := cell_of_one H6.out; unfold numF at m6; obtain ⟨ad5, k5, h51, h52, h53, _, _, _, h57⟩ := HO.out; have m5 := cell_of_one h51; have m3 := cell_of_one h53; have f5 := free_of_one h51; have H51 := Hd h51; have H52 := Hd h52; have H53 := Hd h53; have H57 := Hd h57; clear h51 h52 h53 h57; clear hg1 hb1 hw4 h14; simp only [PT])
 | ((with_reducible refine sl 14 ?_); rw [← HW4.out]; clear HW4)
 | (go_at_call 76; (with_reducible show Calls _ _ #[Value.int .u64 ((ic : Nat) : Int), .int .i64 4, _, _] _ _); (refine (z2w (w1.heap.size + 3) (w1.heap.size + 1) w1.heap.size big L0 ic 4 (by omega) (by omega) _ HO.out).mono ?_); rintro e w11 ⟨rfl, ho, hk⟩; obtain ⟨L1, hL1⟩ : ∃ L, L = L0 ++ putL ic 4 big := ⟨_, rfl⟩; rw [← hL1] at ho; have hn1 : L1.length ≤ L0.length + (putL ic 4 big).length := (by rw [hL1, List.length_append]; exact Nat.le_refl _); rw [z06] at hn1; have HL1 := Hd hL1; clear hL1; clear c0 c1 c2 c3 c4 c5 c6 c7 c8 c9 c10 m6 m5 m3 f5 H51 H52 H53 H57; have HG' := Hd (Kb.block hk (by omega) (by omega) HG.out); clear HG; have HG := HG'; clear HG'; have H6' := Hd (Kb.block hk (by omega) (by omega) H6.out); clear H6; have H6 := H6'; clear H6'; have HB' := Hd (Kb.below HB.out hk (by omega) (by omega)); clear HB; have HB := HB'; clear HB'; clear HO; have HO := Hd ho; obtain ⟨c0, c1, c2, c3, c4, c5, c6, c7, c8, c9, c10⟩ := z03 HG.out; have m6 := cell_of_one H6.out; unfold numF at m6; obtain ⟨ad5, k5, h51, h52, h53, _, _, _, h57⟩ := HO.out; have m5 := cell_of_one h51; have m3 := cell_of_one h53; have f5 := free_of_one h51; have H51 := Hd h51; have H52 := Hd h52; have H53 := Hd h53; have H57 := Hd h57; clear h51 h52 h53 h57; clear ho hk)
 | (go_at_call 77; (refine (time_any (w1.heap.size + 3) (w1.heap.size + 1) w1.heap.size (w1.heap.size + 1 + 1) w.heap.size big L1 (by omega) v hw3 _ HO.out H6.out HG.out (by omega) (by omega) (by omega) (by omega)).mono ?_); rintro e w12 ⟨rfl, ho, hk⟩; obtain ⟨L2, hL2⟩ : ∃ L, L = L1 ++ timeB big v.time := ⟨_, rfl⟩; rw [← hL2] at ho; have hn2 : L2.length ≤ L1.length + 8 := (by rw [hL2, List.length_append]; unfold timeB; rw [List.length_append, z06, z06]; exact Nat.le_refl _); have HL2 := Hd hL2; clear hL2; clear c0 c1 c2 c3 c4 c5 c6 c7 c8 c9 c10 m6 m5 m3 f5 H51 H52 H53 H57; have HG' := Hd (Kb.block hk (by omega) (by omega) HG.out); clear HG; have HG := HG'; clear HG'; have H6' := Hd (Kb.block hk (by omega) (by omega) H6.out); clear H6; have H6 := H6'; clear H6'; have HB' := Hd (Kb.below HB.out hk (by omega) (by omega)); clear HB; have HB := HB'; clear HB'; clear HO; have HO := Hd ho; obtain ⟨c0, c1, c2, c3, c4, c5, c6, c7, c8, c9, c10⟩ := z03 HG.out; have m6 := cell_of_one H6.out; unfold numF at m6; obtain ⟨ad5, k5, h51, h52, h53, _, _, _, h57⟩ := HO.out; have m5 := cell_of_one h51; have m3 := cell_of_one h53; have f5 := free_of_one h51; have H51 := Hd h51; have H52 := Hd h52; have H53 := Hd h53; have H57 := Hd h57; clear h51 h52 h53 h57; clear ho hk)
 | (go_at_call 76; (with_reducible show Calls _ _ #[Value.int .u64 ((v.dn : Nat) : Int), .int .i64 4, _, _] _ _); (refine (z2w (w1.heap.size + 3) (w1.heap.size + 1) w1.heap.size big L2 v.dn 4 (by omega) (by omega) _ HO.out).mono ?_); rintro e w13 ⟨rfl, ho, hk⟩; obtain ⟨L3, hL3⟩ : ∃ L, L = L2 ++ putL v.dn 4 big := ⟨_, rfl⟩; rw [← hL3] at ho; have hn3 : L3.length ≤ L2.length + (putL v.dn 4 big).length := (by rw [hL3, List.length_append]; exact Nat.le_refl _); rw [z06] at hn3; have HL3 := Hd hL3; clear hL3; clear c0 c1 c2 c3 c4 c5 c6 c7 c8 c9 c10 m6 m5 m3 f5 H51 H52 H53 H57; have HG' := Hd (Kb.block hk (by omega) (by omega) HG.out); clear HG; have HG := HG'; clear HG'; have H6' := Hd (Kb.block hk (by omega) (by omega) H6.out); clear H6; have H6 := H6'; clear H6'; have HB' := Hd (Kb.below HB.out hk (by omega) (by omega)); clear HB; have HB := HB'; clear HB'; clear HO; have HO := Hd ho; obtain ⟨c0, c1, c2, c3, c4, c5, c6, c7, c8, c9, c10⟩ := z03 HG.out; have m6 := cell_of_one H6.out; unfold numF at m6; obtain ⟨ad5, k5, h51, h52, h53, _, _, _, h57⟩ := HO.out; have m5 := cell_of_one h51; have m3 := cell_of_one h53; have f5 := free_of_one h51; have H51 := Hd h51; have H52 := Hd h52; have H53 := Hd h53; have H57 := Hd h57; clear h51 h52 h53 h57; clear ho hk)
 | (go_at_call 76; (with_reducible show Calls _ _ #[Value.int .u64 ((v.len : Nat) : Int), .int .i64 4, _, _] _ _); (refine (z2w (w1.heap.size + 3) (w1.heap.size + 1) w1.heap.size big L3 v.len 4 (by omega) (by omega) _ HO.out).mono ?_); rintro e w14 ⟨rfl, ho, hk⟩; obtain ⟨L4, hL4⟩ : ∃ L, L = L3 ++ putL v.len 4 big := ⟨_, rfl⟩; rw [← hL4] at ho; have hn4 : L4.length ≤ L3.length + (putL v.len 4 big).length := (by rw [hL4, List.length_append]; exact Nat.le_refl _); rw [z06] at hn4; have HL4 := Hd hL4; clear hL4; clear c0 c1 c2 c3 c4 c5 c6 c7 c8 c9 c10 m6 m5 m3 f5 H51 H52 H53 H57; have HG' := Hd (Kb.block hk (by omega) (by omega) HG.out); clear HG; have HG := HG'; clear HG'; have H6' := Hd (Kb.block hk (by omega) (by omega) H6.out); clear H6; have H6 := H6'; clear H6'; have HB' := Hd (Kb.below HB.out hk (by omega) (by omega)); clear HB; have HB := HB'; clear HB'; clear HO; have HO := Hd ho; obtain ⟨c0, c1, c2, c3, c4, c5, c6, c7, c8, c9, c10⟩ := z03 HG.out; have m6 := cell_of_one H6.out; unfold numF at m6; obtain ⟨ad5, k5, h51, h52, h53, _, _, _, h57⟩ := HO.out; have m5 := cell_of_one h51; have m3 := cell_of_one h53; have f5 := free_of_one h51; have H51 := Hd h51; have H52 := Hd h52; have H53 := Hd h53; have H57 := Hd h57; clear h51 h52 h53 h57; clear ho hk))
  refine wp_region_held_drew (S := fun u => u.cell? ⟨w.heap.size, 8, none⟩ = some (.slice v.dad v.dn v.dc)) (by kernel_rfl) ?_ (fun hHeld => ?_); (focus (first | exact (z03 HG.out).2.2.2.2.2.2.2.2.1 | exact (z03 HGx.out).2.2.2.2.2.2.2.2.1)); (refine tk 1 (oi := ⟨some 67, _, _, _, _, _⟩) (v := ?_) rfl (by kernel_rfl) (.inl ⟨by rfl, ?_⟩) hHeld ?_; rotate_left; focus (intro w hSw; (try dsimp only at hSw); go_simp; try with_reducible rfl)); simp only [PT]; (refine tk 2 (oi := ⟨some 68, _, _, _, _, _⟩) (v := ?_) rfl (by kernel_rfl) (.inl ⟨by rfl, ?_⟩) hHeld ?_; rotate_left; focus (intro w hSw; (try dsimp only at hSw); go_simp; try with_reducible rfl)); simp only [PT]; refine wpAnyH_ready (rs := [0, 3]) (by kernel_rfl) (by simp) ?_; refine (AllReadyH.cons (o := ⟨some 66, _, _, _, _, _⟩) rfl (fun K hK => ?_) (AllReadyH.cons (o := ⟨some 69, _, _, _, _, _⟩) rfl (fun K hK => ?_) AllReadyH.nil)); (have m5 := cell_of_one H51.out; go_simp); refine hK.out _ _ ?_ (fun hHeld => ?_); (focus (first | exact (z03 HG.out).2.2.2.2.2.2.2.2.1 | exact (z03 HGx.out).2.2.2.2.2.2.2.2.1)); clear hK K; (try simp only [PT]); refine wpAnyH_ready (rs := [3]) (by kernel_rfl) (by simp) ?_; refine (AllReadyH.cons (o := ⟨some 69, _, _, _, _, _⟩) rfl (fun K hK => ?_) AllReadyH.nil); (focus (go_simp; (refine (z3p v.dad v.dn v.dc v.dl _ (HV.out.1.below (HB.out.trans (Below.mono bup HB.out.size))) (by omega)).mono ?_); intro e w30 hr; unfold RetB at hr; rw [← HPD.out] at hr; obtain ⟨ad30, k30, rfl, ho30, hb30⟩ := hr; have hB30 : Below w14.heap.size w14 w30 := ((Below.refl _ _).drew).trans hb30; have hE__ := cU HB bup hb30; replace HB := ck HB hE__; replace HG := ck HG hE__; replace H6 := ck H6 hE__; replace H51 := ck H51 hE__; replace H53 := ck H53 hE__; replace H52 := ck H52 hE__; clear hE__; have H57' := Hd (Nat.le_trans H57.out hB30.size); have HS0 := Hd hB30; have HP30 := Hd (Bs.of_own ho30); clear ho30 hb30 hB30; go_wp2_with fail)); refine hK.out _ _ ?_ (fun hHeld => ?_); (focus (first | exact (z03 HG.out).2.2.2.2.2.2.2.2.1 | exact (z03 HGx.out).2.2.2.2.2.2.2.2.1)); clear hK K; (try simp only [PT]); refine wpAnyH_ready (rs := [4]) (by kernel_rfl) (by simp) ?_; refine (AllReadyH.cons (o := ⟨some 70, _, _, _, _, _⟩) rfl (fun K hK => ?_) AllReadyH.nil); ((refine z1v elB rfl (.tmp 66) (.tmp 69) rfl (w1.heap.size + 3) rfl H52.out rfl HP30.out (z11 _) (by unfold maxLen; omega) (by omega) H57'.out ?_); intro adn kn w31 hown hgr _ _; rw [← z0i] at hown; have HS7 := Hd (show Below (w1.heap.size + 3) w30 w31 from ((Below.refl _ _)).grown hgr H57'.out (z07 H52.out)); have HO7 := Hd hown; have H517 := Hd ((HS7.out.block _ (by omega)).trans H51.out); have H537 := Hd ((HS7.out.block _ (by omega)).trans H53.out); have HG7 := Hd ((HS7.out.block _ (by omega)).trans HG.out); clear HG; have HG := HG7; clear HG7 hown hgr); refine hK.out _ _ ?_ (fun hHeld => ?_); (focus (first | exact (z03 HG.out).2.2.2.2.2.2.2.2.1 | exact (z03 HGx.out).2.2.2.2.2.2.2.2.1)); clear hK K; (try simp only [PT]); refine wpAnyH_ready (rs := [5]) (by kernel_rfl) (by simp) ?_; refine (AllReadyH.cons (o := ⟨none, _, _, _, _, _⟩) rfl (fun K hK => ?_) AllReadyH.nil); ((refine z2i rfl 24 (.tmp 5) (.tmp 70) rfl (w1.heap.size + 1) (.slice adn (L4.length + pdn) kn) rfl rfl rfl H517.out (by kernel_rfl) ?_); intro w32 hg8 hgr8; have HGx := Hd ((hgr8.block _ (lt_of_block HG.out) (by intro e; simp at e; omega)).trans HG.out); have H8 := Hd hg8; have HR8 := Hd hgr8; clear hg8 hgr8); refine hK.out _ _ ?_ (fun hHeld => ?_); (focus (first | exact (z03 HG.out).2.2.2.2.2.2.2.2.1 | exact (z03 HGx.out).2.2.2.2.2.2.2.2.1)); clear hK K; (try simp only [PT]); refine wpAnyH_done (by kernel_rfl) ?_ _; rotate_left
  (focus (go_simp; (refine (z3p v.dad v.dn v.dc v.dl _ (HV.out.1.below (HB.out.trans (Below.mono bup HB.out.size))) (by omega)).mono ?_); intro e w30 hr; unfold RetB at hr; rw [← HPD.out] at hr; obtain ⟨ad30, k30, rfl, ho30, hb30⟩ := hr; have hB30 : Below w14.heap.size w14 w30 := ((Below.refl _ _).drew).trans hb30; have hE__ := cU HB bup hb30; replace HB := ck HB hE__; replace HG := ck HG hE__; replace H6 := ck H6 hE__; replace H51 := ck H51 hE__; replace H53 := ck H53 hE__; replace H52 := ck H52 hE__; clear hE__; have H57' := Hd (Nat.le_trans H57.out hB30.size); have HS0 := Hd hB30; have HP30 := Hd (Bs.of_own ho30); clear ho30 hb30 hB30; go_wp2_with fail)); refine hK.out _ _ ?_ (fun hHeld => ?_); (focus (first | exact (z03 HG.out).2.2.2.2.2.2.2.2.1 | exact (z03 HGx.out).2.2.2.2.2.2.2.2.1)); clear hK K; (try simp only [PT]); refine wpAnyH_ready (rs := [0]) (by kernel_rfl) (by simp) ?_; refine (AllReadyH.cons (o := ⟨some 66, _, _, _, _, _⟩) rfl (fun K hK => ?_) AllReadyH.nil); (have m5 := cell_of_one H51.out; go_simp); refine hK.out _ _ ?_ (fun hHeld => ?_); (focus (first | exact (z03 HG.out).2.2.2.2.2.2.2.2.1 | exact (z03 HGx.out).2.2.2.2.2.2.2.2.1)); clear hK K; (try simp only [PT]); refine wpAnyH_ready (rs := [4]) (by kernel_rfl) (by simp) ?_; refine (AllReadyH.cons (o := ⟨some 70, _, _, _, _, _⟩) rfl (fun K hK => ?_) AllReadyH.nil); ((refine z1v elB rfl (.tmp 66) (.tmp 69) rfl (w1.heap.size + 3) rfl H52.out rfl HP30.out (z11 _) (by unfold maxLen; omega) (by omega) H57'.out ?_); intro adn kn w31 hown hgr _ _; rw [← z0i] at hown; have HS7 := Hd (show Below (w1.heap.size + 3) w30 w31 from ((Below.refl _ _)).grown hgr H57'.out (z07 H52.out)); have HO7 := Hd hown; have H517 := Hd ((HS7.out.block _ (by omega)).trans H51.out); have H537 := Hd ((HS7.out.block _ (by omega)).trans H53.out); have HG7 := Hd ((HS7.out.block _ (by omega)).trans HG.out); clear HG; have HG := HG7; clear HG7 hown hgr); refine hK.out _ _ ?_ (fun hHeld => ?_); (focus (first | exact (z03 HG.out).2.2.2.2.2.2.2.2.1 | exact (z03 HGx.out).2.2.2.2.2.2.2.2.1)); clear hK K; (try simp only [PT]); refine wpAnyH_ready (rs := [5]) (by kernel_rfl) (by simp) ?_; refine (AllReadyH.cons (o := ⟨none, _, _, _, _, _⟩) rfl (fun K hK => ?_) AllReadyH.nil); ((refine z2i rfl 24 (.tmp 5) (.tmp 70) rfl (w1.heap.size + 1) (.slice adn (L4.length + pdn) kn) rfl rfl rfl H517.out (by kernel_rfl) ?_); intro w32 hg8 hgr8; have HGx := Hd ((hgr8.block _ (lt_of_block HG.out) (by intro e; simp at e; omega)).trans HG.out); have H8 := Hd hg8; have HR8 := Hd hgr8; clear hg8 hgr8); refine hK.out _ _ ?_ (fun hHeld => ?_); (focus (first | exact (z03 HG.out).2.2.2.2.2.2.2.2.1 | exact (z03 HGx.out).2.2.2.2.2.2.2.2.1)); clear hK K; (try simp only [PT]); refine wpAnyH_done (by kernel_rfl) ?_ _; rotate_left
  all_goals
    obtain ⟨L5, hL5⟩ : ∃ L, L = L4 ++ padL v.dl := ⟨_, rfl⟩
    have hl8 : L4.length + pdn = (L4 ++ padL v.dl).length := by rw [List.length_append, ← HPD.out]
    have ho := z37 HO7.out hl8 H8.out HR8.out H537.out (by omega) (by omega) (by omega) (Nat.le_trans H57'.out HS7.out.size)
    have hk0 : Kb (w1.heap.size + 3) (w1.heap.size + 1) w30 w32 := Kb.trans (Kb.of_below HS7.out) (Kb.of_grown HR8.out (Nat.le_trans H57'.out HS7.out.size))
    rw [← hL5] at ho
    have hn5 : L5.length ≤ L4.length + pdn := by rw [hL5, ← hl8]; exact Nat.le_refl _
    have HL5 := Hd hL5
    clear hL5 hl8 HG H8 HR8 HS7 HO7 H517 H537 c0 c1 c2 c3 c4 c5 c6 c7 c8 c9 c10 m6 m5 m3 f5 H51 H52 H53 H57
    have HG := HGx
    clear HGx
    have H6' := Hd (Kb.block hk0 (by omega) (by omega) H6.out); clear H6; have H6 := H6'; clear H6'
    have HB' := Hd (Kb.below HB.out hk0 (by omega) (by omega)); clear HB; have HB := HB'; clear HB'
    clear HO
    have HO := Hd ho
    obtain ⟨c0, c1, c2, c3, c4, c5, c6, c7, c8, c9, c10⟩ := z03 HG.out; have m6 := cell_of_one H6.out; unfold numF at m6; obtain ⟨ad5, k5, h51, h52, h53, _, _, _, h57⟩ := HO.out; have m5 := cell_of_one h51; have m3 := cell_of_one h53; have f5 := free_of_one h51; have H51 := Hd h51; have H52 := Hd h52; have H53 := Hd h53; have H57 := Hd h57; clear h51 h52 h53 h57
    clear ho hk0 HP30 HS0 H57'
    go_wp2_with (first
 | (go_at_call 80; (with_reducible show Calls _ _ #[Value.slice v.oad _ _, _] _ _); (refine (z1r v.oad v.on v.oc v.os big _ (HV.out.2.2.below (HB.out.trans (Below.mono bup HB.out.size))) (by omega)).mono ?_); intro e w40 hr; rw [HWo.out] at hr; rw [← HPO.out] at hr; obtain ⟨hb, h3⟩ := hr; rcases h3 with ⟨h3, _⟩ | ⟨_, ad40, c40, rfl, ho40⟩; exact absurd rfl h3; have H40 := Hd (Bs.of_own ho40); have ho := HO.out.below hb; have hk : Kb (w1.heap.size + 3) (w1.heap.size + 1) _ w40 := Kb.of_below (hb.mono H57.out); clear ho40; clear c0 c1 c2 c3 c4 c5 c6 c7 c8 c9 c10 m6 m5 m3 f5 H51 H52 H53 H57; have HG' := Hd (Kb.block hk (by omega) (by omega) HG.out); clear HG; have HG := HG'; clear HG'; have H6' := Hd (Kb.block hk (by omega) (by omega) H6.out); clear H6; have H6 := H6'; clear H6'; have HB' := Hd (Kb.below HB.out hk (by omega) (by omega)); clear HB; have HB := HB'; clear HB'; clear HO; have HO := Hd ho; obtain ⟨c0, c1, c2, c3, c4, c5, c6, c7, c8, c9, c10⟩ := z03 HG.out; have m6 := cell_of_one H6.out; unfold numF at m6; obtain ⟨ad5, k5, h51, h52, h53, _, _, _, h57⟩ := HO.out; have m5 := cell_of_one h51; have m3 := cell_of_one h53; have f5 := free_of_one h51; have H51 := Hd h51; have H52 := Hd h52; have H53 := Hd h53; have H57 := Hd h57; clear h51 h52 h53 h57; clear ho hk; clear hb)
 | ((with_reducible refine sl 117 ?_); (refine z0k elB rfl (.tmp 115) (.tmp 116) rfl (w1.heap.size + 3) rfl H52.out rfl H40.out (z11 _) (by unfold maxLen; omega) (by omega) H57.out ?_); intro ad41 c41 w41 hown hgr hat hnil; have HB' := Hd (HB.out.grown hgr HB.out.size (fun k e => by have := z07 H52.out k e; omega)); clear HB; have HB := HB'; clear HB'; rw [← z0i] at hown; have H41 := Hd (Bs.of_own hown); clear hown hgr hat hnil; simp only [PT]))
    have HFIN : Hid (L5 ++ PO = bodyB big v.val) := Hd (by
      rw [HL5.out, HL4.out, HL3.out, HL2.out, HL1.out, HL0.out, HPO.out]
      unfold bodyB fieldsB BlkV.val
      simp [hk, HIT.out, ← HDLN.out, List.append_assoc])
    go_ret
    refine ⟨⟨ad41, c41, ?_, ?_⟩, HB.out⟩
    · rw [← HFIN.out, List.length_append]
      rfl
    · rw [← HFIN.out, List.length_append]
      exact H41.out
theorem four_zeros : (madeCells (Value.int IntKind.u8 0).cells (4 * 1)).toList = BV [0, 0, 0, 0] := by
  show (madeCells #[Value.int .u8 0] 4).toList = _
  rw [toList_madeCells_one]
  rfl
theorem body5a_any (v : BlkV) (big : Bool) (w : World) (hv : Blk w v) (hk : v.kind = 5) (hf : SmB v) (hm : mayP v.val = true) (hw : wfB v.val) (hz : vals v.ns = []) :
    Calls Try.prog 48 #[.agg v.cells.toArray, .bool big] w fun e w' => (∃ ad c, e = .returned (.slice ad (bodyB big v.val).length c) ∧ Bs w' ad (bodyB big v.val).length c (bodyB big v.val)) ∧ Below w.heap.size w w' := by
  obtain ⟨z1, z2, z3⟩ := hf.sizes
  obtain ⟨_, hfit, hlink, hifc, hwo, hwn, hlast⟩ := (z1c v.val).1 hm
  obtain ⟨hw1, hw2, hw3, hw4'⟩ := hw
  change 0 ≤ v.link ∧ v.link ≤ 65535 at hlink
  change 0 ≤ v.iface ∧ v.iface ≤ 4294967295 at hifc
  change wrongO (vals v.os) = 0 at hwo
  change wrongO (vals v.ns) = 0 at hwn
  change v.type < 4294967296 at hw1
  change v.snap < 4294967296 at hw2
  change v.time < 18446744073709551616 at hw3
  change v.len < 4294967296 at hw4'
  have HB := Hd (Below.refl w.heap.size w)
  have HV := Hd hv
  have HFIT := Hd hfit
  have HWo := Hd hwo
  have HWn := Hd hwn
  obtain ⟨PO, hPO⟩ : ∃ P, P = putAll big (vals v.os) := ⟨_, rfl⟩
  have hpl : PO.length ≤ 70424 := by rw [hPO, z0q]; split <;> omega
  have HPO := Hd hPO
  obtain ⟨L0, hL0⟩ : ∃ L : List UInt8, L = [] := ⟨_, rfl⟩
  have hn0 : L0.length ≤ 0 := by rw [hL0]; exact Nat.le_refl _
  have HL0 := Hd hL0
  obtain ⟨PN, hPN⟩ : ∃ P, P = putAll big (vals v.ns) := ⟨_, rfl⟩
  have HPN := Hd hPN
  obtain ⟨pn, hpn⟩ : ∃ n, n = PN.length := ⟨_, rfl⟩
  have hpnb : pn ≤ 70424 := by rw [hpn, hPN, z0q]; split <;> omega
  have HDN := Hd hpn
  have HP0 : Hid (pn = 0) := Hd (by rw [hpn, hPN, hz]; rfl)
  obtain ⟨Z4, hZ4⟩ : ∃ Z : List UInt8, Z = [0, 0, 0, 0] := ⟨_, rfl⟩
  have HZ4 := Hd hZ4
  have HDL : Hid (4 = Z4.length) := Hd (by rw [hZ4]; rfl)
  have HNB : Hid (namesB big (vals v.ns) = Z4) := Hd (by rw [hz, hZ4]; rfl)
  clear hz hZ4 hPN hpn
  clear hv hf hm hfit hwo hwn hlast hPO hL0
  go_enter Try.func48, Try.ntmps48
  go_wp2_with (first
 | ((with_reducible refine sl 2 ?_); (refine z1f rfl 27 (.tmp 0) rfl v.cells.toArray rfl ?_); intro w1 hg1 hb1; have hz1 := lt_of_block hg1; obtain ⟨w4, hw4⟩ : ∃ w4, w4 = ((w1.alloc (.cells #[.bool big] 4)).alloc (.cells #[.slice none 0 0] 24)).alloc (.cells #[.func (.func 76) #[] #[.pointer (some ⟨w1.heap.size + 1, 0, none⟩), .pointer (some ⟨w1.heap.size, 0, none⟩)]] 97) := ⟨_, rfl⟩; have h14 := z22 w1 big; rw [← hw4] at h14; have HG := Hd ((h14.1.block _ hz1).trans hg1); have H6 := Hd h14.2.2; have ho4 := h14.2.1; rw [← HL0.out] at ho4; have HO := Hd ho4; clear ho4; have HB' := Hd ((HB.out.trans hb1).trans (h14.1.mono (by omega))); clear HB; have HB := HB'; clear HB'; have HW4 := Hd hw4; obtain ⟨c0, c1, c2, c3, c4, c5, c6, c7, c8, c9, c10⟩ := z03 HG.out; have m6 := cell_of_one H6.out; unfold numF at m6; obtain ⟨ad5, k5, h51, h52, h53, _, _, _, h57⟩ := HO.out; have m5 := cell_of_one h51; have m3 := cell_of_one h53; have f5 := free_of_one h51; have H51 := Hd h51; have H52 := Hd h52; have H53 := Hd h53; have H57 := Hd h57; clear h51 h52 h53 h57; clear hg1 hb1 hw4 h14; simp only [PT])
 | ((with_reducible refine sl 14 ?_); rw [← HW4.out]; clear HW4)
 | (go_at_call 80; (with_reducible show Calls _ _ #[Value.slice v.nad _ _, _] _ _); (refine (z1r v.nad v.nn v.nc v.ns big _ (HV.out.2.1.below (HB.out.trans (Below.mono bup HB.out.size))) (by omega)).mono ?_); intro e w20 hr; rw [HWn.out] at hr; rw [← HPN.out] at hr; rw [← HDN.out] at hr; rw [HP0.out] at hr; obtain ⟨hb, h3⟩ := hr; rcases h3 with ⟨h3, _⟩ | ⟨_, ad20, c20, rfl, ho20⟩; exact absurd rfl h3;  have ho := HO.out.below hb; have hk : Kb (w1.heap.size + 3) (w1.heap.size + 1) _ w20 := Kb.of_below (hb.mono H57.out); clear ho20; clear c0 c1 c2 c3 c4 c5 c6 c7 c8 c9 c10 m6 m5 m3 f5 H51 H52 H53 H57; have HG' := Hd (Kb.block hk (by omega) (by omega) HG.out); clear HG; have HG := HG'; clear HG'; have H6' := Hd (Kb.block hk (by omega) (by omega) H6.out); clear H6; have H6 := H6'; clear H6'; have HB' := Hd (Kb.below HB.out hk (by omega) (by omega)); clear HB; have HB := HB'; clear HB'; clear HO; have HO := Hd ho; obtain ⟨c0, c1, c2, c3, c4, c5, c6, c7, c8, c9, c10⟩ := z03 HG.out; have m6 := cell_of_one H6.out; unfold numF at m6; obtain ⟨ad5, k5, h51, h52, h53, _, _, _, h57⟩ := HO.out; have m5 := cell_of_one h51; have m3 := cell_of_one h53; have f5 := free_of_one h51; have H51 := Hd h51; have H52 := Hd h52; have H53 := Hd h53; have H57 := Hd h57; clear h51 h52 h53 h57; clear ho hk; clear hb)
 | ((with_reducible refine sl 95 ?_); (refine wpL_make elB rfl (.const (.int .i64 4)) (.const (.int .i64 4)) rfl w1.heap.size 4 rfl rfl rfl rfl (by omega) (by unfold maxLen; omega) (by have := H57.out; omega) ?_); intro w21 ho21 hg21; (have hb : Below w20.heap.size w20 w21 := (Below.refl _ _).grown hg21 (Nat.le_refl _) (fun k e => by cases e)); (have H20 := Hd (show Bs w21 (some ⟨w20.heap.size, 0, none⟩) 4 4 Z4 from by rw [HZ4.out]; exact Bs.of_own (l := [0, 0, 0, 0]) (four_zeros ▸ ho21))); have ho := HO.out.below hb; have hk : Kb (w1.heap.size + 3) (w1.heap.size + 1) _ w21 := Kb.of_below (hb.mono H57.out); clear ho21 hg21; clear c0 c1 c2 c3 c4 c5 c6 c7 c8 c9 c10 m6 m5 m3 f5 H51 H52 H53 H57; have HG' := Hd (Kb.block hk (by omega) (by omega) HG.out); clear HG; have HG := HG'; clear HG'; have H6' := Hd (Kb.block hk (by omega) (by omega) H6.out); clear H6; have H6 := H6'; clear H6'; have HB' := Hd (Kb.below HB.out hk (by omega) (by omega)); clear HB; have HB := HB'; clear HB'; clear HO; have HO := Hd ho; obtain ⟨c0, c1, c2, c3, c4, c5, c6, c7, c8, c9, c10⟩ := z03 HG.out; have m6 := cell_of_one H6.out; unfold numF at m6; obtain ⟨ad5, k5, h51, h52, h53, _, _, _, h57⟩ := HO.out; have m5 := cell_of_one h51; have m3 := cell_of_one h53; have f5 := free_of_one h51; have H51 := Hd h51; have H52 := Hd h52; have H53 := Hd h53; have H57 := Hd h57; clear h51 h52 h53 h57; clear ho hk; clear hb; simp only [PT])
 | ((with_reducible refine sl 98 ?_); (refine z0k elB rfl (.tmp 96) (.tmp 97) rfl (w1.heap.size + 3) rfl H52.out rfl H20.out (z11 _) (by unfold maxLen; omega) (by omega) H57.out ?_); intro adn kn w7 hown hgr _ _; rw [← z0i] at hown; have HS7 := Hd (show Below (w1.heap.size + 3) w21 w7 from ((Below.refl _ _)).grown hgr H57.out (z07 H52.out)); have HO7 := Hd hown; have H517 := Hd ((HS7.out.block _ (by omega)).trans H51.out); have H537 := Hd ((HS7.out.block _ (by omega)).trans H53.out); clear hown hgr; simp only [PT])
 | ((with_reducible show wpList _ _ _ (⟨none, .store _ _ (.tmp 98), _, _, _, _⟩ :: _) _ _); (refine wpL_store1 rfl 24 (.tmp 5) (.tmp 98) rfl (w1.heap.size + 1) (.slice adn (L0.length + 4) kn) rfl rfl rfl H517.out (by kernel_rfl) ?_); intro w11 hg8 hgr8; obtain ⟨L1, hL1⟩ : ∃ L, L = L0 ++ Z4 := ⟨_, rfl⟩; have hl8 : L0.length + 4 = (L0 ++ Z4).length := (by (try have hdl := HDL.out); rw [List.length_append]; omega); have ho := z37 HO7.out hl8 hg8 hgr8 H537.out (by omega) (by omega) (by omega) (Nat.le_trans H57.out HS7.out.size); have hk := Kb.trans (Kb.of_below (g5 := w1.heap.size + 1) HS7.out) (Kb.of_grown hgr8 (Nat.le_trans H57.out HS7.out.size)); rw [← hL1] at ho; have hn1 : L1.length ≤ L0.length + 4 := (by rw [hL1, ← hl8]; exact Nat.le_refl _); have HL1 := Hd hL1; clear hL1 hl8 hg8 hgr8 HS7 HO7 H517 H537; clear c0 c1 c2 c3 c4 c5 c6 c7 c8 c9 c10 m6 m5 m3 f5 H51 H52 H53 H57; have HG' := Hd (Kb.block hk (by omega) (by omega) HG.out); clear HG; have HG := HG'; clear HG'; have H6' := Hd (Kb.block hk (by omega) (by omega) H6.out); clear H6; have H6 := H6'; clear H6'; have HB' := Hd (Kb.below HB.out hk (by omega) (by omega)); clear HB; have HB := HB'; clear HB'; clear HO; have HO := Hd ho; obtain ⟨c0, c1, c2, c3, c4, c5, c6, c7, c8, c9, c10⟩ := z03 HG.out; have m6 := cell_of_one H6.out; unfold numF at m6; obtain ⟨ad5, k5, h51, h52, h53, _, _, _, h57⟩ := HO.out; have m5 := cell_of_one h51; have m3 := cell_of_one h53; have f5 := free_of_one h51; have H51 := Hd h51; have H52 := Hd h52; have H53 := Hd h53; have H57 := Hd h57; clear h51 h52 h53 h57; clear ho hk; simp only [PT])
 | (go_at_call 80; (with_reducible show Calls _ _ #[Value.slice v.oad _ _, _] _ _); (refine (z1r v.oad v.on v.oc v.os big _ (HV.out.2.2.below (HB.out.trans (Below.mono bup HB.out.size))) (by omega)).mono ?_); intro e w40 hr; rw [HWo.out] at hr; rw [← HPO.out] at hr; obtain ⟨hb, h3⟩ := hr; rcases h3 with ⟨h3, _⟩ | ⟨_, ad40, c40, rfl, ho40⟩; exact absurd rfl h3; have H40 := Hd (Bs.of_own ho40); have ho := HO.out.below hb; have hk : Kb (w1.heap.size + 3) (w1.heap.size + 1) _ w40 := Kb.of_below (hb.mono H57.out); clear ho40; clear c0 c1 c2 c3 c4 c5 c6 c7 c8 c9 c10 m6 m5 m3 f5 H51 H52 H53 H57; have HG' := Hd (Kb.block hk (by omega) (by omega) HG.out); clear HG; have HG := HG'; clear HG'; have H6' := Hd (Kb.block hk (by omega) (by omega) H6.out); clear H6; have H6 := H6'; clear H6'; have HB' := Hd (Kb.below HB.out hk (by omega) (by omega)); clear HB; have HB := HB'; clear HB'; clear HO; have HO := Hd ho; obtain ⟨c0, c1, c2, c3, c4, c5, c6, c7, c8, c9, c10⟩ := z03 HG.out; have m6 := cell_of_one H6.out; unfold numF at m6; obtain ⟨ad5, k5, h51, h52, h53, _, _, _, h57⟩ := HO.out; have m5 := cell_of_one h51; have m3 := cell_of_one h53; have f5 := free_of_one h51; have H51 := Hd h51; have H52 := Hd h52; have H53 := Hd h53; have H57 := Hd h57; clear h51 h52 h53 h57; clear ho hk; clear hb)
 | ((with_reducible refine sl 117 ?_); (refine z0k elB rfl (.tmp 115) (.tmp 116) rfl (w1.heap.size + 3) rfl H52.out rfl H40.out (z11 _) (by unfold maxLen; omega) (by omega) H57.out ?_); intro ad41 c41 w41 hown hgr hat hnil; have HB' := Hd (HB.out.grown hgr HB.out.size (fun k e => by have := z07 H52.out k e; omega)); clear HB; have HB := HB'; clear HB'; rw [← z0i] at hown; have H41 := Hd (Bs.of_own hown); clear hown hgr hat hnil; simp only [PT]))
  have HFIN : Hid (L1 ++ PO = bodyB big v.val) := Hd (by
    rw [HL1.out, HL0.out, HPO.out]
    unfold bodyB fieldsB BlkV.val
    simp [hk, HNB.out])
  go_ret
  refine ⟨⟨ad41, c41, ?_, ?_⟩, HB.out⟩
  · rw [← HFIN.out, List.length_append]
    rfl
  · rw [← HFIN.out, List.length_append]
    exact H41.out
theorem body5b_any (v : BlkV) (big : Bool) (w : World) (hv : Blk w v) (hk : v.kind = 5) (hf : SmB v) (hm : mayP v.val = true) (hw : wfB v.val) (hz : ¬ vals v.ns = []) :
    Calls Try.prog 48 #[.agg v.cells.toArray, .bool big] w fun e w' => (∃ ad c, e = .returned (.slice ad (bodyB big v.val).length c) ∧ Bs w' ad (bodyB big v.val).length c (bodyB big v.val)) ∧ Below w.heap.size w w' := by
  obtain ⟨z1, z2, z3⟩ := hf.sizes
  obtain ⟨_, hfit, hlink, hifc, hwo, hwn, hlast⟩ := (z1c v.val).1 hm
  obtain ⟨hw1, hw2, hw3, hw4'⟩ := hw
  change 0 ≤ v.link ∧ v.link ≤ 65535 at hlink
  change 0 ≤ v.iface ∧ v.iface ≤ 4294967295 at hifc
  change wrongO (vals v.os) = 0 at hwo
  change wrongO (vals v.ns) = 0 at hwn
  change v.type < 4294967296 at hw1
  change v.snap < 4294967296 at hw2
  change v.time < 18446744073709551616 at hw3
  change v.len < 4294967296 at hw4'
  have HB := Hd (Below.refl w.heap.size w)
  have HV := Hd hv
  have HFIT := Hd hfit
  have HWo := Hd hwo
  have HWn := Hd hwn
  obtain ⟨PO, hPO⟩ : ∃ P, P = putAll big (vals v.os) := ⟨_, rfl⟩
  have hpl : PO.length ≤ 70424 := by rw [hPO, z0q]; split <;> omega
  have HPO := Hd hPO
  obtain ⟨L0, hL0⟩ : ∃ L : List UInt8, L = [] := ⟨_, rfl⟩
  have hn0 : L0.length ≤ 0 := by rw [hL0]; exact Nat.le_refl _
  have HL0 := Hd hL0
  obtain ⟨PN, hPN⟩ : ∃ P, P = putAll big (vals v.ns) := ⟨_, rfl⟩
  have HPN := Hd hPN
  obtain ⟨pn, hpn⟩ : ∃ n, n = PN.length := ⟨_, rfl⟩
  have hpnb : pn ≤ 70424 := by rw [hpn, hPN, z0q]; split <;> omega
  have HDN := Hd hpn
  have hz1 : ¬ pn = 0 := by
    intro e
    rw [hpn, hPN, z0q] at e
    cases h : vals v.ns with
    | nil => exact hz h
    | cons x y => rw [h] at e; simp at e
  have hzi : ¬ (pn : Int) = 0 := by omega
  have HDL := Hd hpn
  have HNB : Hid (namesB big (vals v.ns) = PN) := Hd (by
    rw [hPN]
    unfold namesB
    cases h : vals v.ns with
    | nil => exact absurd h hz
    | cons x y => rfl)
  clear hz hPN hpn
  clear hv hf hm hfit hwo hwn hlast hPO hL0
  go_enter Try.func48, Try.ntmps48
  go_wp2_with (first
 | ((with_reducible refine sl 2 ?_); (refine z1f rfl 27 (.tmp 0) rfl v.cells.toArray rfl ?_); intro w1 hg1 hb1; have hz1 := lt_of_block hg1; obtain ⟨w4, hw4⟩ : ∃ w4, w4 = ((w1.alloc (.cells #[.bool big] 4)).alloc (.cells #[.slice none 0 0] 24)).alloc (.cells #[.func (.func 76) #[] #[.pointer (some ⟨w1.heap.size + 1, 0, none⟩), .pointer (some ⟨w1.heap.size, 0, none⟩)]] 97) := ⟨_, rfl⟩; have h14 := z22 w1 big; rw [← hw4] at h14; have HG := Hd ((h14.1.block _ hz1).trans hg1); have H6 := Hd h14.2.2; have ho4 := h14.2.1; rw [← HL0.out] at ho4; have HO := Hd ho4; clear ho4; have HB' := Hd ((HB.out.trans hb1).trans (h14.1.mono (by omega))); clear HB; have HB := HB'; clear HB'; have HW4 := Hd hw4; obtain ⟨c0, c1, c2, c3, c4, c5, c6, c7, c8, c9, c10⟩ := z03 HG.out; have m6 := cell_of_one H6.out; unfold numF at m6; obtain ⟨ad5, k5, h51, h52, h53, _, _, _, h57⟩ := HO.out; have m5 := cell_of_one h51; have m3 := cell_of_one h53; have f5 := free_of_one h51; have H51 := Hd h51; have H52 := Hd h52; have H53 := Hd h53; have H57 := Hd h57; clear h51 h52 h53 h57; clear hg1 hb1 hw4 h14; simp only [PT])
 | ((with_reducible refine sl 14 ?_); rw [← HW4.out]; clear HW4)
 | (go_at_call 80; (with_reducible show Calls _ _ #[Value.slice v.nad _ _, _] _ _); (refine (z1r v.nad v.nn v.nc v.ns big _ (HV.out.2.1.below (HB.out.trans (Below.mono bup HB.out.size))) (by omega)).mono ?_); intro e w20 hr; rw [HWn.out] at hr; rw [← HPN.out] at hr; rw [← HDN.out] at hr;  obtain ⟨hb, h3⟩ := hr; rcases h3 with ⟨h3, _⟩ | ⟨_, ad20, c20, rfl, ho20⟩; exact absurd rfl h3; have H20 := Hd (Bs.of_own ho20); have ho := HO.out.below hb; have hk : Kb (w1.heap.size + 3) (w1.heap.size + 1) _ w20 := Kb.of_below (hb.mono H57.out); clear ho20; clear c0 c1 c2 c3 c4 c5 c6 c7 c8 c9 c10 m6 m5 m3 f5 H51 H52 H53 H57; have HG' := Hd (Kb.block hk (by omega) (by omega) HG.out); clear HG; have HG := HG'; clear HG'; have H6' := Hd (Kb.block hk (by omega) (by omega) H6.out); clear H6; have H6 := H6'; clear H6'; have HB' := Hd (Kb.below HB.out hk (by omega) (by omega)); clear HB; have HB := HB'; clear HB'; clear HO; have HO := Hd ho; obtain ⟨c0, c1, c2, c3, c4, c5, c6, c7, c8, c9, c10⟩ := z03 HG.out; have m6 := cell_of_one H6.out; unfold numF at m6; obtain ⟨ad5, k5, h51, h52, h53, _, _, _, h57⟩ := HO.out; have m5 := cell_of_one h51; have m3 := cell_of_one h53; have f5 := free_of_one h51; have H51 := Hd h51; have H52 := Hd h52; have H53 := Hd h53; have H57 := Hd h57; clear h51 h52 h53 h57; clear ho hk; clear hb)
 | ((with_reducible refine sl 98 ?_); (refine z0k elB rfl (.tmp 96) (.tmp 97) rfl (w1.heap.size + 3) rfl H52.out rfl H20.out (z11 _) (by unfold maxLen; omega) (by omega) H57.out ?_); intro adn kn w7 hown hgr _ _; rw [← z0i] at hown; have HS7 := Hd (show Below (w1.heap.size + 3) w20 w7 from ((Below.refl _ _)).grown hgr H57.out (z07 H52.out)); have HO7 := Hd hown; have H517 := Hd ((HS7.out.block _ (by omega)).trans H51.out); have H537 := Hd ((HS7.out.block _ (by omega)).trans H53.out); clear hown hgr; simp only [PT])
 | ((with_reducible show wpList _ _ _ (⟨none, .store _ _ (.tmp 98), _, _, _, _⟩ :: _) _ _); (refine wpL_store1 rfl 24 (.tmp 5) (.tmp 98) rfl (w1.heap.size + 1) (.slice adn (L0.length + pn) kn) rfl rfl rfl H517.out (by kernel_rfl) ?_); intro w11 hg8 hgr8; obtain ⟨L1, hL1⟩ : ∃ L, L = L0 ++ PN := ⟨_, rfl⟩; have hl8 : L0.length + pn = (L0 ++ PN).length := (by (try have hdl := HDL.out); rw [List.length_append]; omega); have ho := z37 HO7.out hl8 hg8 hgr8 H537.out (by omega) (by omega) (by omega) (Nat.le_trans H57.out HS7.out.size); have hk := Kb.trans (Kb.of_below (g5 := w1.heap.size + 1) HS7.out) (Kb.of_grown hgr8 (Nat.le_trans H57.out HS7.out.size)); rw [← hL1] at ho; have hn1 : L1.length ≤ L0.length + pn := (by rw [hL1, ← hl8]; exact Nat.le_refl _); have HL1 := Hd hL1; clear hL1 hl8 hg8 hgr8 HS7 HO7 H517 H537; clear c0 c1 c2 c3 c4 c5 c6 c7 c8 c9 c10 m6 m5 m3 f5 H51 H52 H53 H57; have HG' := Hd (Kb.block hk (by omega) (by omega) HG.out); clear HG; have HG := HG'; clear HG'; have H6' := Hd (Kb.block hk (by omega) (by omega) H6.out); clear H6; have H6 := H6'; clear H6'; have HB' := Hd (Kb.below HB.out hk (by omega) (by omega)); clear HB; have HB := HB'; clear HB'; clear HO; have HO := Hd ho; obtain ⟨c0, c1, c2, c3, c4, c5, c6, c7, c8, c9, c10⟩ := z03 HG.out; have m6 := cell_of_one H6.out; unfold numF at m6; obtain ⟨ad5, k5, h51, h52, h53, _, _, _, h57⟩ := HO.out; have m5 := cell_of_one h51; have m3 := cell_of_one h53; have f5 := free_of_one h51; have H51 := Hd h51; have H52 := Hd h52; have H53 := Hd h53; have H57 := Hd h57; clear h51 h52 h53 h57; clear ho hk; simp only [PT])
 | (go_at_call 80; (with_reducible show Calls _ _ #[Value.slice v.oad _ _, _] _ _); (refine (z1r v.oad v.on v.oc v.os big _ (HV.out.2.2.below (HB.out.trans (Below.mono bup HB.out.size))) (by omega)).mono ?_); intro e w40 hr; rw [HWo.out] at hr; rw [← HPO.out] at hr; obtain ⟨hb, h3⟩ := hr; rcases h3 with ⟨h3, _⟩ | ⟨_, ad40, c40, rfl, ho40⟩; exact absurd rfl h3; have H40 := Hd (Bs.of_own ho40); have ho := HO.out.below hb; have hk : Kb (w1.heap.size + 3) (w1.heap.size + 1) _ w40 := Kb.of_below (hb.mono H57.out); clear ho40; clear c0 c1 c2 c3 c4 c5 c6 c7 c8 c9 c10 m6 m5 m3 f5 H51 H52 H53 H57; have HG' := Hd (Kb.block hk (by omega) (by omega) HG.out); clear HG; have HG := HG'; clear HG'; have H6' := Hd (Kb.block hk (by omega) (by omega) H6.out); clear H6; have H6 := H6'; clear H6'; have HB' := Hd (Kb.below HB.out hk (by omega) (by omega)); clear HB; have HB := HB'; clear HB'; clear HO; have HO := Hd ho; obtain ⟨c0, c1, c2, c3, c4, c5, c6, c7, c8, c9, c10⟩ := z03 HG.out; have m6 := cell_of_one H6.out; unfold numF at m6; obtain ⟨ad5, k5, h51, h52, h53, _, _, _, h57⟩ := HO.out; have m5 := cell_of_one h51; have m3 := cell_of_one h53; have f5 := free_of_one h51; have H51 := Hd h51; have H52 := Hd h52; have H53 := Hd h53; have H57 := Hd h57; clear h51 h52 h53 h57; clear ho hk; clear hb)
 | ((with_reducible refine sl 117 ?_); (refine z0k elB rfl (.tmp 115) (.tmp 116) rfl (w1.heap.size + 3) rfl H52.out rfl H40.out (z11 _) (by unfold maxLen; omega) (by omega) H57.out ?_); intro ad41 c41 w41 hown hgr hat hnil; have HB' := Hd (HB.out.grown hgr HB.out.size (fun k e => by have := z07 H52.out k e; omega)); clear HB; have HB := HB'; clear HB'; rw [← z0i] at hown; have H41 := Hd (Bs.of_own hown); clear hown hgr hat hnil; simp only [PT]))
  have HFIN : Hid (L1 ++ PO = bodyB big v.val) := Hd (by
    rw [HL1.out, HL0.out, HPO.out]
    unfold bodyB fieldsB BlkV.val
    simp [hk, HNB.out])
  go_ret
  refine ⟨⟨ad41, c41, ?_, ?_⟩, HB.out⟩
  · rw [← HFIN.out, List.length_append]
    rfl
  · rw [← HFIN.out, List.length_append]
    exact H41.out
theorem body5_any (v : BlkV) (big : Bool) (w : World) (hv : Blk w v) (hk : v.kind = 5) (hf : SmB v) (hm : mayP v.val = true) (hw : wfB v.val) :
    Calls Try.prog 48 #[.agg v.cells.toArray, .bool big] w fun e w' => (∃ ad c, e = .returned (.slice ad (bodyB big v.val).length c) ∧ Bs w' ad (bodyB big v.val).length c (bodyB big v.val)) ∧ Below w.heap.size w w' := by
  by_cases hz : vals v.ns = []
  · exact body5a_any v big w hv hk hf hm hw hz
  · exact body5b_any v big w hv hk hf hm hw hz
theorem step_ff {ops : Array Oper} {o : Oper} {a : Act} {w : World} {K : Act → World → Prop} {Q : Exit → Act → World → Prop} {E : Prop} (hgd : o.guard = none)
    (ho : o.op = .buildSlice 24 1 #[(0, .const (.int .u8 255))])
    (h : ∀ w1, Below w.heap.size w w1 → Bs w1 (some ⟨w.heap.size, 0, none⟩) 1 1 [255] → K (a.put o.dst (.slice (some ⟨w.heap.size, 0, none⟩) 1 1)) w1) :
    if Region.wanted o (yielded ops a.tmps) = true then Oper.wp Try.prog o a w K Q else E := by
  rw [if_pos (by simp [Region.wanted, hgd])]
  obtain ⟨i, hi, hz, hsize, hby⟩ := info_parts elB.info
  refine wp_buildSlice 24 5 1 _ ho #[.int .u8 255] i _ Try.underlying24 hi hz (by rw [hsize]; omega) (by rw [hsize]; omega) (by rw [hsize]; first | kernel_rfl | (simp [Act.eval, Instr.fill, Array.range, Value.cells]; done)) ?_
  exact h _ ((Below.refl _ _).alloc (Nat.le_refl _) _) (Bs.one w _ 255)
theorem body1_any (v : BlkV) (big : Bool) (w : World) (hv : Blk w v) (hk : v.kind = 1) (hf : SmB v) (hm : mayP v.val = true) (hw : wfB v.val) :
    Calls Try.prog 48 #[.agg v.cells.toArray, .bool big] w fun e w' => (∃ ad c, e = .returned (.slice ad (bodyB big v.val).length c) ∧ Bs w' ad (bodyB big v.val).length c (bodyB big v.val)) ∧ Below w.heap.size w w' := by
  obtain ⟨z1, z2, z3⟩ := hf.sizes
  obtain ⟨_, hfit, hlink, hifc, hwo, hwn, hlast⟩ := (z1c v.val).1 hm
  obtain ⟨hw1, hw2, hw3, hw4'⟩ := hw
  change 0 ≤ v.link ∧ v.link ≤ 65535 at hlink
  change 0 ≤ v.iface ∧ v.iface ≤ 4294967295 at hifc
  change wrongO (vals v.os) = 0 at hwo
  change wrongO (vals v.ns) = 0 at hwn
  change v.type < 4294967296 at hw1
  change v.snap < 4294967296 at hw2
  change v.time < 18446744073709551616 at hw3
  change v.len < 4294967296 at hw4'
  have HB := Hd (Below.refl w.heap.size w)
  have HV := Hd hv
  have HFIT := Hd hfit
  have HWo := Hd hwo
  have HWn := Hd hwn
  obtain ⟨PO, hPO⟩ : ∃ P, P = putAll big (vals v.os) := ⟨_, rfl⟩
  have hpl : PO.length ≤ 70424 := by rw [hPO, z0q]; split <;> omega
  have HPO := Hd hPO
  obtain ⟨L0, hL0⟩ : ∃ L : List UInt8, L = [] := ⟨_, rfl⟩
  have hn0 : L0.length ≤ 0 := by rw [hL0]; exact Nat.le_refl _
  have HL0 := Hd hL0
  obtain ⟨R8, hR8⟩ : ∃ R, R = List.replicate 8 (255 : UInt8) := ⟨_, rfl⟩
  have HPD : Hid (8 = R8.length) := Hd (by rw [hR8]; rfl)
  have HR := Hd hR8
  clear hR8
  clear hv hf hm hfit hwo hwn hlast hPO hL0
  go_enter Try.func48, Try.ntmps48
  go_wp2_with (first
 | ((with_reducible refine sl 2 ?_); (refine z1f rfl 27 (.tmp 0) rfl v.cells.toArray rfl ?_); intro w1 hg1 hb1; have hz1 := lt_of_block hg1; obtain ⟨w4, hw4⟩ : ∃ w4, w4 = ((w1.alloc (.cells #[.bool big] 4)).alloc (.cells #[.slice none 0 0] 24)).alloc (.cells #[.func (.func 76) #[] #[.pointer (some ⟨w1.heap.size + 1, 0, none⟩), .pointer (some ⟨w1.heap.size, 0, none⟩)]] 97) := ⟨_, rfl⟩; have h14 := z22 w1 big; rw [← hw4] at h14; have HG := Hd ((h14.1.block _ hz1).trans hg1); have H6 := Hd h14.2.2; have ho4 := h14.2.1; rw [← HL0.out] at ho4; have HO := Hd ho4; clear ho4; have HB' := Hd ((HB.out.trans hb1).trans (h14.1.mono (by omega))); clear HB; have HB := HB'; clear HB'; have HW4 := Hd hw4; obtain ⟨c0, c1, c2, c3, c4, c5, c6, c7, c8, c9, c10⟩ := z03 HG.out; have m6 := cell_of_one H6.out; unfold numF at m6; obtain ⟨ad5, k5, h51, h52, h53, _, _, _, h57⟩ := HO.out; have m5 := cell_of_one h51; have m3 := cell_of_one h53; have f5 := free_of_one h51; have H51 := Hd h51; have H52 := Hd h52; have H53 := Hd h53; have H57 := Hd h57; clear h51 h52 h53 h57; clear hg1 hb1 hw4 h14; simp only [PT])
 | ((with_reducible refine sl 14 ?_); rw [← HW4.out]; clear HW4)
 | (go_at_call 76; (with_reducible show Calls _ _ #[Value.int .u64 439041101, .int .i64 4, _, _] _ _); (refine (z2w (w1.heap.size + 3) (w1.heap.size + 1) w1.heap.size big L0 439041101 4 (by omega) (by omega) _ HO.out).mono ?_); rintro e w11 ⟨rfl, ho, hk⟩; obtain ⟨L1, hL1⟩ : ∃ L, L = L0 ++ putL 439041101 4 big := ⟨_, rfl⟩; rw [← hL1] at ho; have hn1 : L1.length ≤ L0.length + (putL 439041101 4 big).length := (by rw [hL1, List.length_append]; exact Nat.le_refl _); rw [z06] at hn1; have HL1 := Hd hL1; clear hL1; clear c0 c1 c2 c3 c4 c5 c6 c7 c8 c9 c10 m6 m5 m3 f5 H51 H52 H53 H57; have HG' := Hd (Kb.block hk (by omega) (by omega) HG.out); clear HG; have HG := HG'; clear HG'; have H6' := Hd (Kb.block hk (by omega) (by omega) H6.out); clear H6; have H6 := H6'; clear H6'; have HB' := Hd (Kb.below HB.out hk (by omega) (by omega)); clear HB; have HB := HB'; clear HB'; clear HO; have HO := Hd ho; obtain ⟨c0, c1, c2, c3, c4, c5, c6, c7, c8, c9, c10⟩ := z03 HG.out; have m6 := cell_of_one H6.out; unfold numF at m6; obtain ⟨ad5, k5, h51, h52, h53, _, _, _, h57⟩ := HO.out; have m5 := cell_of_one h51; have m3 := cell_of_one h53; have f5 := free_of_one h51; have H51 := Hd h51; have H52 := Hd h52; have H53 := Hd h53; have H57 := Hd h57; clear h51 h52 h53 h57; clear ho hk)
 | (go_at_call 76; (with_reducible show Calls _ _ #[Value.int .u64 1, .int .i64 2, _, _] _ _); (refine (z2w (w1.heap.size + 3) (w1.heap.size + 1) w1.heap.size big L1 1 2 (by omega) (by omega) _ HO.out).mono ?_); rintro e w12 ⟨rfl, ho, hk⟩; obtain ⟨L2, hL2⟩ : ∃ L, L = L1 ++ putL 1 2 big := ⟨_, rfl⟩; rw [← hL2] at ho; have hn2 : L2.length ≤ L1.length + (putL 1 2 big).length := (by rw [hL2, List.length_append]; exact Nat.le_refl _); rw [z0m] at hn2; have HL2 := Hd hL2; clear hL2; clear c0 c1 c2 c3 c4 c5 c6 c7 c8 c9 c10 m6 m5 m3 f5 H51 H52 H53 H57; have HG' := Hd (Kb.block hk (by omega) (by omega) HG.out); clear HG; have HG := HG'; clear HG'; have H6' := Hd (Kb.block hk (by omega) (by omega) H6.out); clear H6; have H6 := H6'; clear H6'; have HB' := Hd (Kb.below HB.out hk (by omega) (by omega)); clear HB; have HB := HB'; clear HB'; clear HO; have HO := Hd ho; obtain ⟨c0, c1, c2, c3, c4, c5, c6, c7, c8, c9, c10⟩ := z03 HG.out; have m6 := cell_of_one H6.out; unfold numF at m6; obtain ⟨ad5, k5, h51, h52, h53, _, _, _, h57⟩ := HO.out; have m5 := cell_of_one h51; have m3 := cell_of_one h53; have f5 := free_of_one h51; have H51 := Hd h51; have H52 := Hd h52; have H53 := Hd h53; have H57 := Hd h57; clear h51 h52 h53 h57; clear ho hk)
 | (go_at_call 76; (with_reducible show Calls _ _ #[Value.int .u64 0, .int .i64 2, _, _] _ _); (refine (z2w (w1.heap.size + 3) (w1.heap.size + 1) w1.heap.size big L2 0 2 (by omega) (by omega) _ HO.out).mono ?_); rintro e w13 ⟨rfl, ho, hk⟩; obtain ⟨L3, hL3⟩ : ∃ L, L = L2 ++ putL 0 2 big := ⟨_, rfl⟩; rw [← hL3] at ho; have hn3 : L3.length ≤ L2.length + (putL 0 2 big).length := (by rw [hL3, List.length_append]; exact Nat.le_refl _); rw [z0m] at hn3; have HL3 := Hd hL3; clear hL3; clear c0 c1 c2 c3 c4 c5 c6 c7 c8 c9 c10 m6 m5 m3 f5 H51 H52 H53 H57; have HG' := Hd (Kb.block hk (by omega) (by omega) HG.out); clear HG; have HG := HG'; clear HG'; have H6' := Hd (Kb.block hk (by omega) (by omega) H6.out); clear H6; have H6 := H6'; clear H6'; have HB' := Hd (Kb.below HB.out hk (by omega) (by omega)); clear HB; have HB := HB'; clear HB'; clear HO; have HO := Hd ho; obtain ⟨c0, c1, c2, c3, c4, c5, c6, c7, c8, c9, c10⟩ := z03 HG.out; have m6 := cell_of_one H6.out; unfold numF at m6; obtain ⟨ad5, k5, h51, h52, h53, _, _, _, h57⟩ := HO.out; have m5 := cell_of_one h51; have m3 := cell_of_one h53; have f5 := free_of_one h51; have H51 := Hd h51; have H52 := Hd h52; have H53 := Hd h53; have H57 := Hd h57; clear h51 h52 h53 h57; clear ho hk))
  refine wp_region_held_drew (S := fun u => True) (by kernel_rfl) ?_ (fun hHeld => ?_); (focus (exact trivial)); refine wpAnyH_ready (rs := [0, 1]) (by kernel_rfl) (by simp) ?_; refine (AllReadyH.cons (o := ⟨some 28, _, _, _, _, _⟩) rfl (fun K hK => ?_) (AllReadyH.cons (o := ⟨some 29, _, _, _, _, _⟩) rfl (fun K hK => ?_) AllReadyH.nil)); (have m5 := cell_of_one H51.out; go_simp); refine hK.out _ _ ?_ (fun hHeld => ?_); (focus (exact trivial)); clear hK K; (try simp only [PT]); refine wpAnyH_ready (rs := [1]) (by kernel_rfl) (by simp) ?_; refine (AllReadyH.cons (o := ⟨some 29, _, _, _, _, _⟩) rfl (fun K hK => ?_) AllReadyH.nil); ((refine step_ff rfl rfl ?_); intro w29 hb29 hs29; have HFF := Hd hs29; have hB29 : Below w13.heap.size w13 w29 := ((Below.refl _ _).drew).trans hb29; have hE__ := cU HB bup hb29; replace HB := ck HB hE__; replace HG := ck HG hE__; replace H6 := ck H6 hE__; replace H51 := ck H51 hE__; replace H53 := ck H53 hE__; replace H52 := ck H52 hE__; clear hE__; have H57a := Hd (Nat.le_trans H57.out hB29.size); clear hb29 hs29 hB29); refine hK.out _ _ ?_ (fun hHeld => ?_); (focus (exact trivial)); clear hK K; (try simp only [PT]); refine wpAnyH_ready (rs := [2]) (by kernel_rfl) (by simp) ?_; refine (AllReadyH.cons (o := ⟨some 30, _, _, _, _, _⟩) rfl (fun K hK => ?_) AllReadyH.nil); (focus (go_simp; (refine (repeat8_any _ 1 255 _ HFF.out).mono ?_); rintro e w30 ⟨⟨ad30, k30, rfl, hs30⟩, hb30⟩; have hE__ := cU HB bup hb30; replace HB := ck HB hE__; replace HG := ck HG hE__; replace H6 := ck H6 hE__; replace H51 := ck H51 hE__; replace H53 := ck H53 hE__; replace H52 := ck H52 hE__; clear hE__; have H57' := Hd (Nat.le_trans H57a.out hb30.size); have HP30 := Hd (show Bs w30 ad30 8 k30 R8 from by rw [HR.out]; exact hs30); clear hs30 hb30; go_wp2_with fail)); refine hK.out _ _ ?_ (fun hHeld => ?_); (focus (exact trivial)); clear hK K; (try simp only [PT]); refine wpAnyH_ready (rs := [3]) (by kernel_rfl) (by simp) ?_; refine (AllReadyH.cons (o := ⟨some 31, _, _, _, _, _⟩) rfl (fun K hK => ?_) AllReadyH.nil); ((refine z1v elB rfl (.tmp 28) (.tmp 30) rfl (w1.heap.size + 3) rfl H52.out rfl HP30.out (z11 _) (by unfold maxLen; omega) (by omega) H57'.out ?_); intro adn kn w31 hown hgr _ _; rw [← z0i] at hown; have HS7 := Hd (show Below (w1.heap.size + 3) w30 w31 from ((Below.refl _ _)).grown hgr H57'.out (z07 H52.out)); have HO7 := Hd hown; have H517 := Hd ((HS7.out.block _ (by omega)).trans H51.out); have H537 := Hd ((HS7.out.block _ (by omega)).trans H53.out); have HG7 := Hd ((HS7.out.block _ (by omega)).trans HG.out); clear HG; have HG := HG7; clear HG7 hown hgr); refine hK.out _ _ ?_ (fun hHeld => ?_); (focus (exact trivial)); clear hK K; (try simp only [PT]); refine wpAnyH_ready (rs := [4]) (by kernel_rfl) (by simp) ?_; refine (AllReadyH.cons (o := ⟨none, _, _, _, _, _⟩) rfl (fun K hK => ?_) AllReadyH.nil); ((refine z2i rfl 24 (.tmp 5) (.tmp 31) rfl (w1.heap.size + 1) (.slice adn (L3.length + 8) kn) rfl rfl rfl H517.out (by kernel_rfl) ?_); intro w32 hg8 hgr8; have HGx := Hd ((hgr8.block _ (lt_of_block HG.out) (by intro e; simp at e; omega)).trans HG.out); have H8 := Hd hg8; have HR8 := Hd hgr8; clear hg8 hgr8); refine hK.out _ _ ?_ (fun hHeld => ?_); (focus (exact trivial)); clear hK K; (try simp only [PT]); refine wpAnyH_done (by kernel_rfl) ?_ _; rotate_left; ((refine step_ff rfl rfl ?_); intro w29 hb29 hs29; have HFF := Hd hs29; have hB29 : Below w13.heap.size w13 w29 := ((Below.refl _ _).drew).trans hb29; have hE__ := cU HB bup hb29; replace HB := ck HB hE__; replace HG := ck HG hE__; replace H6 := ck H6 hE__; replace H51 := ck H51 hE__; replace H53 := ck H53 hE__; replace H52 := ck H52 hE__; clear hE__; have H57a := Hd (Nat.le_trans H57.out hB29.size); clear hb29 hs29 hB29); refine hK.out _ _ ?_ (fun hHeld => ?_); (focus (exact trivial)); clear hK K; (try simp only [PT]); refine wpAnyH_ready (rs := [0, 2]) (by kernel_rfl) (by simp) ?_
  refine (AllReadyH.cons (o := ⟨some 28, _, _, _, _, _⟩) rfl (fun K hK => ?_) (AllReadyH.cons (o := ⟨some 30, _, _, _, _, _⟩) rfl (fun K hK => ?_) AllReadyH.nil)); (have m5 := cell_of_one H51.out; go_simp); refine hK.out _ _ ?_ (fun hHeld => ?_); (focus (exact trivial)); clear hK K; (try simp only [PT]); refine wpAnyH_ready (rs := [2]) (by kernel_rfl) (by simp) ?_; refine (AllReadyH.cons (o := ⟨some 30, _, _, _, _, _⟩) rfl (fun K hK => ?_) AllReadyH.nil); (focus (go_simp; (refine (repeat8_any _ 1 255 _ HFF.out).mono ?_); rintro e w30 ⟨⟨ad30, k30, rfl, hs30⟩, hb30⟩; have hE__ := cU HB bup hb30; replace HB := ck HB hE__; replace HG := ck HG hE__; replace H6 := ck H6 hE__; replace H51 := ck H51 hE__; replace H53 := ck H53 hE__; replace H52 := ck H52 hE__; clear hE__; have H57' := Hd (Nat.le_trans H57a.out hb30.size); have HP30 := Hd (show Bs w30 ad30 8 k30 R8 from by rw [HR.out]; exact hs30); clear hs30 hb30; go_wp2_with fail)); refine hK.out _ _ ?_ (fun hHeld => ?_); (focus (exact trivial)); clear hK K; (try simp only [PT]); refine wpAnyH_ready (rs := [3]) (by kernel_rfl) (by simp) ?_; refine (AllReadyH.cons (o := ⟨some 31, _, _, _, _, _⟩) rfl (fun K hK => ?_) AllReadyH.nil); ((refine z1v elB rfl (.tmp 28) (.tmp 30) rfl (w1.heap.size + 3) rfl H52.out rfl HP30.out (z11 _) (by unfold maxLen; omega) (by omega) H57'.out ?_); intro adn kn w31 hown hgr _ _; rw [← z0i] at hown; have HS7 := Hd (show Below (w1.heap.size + 3) w30 w31 from ((Below.refl _ _)).grown hgr H57'.out (z07 H52.out)); have HO7 := Hd hown; have H517 := Hd ((HS7.out.block _ (by omega)).trans H51.out); have H537 := Hd ((HS7.out.block _ (by omega)).trans H53.out); have HG7 := Hd ((HS7.out.block _ (by omega)).trans HG.out); clear HG; have HG := HG7; clear HG7 hown hgr); refine hK.out _ _ ?_ (fun hHeld => ?_); (focus (exact trivial)); clear hK K; (try simp only [PT]); refine wpAnyH_ready (rs := [4]) (by kernel_rfl) (by simp) ?_; refine (AllReadyH.cons (o := ⟨none, _, _, _, _, _⟩) rfl (fun K hK => ?_) AllReadyH.nil); ((refine z2i rfl 24 (.tmp 5) (.tmp 31) rfl (w1.heap.size + 1) (.slice adn (L3.length + 8) kn) rfl rfl rfl H517.out (by kernel_rfl) ?_); intro w32 hg8 hgr8; have HGx := Hd ((hgr8.block _ (lt_of_block HG.out) (by intro e; simp at e; omega)).trans HG.out); have H8 := Hd hg8; have HR8 := Hd hgr8; clear hg8 hgr8); refine hK.out _ _ ?_ (fun hHeld => ?_); (focus (exact trivial)); clear hK K; (try simp only [PT]); refine wpAnyH_done (by kernel_rfl) ?_ _; rotate_left; (focus (go_simp; (refine (repeat8_any _ 1 255 _ HFF.out).mono ?_); rintro e w30 ⟨⟨ad30, k30, rfl, hs30⟩, hb30⟩; have hE__ := cU HB bup hb30; replace HB := ck HB hE__; replace HG := ck HG hE__; replace H6 := ck H6 hE__; replace H51 := ck H51 hE__; replace H53 := ck H53 hE__; replace H52 := ck H52 hE__; clear hE__; have H57' := Hd (Nat.le_trans H57a.out hb30.size); have HP30 := Hd (show Bs w30 ad30 8 k30 R8 from by rw [HR.out]; exact hs30); clear hs30 hb30; go_wp2_with fail)); refine hK.out _ _ ?_ (fun hHeld => ?_); (focus (exact trivial)); clear hK K; (try simp only [PT]); refine wpAnyH_ready (rs := [0]) (by kernel_rfl) (by simp) ?_; refine (AllReadyH.cons (o := ⟨some 28, _, _, _, _, _⟩) rfl (fun K hK => ?_) AllReadyH.nil); (have m5 := cell_of_one H51.out; go_simp); refine hK.out _ _ ?_ (fun hHeld => ?_); (focus (exact trivial)); clear hK K; (try simp only [PT]); refine wpAnyH_ready (rs := [3]) (by kernel_rfl) (by simp) ?_; refine (AllReadyH.cons (o := ⟨some 31, _, _, _, _, _⟩) rfl (fun K hK => ?_) AllReadyH.nil)
  ((refine z1v elB rfl (.tmp 28) (.tmp 30) rfl (w1.heap.size + 3) rfl H52.out rfl HP30.out (z11 _) (by unfold maxLen; omega) (by omega) H57'.out ?_); intro adn kn w31 hown hgr _ _; rw [← z0i] at hown; have HS7 := Hd (show Below (w1.heap.size + 3) w30 w31 from ((Below.refl _ _)).grown hgr H57'.out (z07 H52.out)); have HO7 := Hd hown; have H517 := Hd ((HS7.out.block _ (by omega)).trans H51.out); have H537 := Hd ((HS7.out.block _ (by omega)).trans H53.out); have HG7 := Hd ((HS7.out.block _ (by omega)).trans HG.out); clear HG; have HG := HG7; clear HG7 hown hgr); refine hK.out _ _ ?_ (fun hHeld => ?_); (focus (exact trivial)); clear hK K; (try simp only [PT]); refine wpAnyH_ready (rs := [4]) (by kernel_rfl) (by simp) ?_; refine (AllReadyH.cons (o := ⟨none, _, _, _, _, _⟩) rfl (fun K hK => ?_) AllReadyH.nil); ((refine z2i rfl 24 (.tmp 5) (.tmp 31) rfl (w1.heap.size + 1) (.slice adn (L3.length + 8) kn) rfl rfl rfl H517.out (by kernel_rfl) ?_); intro w32 hg8 hgr8; have HGx := Hd ((hgr8.block _ (lt_of_block HG.out) (by intro e; simp at e; omega)).trans HG.out); have H8 := Hd hg8; have HR8 := Hd hgr8; clear hg8 hgr8); refine hK.out _ _ ?_ (fun hHeld => ?_); (focus (exact trivial)); clear hK K; (try simp only [PT]); refine wpAnyH_done (by kernel_rfl) ?_ _; rotate_left
  all_goals
    obtain ⟨L4, hL4⟩ : ∃ L, L = L3 ++ R8 := ⟨_, rfl⟩
    have hl8 : L3.length + 8 = (L3 ++ R8).length := by rw [List.length_append, ← HPD.out]
    have ho := z37 HO7.out hl8 H8.out HR8.out H537.out (by omega) (by omega) (by omega) (Nat.le_trans H57'.out HS7.out.size)
    have hk0 : Kb (w1.heap.size + 3) (w1.heap.size + 1) w30 w32 := Kb.trans (Kb.of_below HS7.out) (Kb.of_grown HR8.out (Nat.le_trans H57'.out HS7.out.size))
    rw [← hL4] at ho
    have hn4 : L4.length ≤ L3.length + 8 := by rw [hL4, ← hl8]; exact Nat.le_refl _
    have HL4 := Hd hL4
    clear hL4 hl8 HG H8 HR8 HS7 HO7 H517 H537 c0 c1 c2 c3 c4 c5 c6 c7 c8 c9 c10 m6 m5 m3 f5 H51 H52 H53 H57
    have HG := HGx
    clear HGx
    have H6' := Hd (Kb.block hk0 (by omega) (by omega) H6.out); clear H6; have H6 := H6'; clear H6'
    have HB' := Hd (Kb.below HB.out hk0 (by omega) (by omega)); clear HB; have HB := HB'; clear HB'
    clear HO
    have HO := Hd ho
    obtain ⟨c0, c1, c2, c3, c4, c5, c6, c7, c8, c9, c10⟩ := z03 HG.out; have m6 := cell_of_one H6.out; unfold numF at m6; obtain ⟨ad5, k5, h51, h52, h53, _, _, _, h57⟩ := HO.out; have m5 := cell_of_one h51; have m3 := cell_of_one h53; have f5 := free_of_one h51; have H51 := Hd h51; have H52 := Hd h52; have H53 := Hd h53; have H57 := Hd h57; clear h51 h52 h53 h57
    clear ho hk0 HP30 HFF H57a H57'
    go_wp2_with (first
 | (go_at_call 80; (with_reducible show Calls _ _ #[Value.slice v.oad _ _, _] _ _); (refine (z1r v.oad v.on v.oc v.os big _ (HV.out.2.2.below (HB.out.trans (Below.mono bup HB.out.size))) (by omega)).mono ?_); intro e w40 hr; rw [HWo.out] at hr; rw [← HPO.out] at hr; obtain ⟨hb, h3⟩ := hr; rcases h3 with ⟨h3, _⟩ | ⟨_, ad40, c40, rfl, ho40⟩; exact absurd rfl h3; have H40 := Hd (Bs.of_own ho40); have ho := HO.out.below hb; have hk : Kb (w1.heap.size + 3) (w1.heap.size + 1) _ w40 := Kb.of_below (hb.mono H57.out); clear ho40; clear c0 c1 c2 c3 c4 c5 c6 c7 c8 c9 c10 m6 m5 m3 f5 H51 H52 H53 H57; have HG' := Hd (Kb.block hk (by omega) (by omega) HG.out); clear HG; have HG := HG'; clear HG'; have H6' := Hd (Kb.block hk (by omega) (by omega) H6.out); clear H6; have H6 := H6'; clear H6'; have HB' := Hd (Kb.below HB.out hk (by omega) (by omega)); clear HB; have HB := HB'; clear HB'; clear HO; have HO := Hd ho; obtain ⟨c0, c1, c2, c3, c4, c5, c6, c7, c8, c9, c10⟩ := z03 HG.out; have m6 := cell_of_one H6.out; unfold numF at m6; obtain ⟨ad5, k5, h51, h52, h53, _, _, _, h57⟩ := HO.out; have m5 := cell_of_one h51; have m3 := cell_of_one h53; have f5 := free_of_one h51; have H51 := Hd h51; have H52 := Hd h52; have H53 := Hd h53; have H57 := Hd h57; clear h51 h52 h53 h57; clear ho hk; clear hb)
 | ((with_reducible refine sl 117 ?_); (refine z0k elB rfl (.tmp 115) (.tmp 116) rfl (w1.heap.size + 3) rfl H52.out rfl H40.out (z11 _) (by unfold maxLen; omega) (by omega) H57.out ?_); intro ad41 c41 w41 hown hgr hat hnil; have HB' := Hd (HB.out.grown hgr HB.out.size (fun k e => by have := z07 H52.out k e; omega)); clear HB; have HB := HB'; clear HB'; rw [← z0i] at hown; have H41 := Hd (Bs.of_own hown); clear hown hgr hat hnil; simp only [PT]))
    have HFIN : Hid (L4 ++ PO = bodyB big v.val) := Hd (by
      rw [HL4.out, HL3.out, HL2.out, HL1.out, HL0.out, HPO.out, HR.out]
      unfold bodyB fieldsB BlkV.val
      simp only [hk]
      cases big <;> simp [putL, List.append_assoc] <;> rfl)
    go_ret
    refine ⟨⟨ad41, c41, ?_, ?_⟩, HB.out⟩
    · rw [← HFIN.out, List.length_append]
      rfl
    · rw [← HFIN.out, List.length_append]
      exact H41.out
theorem body_any (v : BlkV) (big : Bool) (w : World) (hv : Blk w v) (hf : SmB v) (hm : mayP v.val = true) (hw : wfB v.val) :
    Calls Try.prog 48 #[.agg v.cells.toArray, .bool big] w fun e w' => (∃ ad c, e = .returned (.slice ad (bodyB big v.val).length c) ∧ Bs w' ad (bodyB big v.val).length c (bodyB big v.val)) ∧ Below w.heap.size w w' := by
  have hkk : 1 ≤ v.kind ∧ v.kind ≤ 7 := ((z1c v.val).1 hm).1
  have hk : v.kind = 1 ∨ v.kind = 2 ∨ v.kind = 3 ∨ v.kind = 4 ∨ v.kind = 5 ∨ v.kind = 6 ∨ v.kind = 7 := by omega
  rcases hk with hk | hk | hk | hk | hk | hk | hk
  · exact body1_any v big w hv hk hf hm hw
  · exact body2_any v big w hv hk hf hm hw
  · exact body3_any v big w hv hk hf hm hw
  · exact body4_any v big w hv hk hf hm hw
  · exact body5_any v big w hv hk hf hm hw
  · exact body6_any v big w hv hk hf hm hw
  · exact body7_any v big w hv hk hf hm hw
theorem bytesB_parts (big : Bool) (x : PB) : bytesB big x = ((putL (typeB x) 4 (ordB big x) ++ putL (sizeB x) 4 (ordB big x)) ++ bodyB (ordB big x) x) ++ putL (sizeB x) 4 (ordB big x) := by
  unfold bytesB
  simp only [List.append_assoc]
theorem blkPut_any (v : BlkV) (big : Bool) (w : World) (hv : Blk w v) (hf : SmB v) (hw : wfB v.val) :
    Calls Try.prog 23 #[.agg v.cells.toArray, .bool big] w fun e w' => Below w.heap.size w w' ∧
      ((mayP v.val = false ∧ e = .returned (.tuple #[.slice none 0 0, .int .i64 1])) ∨
       (mayP v.val = true ∧ ¬ sizeB v.val ≤ 1048576 ∧ e = .returned (.tuple #[.slice none 0 0, .int .i64 4])) ∨
       (rightP v.val = true ∧ ∃ ad c, e = .returned (.tuple #[.slice ad (bytesB big v.val).length c, .int .i64 0]) ∧ w'.ownsRow w.heap.size 5 1 (.slice ad (bytesB big v.val).length c) (bytesB big v.val).length (BV (bytesB big v.val)))) := by
  have HB := Hd (Below.refl w.heap.size w)
  have HV := Hd hv
  have HF := Hd hf
  have HWF := Hd hw
  have hl : v.len < 4294967296 := hw.2.2.2
  have ht : v.type < 4294967296 := hw.1
  have HBI := Hd z0d
  have HR : Hid (rightP v.val = (mayP v.val && decide (sizeB v.val ≤ 1048576))) := Hd rfl
  by_cases hm : mayP v.val = true
  rotate_left
  · have hm' : false = mayP v.val := by cases h : mayP v.val <;> simp_all
    have HM := Hd hm'
    clear hv hf hw hm hm'
    go_enter Try.func23, Try.ntmps23
    go_wp2_with (first
 | ((with_reducible refine sl 2 ?_); (refine z0a rfl 27 (.tmp 0) rfl v.cells.toArray rfl ?_); intro w1 g2 he__ le_g2 lt_g2 hg__ hb__; have HG2 := Hd hg__; have hE__ := cU HB bup hb__; replace HB := ck HB hE__; clear hE__; clear hg__ hb__ he__; simp only [PT])
 | ((with_reducible refine sl 9 ?_); (refine z05 rfl 27 (.tmp 2) rfl g2 0 rfl v.cells _ (z00 HG2.out) Try.underlying27 rfl HBI.out ?_); simp only [PT])
 | (go_at_call 41; (refine (may_any v _ (HV.out.below (HB.out.trans (Below.mono bup HB.out.size))) HF.out hl).mono ?_); intro e w5 hr; rw [← HM.out] at hr; obtain ⟨rfl, hb__⟩ := hr; have hE__ := cU HB bup hb__; replace HB := ck HB hE__; replace HG2 := ck HG2 hE__; clear hE__; clear hb__))
    go_ret2
    exact ⟨HB.out, .inl ⟨HM.out.symm, rfl⟩⟩
  by_cases hr : sizeB v.val ≤ 1048576
  rotate_left
  · have HM := Hd hm.symm
    have HRR : Hid (false = rightP v.val) := Hd (by rw [HR.out, hm]; simp [hr])
    have HNR := Hd hr
    clear hv hf hw hm hr
    go_enter Try.func23, Try.ntmps23
    go_wp2_with (first
 | ((with_reducible refine sl 2 ?_); (refine z0a rfl 27 (.tmp 0) rfl v.cells.toArray rfl ?_); intro w1 g2 he__ le_g2 lt_g2 hg__ hb__; have HG2 := Hd hg__; have hE__ := cU HB bup hb__; replace HB := ck HB hE__; clear hE__; clear hg__ hb__ he__; simp only [PT])
 | ((with_reducible refine sl 9 ?_); (refine z05 rfl 27 (.tmp 2) rfl g2 0 rfl v.cells _ (z00 HG2.out) Try.underlying27 rfl HBI.out ?_); simp only [PT])
 | ((with_reducible refine sl 12 ?_); (refine z05 rfl 27 (.tmp 2) rfl g2 0 rfl v.cells _ (z00 HG2.out) Try.underlying27 rfl HBI.out ?_); simp only [PT])
 | (go_at_call 41; (refine (may_any v _ (HV.out.below (HB.out.trans (Below.mono bup HB.out.size))) HF.out hl).mono ?_); intro e w5 hr; rw [← HM.out] at hr; obtain ⟨rfl, hb__⟩ := hr; have hE__ := cU HB bup hb__; replace HB := ck HB hE__; replace HG2 := ck HG2 hE__; clear hE__; clear hb__)
 | (go_at_call 19; (refine (z33 v _ (HV.out.below (HB.out.trans (Below.mono bup HB.out.size))) HF.out hl).mono ?_); intro e w6 hr; rw [← HRR.out] at hr; obtain ⟨rfl, hb__⟩ := hr; have hE__ := cU HB bup hb__; replace HB := ck HB hE__; replace HG2 := ck HG2 hE__; clear hE__; clear hb__))
    go_ret2
    exact ⟨HB.out, .inr (.inl ⟨HM.out.symm, HNR.out, rfl⟩)⟩
  have HM := Hd hm.symm
  have HRR : Hid (true = rightP v.val) := Hd (by rw [HR.out, hm]; simp [hr])
  obtain ⟨s, hs⟩ : ∃ s, s = sizeB v.val := ⟨_, rfl⟩
  obtain ⟨T, hT⟩ : ∃ T, T = typeB v.val := ⟨_, rfl⟩
  obtain ⟨TK, hTK⟩ : ∃ T, T = typeP v.kind := ⟨_, rfl⟩
  obtain ⟨G, hG⟩ : ∃ G, G = ordB big v.val := ⟨_, rfl⟩
  obtain ⟨BD, hBD⟩ : ∃ B, B = bodyB G v.val := ⟨_, rfl⟩
  obtain ⟨PS, hPS⟩ : ∃ P, P = putL s 4 G := ⟨_, rfl⟩
  obtain ⟨PTy, hPT⟩ : ∃ P, P = putL T 4 G := ⟨_, rfl⟩
  have HFIN : Hid (bytesB big v.val = ((PTy ++ PS) ++ BD) ++ PS) := Hd (by rw [bytesB_parts, hPT, hPS, hBD, hT, hs, hG])
  have l1 : PS.length = 4 := by rw [hPS, z06]
  have l2 : PTy.length = 4 := by rw [hPT, z06]
  have l3 : BD.length + 12 ≤ 1048576 := by rw [hBD, z32]; unfold sizeB at hr; omega
  have L1 := Hd l1
  have L2 := Hd l2
  have l1' : PS.length ≤ 4 := by omega
  have l2' : PTy.length ≤ 4 := by omega
  have hTl : T < 4294967296 := by
    rw [hT]; unfold typeB typeP
    show (if v.kind = 7 then v.type else _) < _
    repeat' split
    all_goals omega
  have HS := Hd hs
  have HBD := Hd hBD
  have HPS := Hd hPS
  have HPT := Hd hPT
  have HTK := Hd hTK
  have hsl : s ≤ 1048576 := by omega
  have hws : IntKind.u64.wrap (s : Int) = (s : Int) := z15 _ (by omega)
  have hwT : IntKind.u64.wrap (T : Int) = (T : Int) := z15 _ (by omega)
  have hk3 : (v.kind = 1 ∧ G = v.big ∧ T = TK) ∨ (v.kind = 7 ∧ G = big ∧ T = v.type) ∨ (¬ v.kind = 1 ∧ ¬ v.kind = 7 ∧ G = big ∧ T = TK) := by
    rw [hG, hT, hTK]
    unfold ordB typeB
    show (v.kind = 1 ∧ (if v.kind = 1 then v.big else big) = v.big ∧ (if v.kind = 7 then v.type else typeP v.kind) = _) ∨ (v.kind = 7 ∧ (if v.kind = 1 then v.big else big) = big ∧ (if v.kind = 7 then v.type else typeP v.kind) = v.type) ∨ (¬ v.kind = 1 ∧ ¬ v.kind = 7 ∧ (if v.kind = 1 then v.big else big) = big ∧ (if v.kind = 7 then v.type else typeP v.kind) = typeP v.kind)
    by_cases h1 : v.kind = 1
    · exact .inl ⟨h1, by rw [if_pos h1], by rw [if_neg (by omega)]⟩
    · by_cases h7 : v.kind = 7
      · exact .inr (.inl ⟨h7, by rw [if_neg h1], by rw [if_pos h7]⟩)
      · exact .inr (.inr ⟨h1, h7, by rw [if_neg h1], by rw [if_neg h7]⟩)
  clear hv hf hw hm hr hs hT hTK hG hBD hPS hPT l1 l2
  rcases hk3 with ⟨hk, e1, e2⟩ | ⟨hk, e1, e2⟩ | ⟨hk, hk7, e1, e2⟩
  · have HTO : Hid (∀ w, Calls Try.prog 46 #[.int .i64 1] w fun e w' => e = .returned (.int .u32 ((TK : Nat) : Int)) ∧ Below w.heap.size w w') := Hd (fun w => by rw [HTK.out, hk]; exact z3j _ w)
    clear HTK
    subst e1
    subst e2
    go_enter Try.func23, Try.ntmps23
    go_wp2_with (first
 | ((with_reducible refine sl 2 ?_); (refine z0a rfl 27 (.tmp 0) rfl v.cells.toArray rfl ?_); intro w1 g2 he__ le_g2 lt_g2 hg__ hb__; have HG2 := Hd hg__; have hE__ := cU HB bup hb__; replace HB := ck HB hE__; clear hE__; clear hg__ hb__ he__; simp only [PT])
 | ((with_reducible refine sl 9 ?_); (refine z05 rfl 27 (.tmp 2) rfl g2 0 rfl v.cells _ (z00 HG2.out) Try.underlying27 rfl HBI.out ?_); simp only [PT])
 | ((with_reducible refine sl 12 ?_); (refine z05 rfl 27 (.tmp 2) rfl g2 0 rfl v.cells _ (z00 HG2.out) Try.underlying27 rfl HBI.out ?_); simp only [PT])
 | ((with_reducible refine sl 28 ?_); (refine z05 rfl 27 (.tmp 2) rfl g2 0 rfl v.cells _ (z00 HG2.out) Try.underlying27 rfl HBI.out ?_); simp only [PT])
 | (go_at_call 41; (refine (may_any v _ (HV.out.below (HB.out.trans (Below.mono bup HB.out.size))) HF.out hl).mono ?_); intro e w5 hr; rw [← HM.out] at hr; obtain ⟨rfl, hb__⟩ := hr; have hE__ := cU HB bup hb__; replace HB := ck HB hE__; replace HG2 := ck HG2 hE__; clear hE__; clear hb__)
 | (go_at_call 19; (refine (z33 v _ (HV.out.below (HB.out.trans (Below.mono bup HB.out.size))) HF.out hl).mono ?_); intro e w6 hr; rw [← HRR.out] at hr; obtain ⟨rfl, hb__⟩ := hr; have hE__ := cU HB bup hb__; replace HB := ck HB hE__; replace HG2 := ck HG2 hE__; clear hE__; clear hb__)
 | ((with_reducible refine sl 16 ?_); (refine z01 rfl 3 (.tmp 15) rfl g2 0 rfl (.int .i64 v.kind) HG2.out rfl Try.underlying3 rfl ?_); simp only [PT])
 | ((with_reducible refine sl 19 ?_); (refine z01 rfl 3 (.tmp 18) rfl g2 0 rfl (.int .i64 v.kind) HG2.out rfl Try.underlying3 rfl ?_); simp only [PT])
 | ((with_reducible refine sl 23 ?_); (refine z01 rfl 4 (.tmp 22) rfl g2 1 rfl (.bool v.big) HG2.out rfl Try.underlying4 rfl ?_); simp only [PT])
 | ((with_reducible refine sl 27 ?_); (refine z01 rfl 22 (.tmp 26) rfl g2 2 rfl (.int .u32 (v.type : Int)) HG2.out rfl Try.underlying22 rfl ?_); simp only [PT])
 | (go_at_call 46; (refine (HTO.out _).mono ?_); intro e w7 hr; obtain ⟨rfl, hb__⟩ := hr; have hE__ := cU HB bup hb__; replace HB := ck HB hE__; replace HG2 := ck HG2 hE__; clear hE__; clear hb__)
 | (go_at_call 42; (refine (blkSize_any v _ (HV.out.below (HB.out.trans (Below.mono bup HB.out.size))) HF.out).mono ?_); intro e w8 hr; rw [← HS.out] at hr; obtain ⟨rfl, hb__⟩ := hr; have hE__ := cU HB bup hb__; replace HB := ck HB hE__; replace HG2 := ck HG2 hE__; clear hE__; clear hb__)
 | (go_at_call 47; (with_reducible show Calls _ _ #[Value.int .u64 (s : Int), _, _] _ _); (refine (z3h s 4 _ _ (by omega)).mono ?_); intro e w9 hr; rw [← HPS.out] at hr; unfold RetB at hr; obtain ⟨ad9, c9, rfl, ho9, hb__⟩ := hr; have H9 := Hd (Bs.of_own ho9); have hE__ := cU HB bup hb__; replace HB := ck HB hE__; replace HG2 := ck HG2 hE__; clear hE__; have HE := Hd (Below.refl w9.heap.size w9); clear hb__ ho9)
 | (go_at_call 47; (refine (z3h T 4 _ _ (by omega)).mono ?_); intro e w10 hr; rw [← HPT.out] at hr; unfold RetB at hr; obtain ⟨ad10, c10, rfl, ho10, hb__⟩ := hr; replace HE := cE0 HE bup hb__; have HO := Hd (z0r (base' := w9.heap.size) ho10 (bsz bup)); clear hb__ ho10)
 | ((with_reducible refine sl 38 ?_); (refine z0k elB rfl (.tmp 36) (.tmp 37) rfl w9.heap.size rfl (z08 HO.out bup) rfl (H9.out.below (HE.out.trans (Below.mono bup HE.out.size))) (z11 _) (by unfold maxLen; omega) (by omega) (Nat.le_trans HE.out.size (bsz bup)) ?_); intro ad11 c11 w11 hown__ hgr__ _ _; rw [← z0i] at hown__; replace HE := cEa HE bup hgr__ (z07 HO.out); clear HO; have HO := Hd hown__; clear hown__ hgr__; simp only [PT])
 | ((with_reducible refine sl 40 ?_); (refine z05 rfl 27 (.tmp 2) rfl g2 0 rfl v.cells _ (z00 (((HE.out.trans (Below.mono bup HE.out.size)).block _ (lt_of_block HG2.out)).trans HG2.out)) Try.underlying27 rfl HBI.out ?_); simp only [PT])
 | (go_at_call 48; (refine (body_any v _ _ (HV.out.below ((HB.out.trans (HE.out.mono HB.out.size)).trans (Below.mono bup (Nat.le_trans HB.out.size HE.out.size)))) HF.out HM.out.symm HWF.out).mono ?_); intro e w12 hr; rw [← HBD.out] at hr; obtain ⟨⟨ad12, c12, rfl, h12⟩, hb__⟩ := hr; have H12 := Hd h12; clear h12; replace HO := cOa HO bup hb__; replace HE := cE0 HE bup hb__; clear hb__)
 | ((with_reducible refine sl 43 ?_); (refine z0k elB rfl (.tmp 39) (.tmp 42) rfl w9.heap.size rfl (z08 HO.out bup) rfl (H12.out.below bup) (z11 _) (by unfold maxLen; omega) (by omega) (Nat.le_trans HE.out.size (bsz bup)) ?_); intro ad13 c13 w13 hown__ hgr__ _ _; rw [← z0i] at hown__; replace HE := cEa HE bup hgr__ (z07 HO.out); clear HO; have HO := Hd hown__; clear hown__ hgr__; simp only [PT])
 | ((with_reducible refine sl 46 ?_); (refine z0k elB rfl (.tmp 44) (.tmp 45) rfl w9.heap.size rfl (z08 HO.out bup) rfl (H9.out.below (HE.out.trans (Below.mono bup HE.out.size))) (z11 _) (by unfold maxLen; omega) (by omega) (Nat.le_trans HE.out.size (bsz bup)) ?_); intro ad14 c14 w14 hown__ hgr__ _ _; rw [← z0i] at hown__; replace HE := cEa HE bup hgr__ (z07 HO.out); clear HO; have HO := Hd hown__; clear hown__ hgr__; simp only [PT]))
    go_ret2
    refine ⟨HB.out.trans (HE.out.mono HB.out.size), .inr (.inr ⟨HRR.out.symm, ad14, c14, ?_, ?_⟩)⟩
    · rw [HFIN.out]; simp only [List.length_append]; rfl
    · rw [HFIN.out]; simp only [List.length_append]; exact z0r HO.out HB.out.size
  · have HTO : Hid (∀ w, Calls Try.prog 46 #[.int .i64 7] w fun e w' => e = .returned (.int .u32 ((TK : Nat) : Int)) ∧ Below w.heap.size w w') := Hd (fun w => by rw [HTK.out, hk]; exact z3j _ w)
    clear HTK
    subst e1
    subst e2
    go_enter Try.func23, Try.ntmps23
    go_wp2_with (first
 | ((with_reducible refine sl 2 ?_); (refine z0a rfl 27 (.tmp 0) rfl v.cells.toArray rfl ?_); intro w1 g2 he__ le_g2 lt_g2 hg__ hb__; have HG2 := Hd hg__; have hE__ := cU HB bup hb__; replace HB := ck HB hE__; clear hE__; clear hg__ hb__ he__; simp only [PT])
 | ((with_reducible refine sl 9 ?_); (refine z05 rfl 27 (.tmp 2) rfl g2 0 rfl v.cells _ (z00 HG2.out) Try.underlying27 rfl HBI.out ?_); simp only [PT])
 | ((with_reducible refine sl 12 ?_); (refine z05 rfl 27 (.tmp 2) rfl g2 0 rfl v.cells _ (z00 HG2.out) Try.underlying27 rfl HBI.out ?_); simp only [PT])
 | ((with_reducible refine sl 28 ?_); (refine z05 rfl 27 (.tmp 2) rfl g2 0 rfl v.cells _ (z00 HG2.out) Try.underlying27 rfl HBI.out ?_); simp only [PT])
 | (go_at_call 41; (refine (may_any v _ (HV.out.below (HB.out.trans (Below.mono bup HB.out.size))) HF.out hl).mono ?_); intro e w5 hr; rw [← HM.out] at hr; obtain ⟨rfl, hb__⟩ := hr; have hE__ := cU HB bup hb__; replace HB := ck HB hE__; replace HG2 := ck HG2 hE__; clear hE__; clear hb__)
 | (go_at_call 19; (refine (z33 v _ (HV.out.below (HB.out.trans (Below.mono bup HB.out.size))) HF.out hl).mono ?_); intro e w6 hr; rw [← HRR.out] at hr; obtain ⟨rfl, hb__⟩ := hr; have hE__ := cU HB bup hb__; replace HB := ck HB hE__; replace HG2 := ck HG2 hE__; clear hE__; clear hb__)
 | ((with_reducible refine sl 16 ?_); (refine z01 rfl 3 (.tmp 15) rfl g2 0 rfl (.int .i64 v.kind) HG2.out rfl Try.underlying3 rfl ?_); simp only [PT])
 | ((with_reducible refine sl 19 ?_); (refine z01 rfl 3 (.tmp 18) rfl g2 0 rfl (.int .i64 v.kind) HG2.out rfl Try.underlying3 rfl ?_); simp only [PT])
 | ((with_reducible refine sl 23 ?_); (refine z01 rfl 4 (.tmp 22) rfl g2 1 rfl (.bool v.big) HG2.out rfl Try.underlying4 rfl ?_); simp only [PT])
 | ((with_reducible refine sl 27 ?_); (refine z01 rfl 22 (.tmp 26) rfl g2 2 rfl (.int .u32 (v.type : Int)) HG2.out rfl Try.underlying22 rfl ?_); simp only [PT])
 | (go_at_call 46; (refine (HTO.out _).mono ?_); intro e w7 hr; obtain ⟨rfl, hb__⟩ := hr; have hE__ := cU HB bup hb__; replace HB := ck HB hE__; replace HG2 := ck HG2 hE__; clear hE__; clear hb__)
 | (go_at_call 42; (refine (blkSize_any v _ (HV.out.below (HB.out.trans (Below.mono bup HB.out.size))) HF.out).mono ?_); intro e w8 hr; rw [← HS.out] at hr; obtain ⟨rfl, hb__⟩ := hr; have hE__ := cU HB bup hb__; replace HB := ck HB hE__; replace HG2 := ck HG2 hE__; clear hE__; clear hb__)
 | (go_at_call 47; (with_reducible show Calls _ _ #[Value.int .u64 (s : Int), _, _] _ _); (refine (z3h s 4 _ _ (by omega)).mono ?_); intro e w9 hr; rw [← HPS.out] at hr; unfold RetB at hr; obtain ⟨ad9, c9, rfl, ho9, hb__⟩ := hr; have H9 := Hd (Bs.of_own ho9); have hE__ := cU HB bup hb__; replace HB := ck HB hE__; replace HG2 := ck HG2 hE__; clear hE__; have HE := Hd (Below.refl w9.heap.size w9); clear hb__ ho9)
 | (go_at_call 47; (refine (z3h v.type 4 _ _ (by omega)).mono ?_); intro e w10 hr; rw [← HPT.out] at hr; unfold RetB at hr; obtain ⟨ad10, c10, rfl, ho10, hb__⟩ := hr; replace HE := cE0 HE bup hb__; have HO := Hd (z0r (base' := w9.heap.size) ho10 (bsz bup)); clear hb__ ho10)
 | ((with_reducible refine sl 38 ?_); (refine z0k elB rfl (.tmp 36) (.tmp 37) rfl w9.heap.size rfl (z08 HO.out bup) rfl (H9.out.below (HE.out.trans (Below.mono bup HE.out.size))) (z11 _) (by unfold maxLen; omega) (by omega) (Nat.le_trans HE.out.size (bsz bup)) ?_); intro ad11 c11 w11 hown__ hgr__ _ _; rw [← z0i] at hown__; replace HE := cEa HE bup hgr__ (z07 HO.out); clear HO; have HO := Hd hown__; clear hown__ hgr__; simp only [PT])
 | ((with_reducible refine sl 40 ?_); (refine z05 rfl 27 (.tmp 2) rfl g2 0 rfl v.cells _ (z00 (((HE.out.trans (Below.mono bup HE.out.size)).block _ (lt_of_block HG2.out)).trans HG2.out)) Try.underlying27 rfl HBI.out ?_); simp only [PT])
 | (go_at_call 48; (refine (body_any v _ _ (HV.out.below ((HB.out.trans (HE.out.mono HB.out.size)).trans (Below.mono bup (Nat.le_trans HB.out.size HE.out.size)))) HF.out HM.out.symm HWF.out).mono ?_); intro e w12 hr; rw [← HBD.out] at hr; obtain ⟨⟨ad12, c12, rfl, h12⟩, hb__⟩ := hr; have H12 := Hd h12; clear h12; replace HO := cOa HO bup hb__; replace HE := cE0 HE bup hb__; clear hb__)
 | ((with_reducible refine sl 43 ?_); (refine z0k elB rfl (.tmp 39) (.tmp 42) rfl w9.heap.size rfl (z08 HO.out bup) rfl (H12.out.below bup) (z11 _) (by unfold maxLen; omega) (by omega) (Nat.le_trans HE.out.size (bsz bup)) ?_); intro ad13 c13 w13 hown__ hgr__ _ _; rw [← z0i] at hown__; replace HE := cEa HE bup hgr__ (z07 HO.out); clear HO; have HO := Hd hown__; clear hown__ hgr__; simp only [PT])
 | ((with_reducible refine sl 46 ?_); (refine z0k elB rfl (.tmp 44) (.tmp 45) rfl w9.heap.size rfl (z08 HO.out bup) rfl (H9.out.below (HE.out.trans (Below.mono bup HE.out.size))) (z11 _) (by unfold maxLen; omega) (by omega) (Nat.le_trans HE.out.size (bsz bup)) ?_); intro ad14 c14 w14 hown__ hgr__ _ _; rw [← z0i] at hown__; replace HE := cEa HE bup hgr__ (z07 HO.out); clear HO; have HO := Hd hown__; clear hown__ hgr__; simp only [PT]))
    go_ret2
    refine ⟨HB.out.trans (HE.out.mono HB.out.size), .inr (.inr ⟨HRR.out.symm, ad14, c14, ?_, ?_⟩)⟩
    · rw [HFIN.out]; simp only [List.length_append]; rfl
    · rw [HFIN.out]; simp only [List.length_append]; exact z0r HO.out HB.out.size
  · have HTO : Hid (∀ w, Calls Try.prog 46 #[.int .i64 v.kind] w fun e w' => e = .returned (.int .u32 ((TK : Nat) : Int)) ∧ Below w.heap.size w w') := Hd (fun w => by rw [HTK.out]; exact z3j _ w)
    clear HTK
    subst e1
    subst e2
    go_enter Try.func23, Try.ntmps23
    go_wp2_with (first
 | ((with_reducible refine sl 2 ?_); (refine z0a rfl 27 (.tmp 0) rfl v.cells.toArray rfl ?_); intro w1 g2 he__ le_g2 lt_g2 hg__ hb__; have HG2 := Hd hg__; have hE__ := cU HB bup hb__; replace HB := ck HB hE__; clear hE__; clear hg__ hb__ he__; simp only [PT])
 | ((with_reducible refine sl 9 ?_); (refine z05 rfl 27 (.tmp 2) rfl g2 0 rfl v.cells _ (z00 HG2.out) Try.underlying27 rfl HBI.out ?_); simp only [PT])
 | ((with_reducible refine sl 12 ?_); (refine z05 rfl 27 (.tmp 2) rfl g2 0 rfl v.cells _ (z00 HG2.out) Try.underlying27 rfl HBI.out ?_); simp only [PT])
 | ((with_reducible refine sl 28 ?_); (refine z05 rfl 27 (.tmp 2) rfl g2 0 rfl v.cells _ (z00 HG2.out) Try.underlying27 rfl HBI.out ?_); simp only [PT])
 | (go_at_call 41; (refine (may_any v _ (HV.out.below (HB.out.trans (Below.mono bup HB.out.size))) HF.out hl).mono ?_); intro e w5 hr; rw [← HM.out] at hr; obtain ⟨rfl, hb__⟩ := hr; have hE__ := cU HB bup hb__; replace HB := ck HB hE__; replace HG2 := ck HG2 hE__; clear hE__; clear hb__)
 | (go_at_call 19; (refine (z33 v _ (HV.out.below (HB.out.trans (Below.mono bup HB.out.size))) HF.out hl).mono ?_); intro e w6 hr; rw [← HRR.out] at hr; obtain ⟨rfl, hb__⟩ := hr; have hE__ := cU HB bup hb__; replace HB := ck HB hE__; replace HG2 := ck HG2 hE__; clear hE__; clear hb__)
 | ((with_reducible refine sl 16 ?_); (refine z01 rfl 3 (.tmp 15) rfl g2 0 rfl (.int .i64 v.kind) HG2.out rfl Try.underlying3 rfl ?_); simp only [PT])
 | ((with_reducible refine sl 19 ?_); (refine z01 rfl 3 (.tmp 18) rfl g2 0 rfl (.int .i64 v.kind) HG2.out rfl Try.underlying3 rfl ?_); simp only [PT])
 | ((with_reducible refine sl 23 ?_); (refine z01 rfl 4 (.tmp 22) rfl g2 1 rfl (.bool v.big) HG2.out rfl Try.underlying4 rfl ?_); simp only [PT])
 | ((with_reducible refine sl 27 ?_); (refine z01 rfl 22 (.tmp 26) rfl g2 2 rfl (.int .u32 (v.type : Int)) HG2.out rfl Try.underlying22 rfl ?_); simp only [PT])
 | (go_at_call 46; (refine (HTO.out _).mono ?_); intro e w7 hr; obtain ⟨rfl, hb__⟩ := hr; have hE__ := cU HB bup hb__; replace HB := ck HB hE__; replace HG2 := ck HG2 hE__; clear hE__; clear hb__)
 | (go_at_call 42; (refine (blkSize_any v _ (HV.out.below (HB.out.trans (Below.mono bup HB.out.size))) HF.out).mono ?_); intro e w8 hr; rw [← HS.out] at hr; obtain ⟨rfl, hb__⟩ := hr; have hE__ := cU HB bup hb__; replace HB := ck HB hE__; replace HG2 := ck HG2 hE__; clear hE__; clear hb__)
 | (go_at_call 47; (with_reducible show Calls _ _ #[Value.int .u64 (s : Int), _, _] _ _); (refine (z3h s 4 _ _ (by omega)).mono ?_); intro e w9 hr; rw [← HPS.out] at hr; unfold RetB at hr; obtain ⟨ad9, c9, rfl, ho9, hb__⟩ := hr; have H9 := Hd (Bs.of_own ho9); have hE__ := cU HB bup hb__; replace HB := ck HB hE__; replace HG2 := ck HG2 hE__; clear hE__; have HE := Hd (Below.refl w9.heap.size w9); clear hb__ ho9)
 | (go_at_call 47; (refine (z3h T 4 _ _ (by omega)).mono ?_); intro e w10 hr; rw [← HPT.out] at hr; unfold RetB at hr; obtain ⟨ad10, c10, rfl, ho10, hb__⟩ := hr; replace HE := cE0 HE bup hb__; have HO := Hd (z0r (base' := w9.heap.size) ho10 (bsz bup)); clear hb__ ho10)
 | ((with_reducible refine sl 38 ?_); (refine z0k elB rfl (.tmp 36) (.tmp 37) rfl w9.heap.size rfl (z08 HO.out bup) rfl (H9.out.below (HE.out.trans (Below.mono bup HE.out.size))) (z11 _) (by unfold maxLen; omega) (by omega) (Nat.le_trans HE.out.size (bsz bup)) ?_); intro ad11 c11 w11 hown__ hgr__ _ _; rw [← z0i] at hown__; replace HE := cEa HE bup hgr__ (z07 HO.out); clear HO; have HO := Hd hown__; clear hown__ hgr__; simp only [PT])
 | ((with_reducible refine sl 40 ?_); (refine z05 rfl 27 (.tmp 2) rfl g2 0 rfl v.cells _ (z00 (((HE.out.trans (Below.mono bup HE.out.size)).block _ (lt_of_block HG2.out)).trans HG2.out)) Try.underlying27 rfl HBI.out ?_); simp only [PT])
 | (go_at_call 48; (refine (body_any v _ _ (HV.out.below ((HB.out.trans (HE.out.mono HB.out.size)).trans (Below.mono bup (Nat.le_trans HB.out.size HE.out.size)))) HF.out HM.out.symm HWF.out).mono ?_); intro e w12 hr; rw [← HBD.out] at hr; obtain ⟨⟨ad12, c12, rfl, h12⟩, hb__⟩ := hr; have H12 := Hd h12; clear h12; replace HO := cOa HO bup hb__; replace HE := cE0 HE bup hb__; clear hb__)
 | ((with_reducible refine sl 43 ?_); (refine z0k elB rfl (.tmp 39) (.tmp 42) rfl w9.heap.size rfl (z08 HO.out bup) rfl (H12.out.below bup) (z11 _) (by unfold maxLen; omega) (by omega) (Nat.le_trans HE.out.size (bsz bup)) ?_); intro ad13 c13 w13 hown__ hgr__ _ _; rw [← z0i] at hown__; replace HE := cEa HE bup hgr__ (z07 HO.out); clear HO; have HO := Hd hown__; clear hown__ hgr__; simp only [PT])
 | ((with_reducible refine sl 46 ?_); (refine z0k elB rfl (.tmp 44) (.tmp 45) rfl w9.heap.size rfl (z08 HO.out bup) rfl (H9.out.below (HE.out.trans (Below.mono bup HE.out.size))) (z11 _) (by unfold maxLen; omega) (by omega) (Nat.le_trans HE.out.size (bsz bup)) ?_); intro ad14 c14 w14 hown__ hgr__ _ _; rw [← z0i] at hown__; replace HE := cEa HE bup hgr__ (z07 HO.out); clear HO; have HO := Hd hown__; clear hown__ hgr__; simp only [PT]))
    go_ret2
    refine ⟨HB.out.trans (HE.out.mono HB.out.size), .inr (.inr ⟨HRR.out.symm, ad14, c14, ?_, ?_⟩)⟩
    · rw [HFIN.out]; simp only [List.length_append]; rfl
    · rw [HFIN.out]; simp only [List.length_append]; exact z0r HO.out HB.out.size
theorem open1_short (ad : Option Addr) (n c : Nat) (l : List UInt8) (big : Bool) (w : World) (hs : Bs w ad n c l) (hn : n ≤ 1048576) (h : n < 16) :
    Calls Try.prog 59 #[.agg #[.int .i64 1, .bool false, .int .u32 0, .int .i64 0, .int .u32 0, .int .i64 0, .int .u64 0, .int .u32 0, .slice none 0 0, .slice none 0 0, .slice none 0 0], .slice ad n c, .bool big] w (OpenR ad n c l (openP 1 0 l big) w) := by
  have HB := Hd (Below.refl w.heap.size w)
  have HS := Hd hs
  have HBI := Hd z0d
  have hc := hs.le
  have HN := Hd hs.len
  clear hs
  have hi : (n : Int) < 16 := by omega
  have HO := Hd (show openP 1 0 l big = none from by have := HN.out; unfold openP; simp [show l.length < 16 by omega])
  clear h
  go_enter Try.func59, Try.ntmps59
  go_wp2_with (first
 | ((with_reducible refine sl 3 ?_); (refine z0a rfl 27 (.tmp 0) rfl #[.int .i64 1, .bool false, .int .u32 0, .int .i64 0, .int .u32 0, .int .i64 0, .int .u64 0, .int .u32 0, .slice none 0 0, .slice none 0 0, .slice none 0 0] rfl ?_); intro w1 g3 he__ le_g3 lt_g3 hg__ hb__; have HG3 := Hd hg__; have hE__ := cU HB bup hb__; replace HB := ck HB hE__; clear hE__; clear hg__ hb__ he__; simp only [PT])
 | ((with_reducible refine sl 4 ?_); (refine z0a rfl 24 (.tmp 1) rfl #[.slice ad n c] rfl ?_); intro w2 g4 he__ le_g4 lt_g4 hg__ hb__; have HG4 := Hd hg__; have hE__ := cU HB bup hb__; replace HB := ck HB hE__; replace HG3 := ck HG3 hE__; clear hE__; clear hg__ hb__ he__; simp only [PT])
 | ((with_reducible refine sl 5 ?_); (refine z0a rfl 4 (.tmp 2) rfl #[.bool big] rfl ?_); intro w3 g5 he__ le_g5 lt_g5 hg__ hb__; have HG5 := Hd hg__; have hE__ := cU HB bup hb__; replace HB := ck HB hE__; replace HG3 := ck HG3 hE__; replace HG4 := ck HG4 hE__; clear hE__; clear hg__ hb__ he__; simp only [PT])
 | ((with_reducible refine sl 6 ?_); (refine z09 rfl 27 rfl (.agg #[.int .i64 0, .bool false, .int .u32 0, .int .i64 0, .int .u32 0, .int .i64 0, .int .u64 0, .int .u32 0, .slice none 0 0, .slice none 0 0, .slice none 0 0]) #[.int .i64 0, .bool false, .int .u32 0, .int .i64 0, .int .u32 0, .int .i64 0, .int .u64 0, .int .u32 0, .slice none 0 0, .slice none 0 0, .slice none 0 0] 11 (by kernel_rfl) rfl ?_); intro w4 g6 he__ le_g6 lt_g6 hg__ hb__; have HG6 := Hd hg__; have hE__ := cU HB bup hb__; replace HB := ck HB hE__; replace HG3 := ck HG3 hE__; replace HG4 := ck HG4 hE__; replace HG5 := ck HG5 hE__; clear hE__; clear hg__ hb__ he__; simp only [PT])
 | ((with_reducible refine sl 19 ?_); (refine z1h rfl (.tmp 16) (.tmp 18) rfl _ _ rfl rfl (.int .i64 16) need_at1 ?_); simp only [PT])
 | ((with_reducible refine sl 18 ?_); (refine z01 rfl 3 (.tmp 17) rfl g3 0 rfl (.int .i64 1) HG3.out rfl Try.underlying3 rfl ?_); simp only [PT])
 | ((with_reducible refine sl 20 ?_); (refine z01 rfl 24 (.tmp 4) rfl g4 0 rfl (.slice ad n c) HG4.out rfl Try.underlying24 rfl ?_); simp only [PT])
 | ((with_reducible refine sl 30 ?_); (refine z01 rfl 3 (.tmp 29) rfl g3 0 rfl (.int .i64 1) HG3.out rfl Try.underlying3 rfl ?_); simp only [PT])
 | ((with_reducible refine sl 26 ?_); (refine z01 rfl 24 (.tmp 4) rfl g4 0 rfl (.slice ad n c) HG4.out rfl Try.underlying24 rfl ?_); simp only [PT])
 | ((with_reducible refine sl 24 ?_); (refine z05 rfl 27 (.tmp 3) rfl g3 0 rfl [.int .i64 1, .bool false, .int .u32 0, .int .i64 0, .int .u32 0, .int .i64 0, .int .u64 0, .int .u32 0, .slice none 0 0, .slice none 0 0, .slice none 0 0] _ (z00 HG3.out) Try.underlying27 rfl HBI.out ?_); simp only [PT])
 | ((with_reducible show wpList _ _ _ (⟨none, .store _ (.tmp 6) (.tmp 24), _, _, _, _⟩ :: _) _ _); (refine z02 rfl 27 (.tmp 6) (.tmp 24) rfl g6 #[.int .i64 1, .bool false, .int .u32 0, .int .i64 0, .int .u32 0, .int .i64 0, .int .u64 0, .int .u32 0, .slice none 0 0, .slice none 0 0, .slice none 0 0] rfl rfl HG6.out HBI.out rfl (all1 _ rfl) ?_); intro w9 hs__ hr__; replace HB := cg HB bup hr__ (by omega); replace HG3 := cg HG3 bup hr__ (by omega); clear HG6; have HG6 := Hd hs__; clear hs__ hr__; simp only [PT]))
  all_goals
    (try simp only [Exit.inBlock, Exit.then, Exit.noGoto_ret])
    refine z04 (cs := [.int .i64 1, .bool false, .int .u32 0, .int .i64 0, .int .u32 0, .int .i64 0, .int .u64 0, .int .u32 0, .slice none 0 0, .slice none 0 0, .slice none 0 0]) rfl rfl (z00 HG6.out) Try.underlying27 rfl HBI.out rfl ?_
    exact ⟨⟨1, false, 0, 0, 0, 0, 0, 0, none, 0, 0, [], none, 0, 0, [], none, 0, 0, []⟩, none, 0, 0, false, rfl, by rw [HO.out]; rfl, fun x r h => absurd (HO.out.symm.trans h) (by simp), HB.out⟩
theorem open1_ok (ad : Option Addr) (n c : Nat) (l : List UInt8) (big : Bool) (w : World) (hs : Bs w ad n c l) (hn : n ≤ 1048576) (h : 16 ≤ n) (h1 : w2 big l 4 = 1) :
    Calls Try.prog 59 #[.agg #[.int .i64 1, .bool false, .int .u32 0, .int .i64 0, .int .u32 0, .int .i64 0, .int .u64 0, .int .u32 0, .slice none 0 0, .slice none 0 0, .slice none 0 0], .slice ad n c, .bool big] w (OpenR ad n c l (openP 1 0 l big) w) := by
  have HB := Hd (Below.refl w.heap.size w)
  have HS := Hd hs
  have HBI := Hd z0d
  have hc := hs.le
  have HN := Hd hs.len
  clear hs
  have hi : ¬ (n : Int) < 16 := by omega
  obtain ⟨V4, hV4⟩ : ∃ x, x = getN ((l.drop 4).take 2) big := ⟨_, rfl⟩
  have bV4 : V4 < 65536 := by rw [hV4]; exact w2_lt big l 4
  have HV4 := Hd hV4
  clear hV4
  have hv : V4 = 1 := by rw [HV4.out]; exact h1
  have HVV := Hd hv
  have hvi : (V4 : Int) = 1 := by omega
  have HO : Hid (openP 1 0 l big = some ({ noneB with kind := 1, big := big }, l.drop 16)) := Hd (by have := HN.out; unfold openP; rw [if_pos rfl, if_neg (by omega), if_pos h1])
  clear HN hv h1
  go_enter Try.func59, Try.ntmps59
  go_wp2_with (first
 | ((with_reducible refine sl 3 ?_); (refine z0a rfl 27 (.tmp 0) rfl #[.int .i64 1, .bool false, .int .u32 0, .int .i64 0, .int .u32 0, .int .i64 0, .int .u64 0, .int .u32 0, .slice none 0 0, .slice none 0 0, .slice none 0 0] rfl ?_); intro w1 g3 he__ le_g3 lt_g3 hg__ hb__; have HG3 := Hd hg__; have hE__ := cU HB bup hb__; replace HB := ck HB hE__; clear hE__; clear hg__ hb__ he__; simp only [PT])
 | ((with_reducible refine sl 4 ?_); (refine z0a rfl 24 (.tmp 1) rfl #[.slice ad n c] rfl ?_); intro w2 g4 he__ le_g4 lt_g4 hg__ hb__; have HG4 := Hd hg__; have hE__ := cU HB bup hb__; replace HB := ck HB hE__; replace HG3 := ck HG3 hE__; clear hE__; clear hg__ hb__ he__; simp only [PT])
 | ((with_reducible refine sl 5 ?_); (refine z0a rfl 4 (.tmp 2) rfl #[.bool big] rfl ?_); intro w3 g5 he__ le_g5 lt_g5 hg__ hb__; have HG5 := Hd hg__; have hE__ := cU HB bup hb__; replace HB := ck HB hE__; replace HG3 := ck HG3 hE__; replace HG4 := ck HG4 hE__; clear hE__; clear hg__ hb__ he__; simp only [PT])
 | ((with_reducible refine sl 6 ?_); (refine z09 rfl 27 rfl (.agg #[.int .i64 0, .bool false, .int .u32 0, .int .i64 0, .int .u32 0, .int .i64 0, .int .u64 0, .int .u32 0, .slice none 0 0, .slice none 0 0, .slice none 0 0]) #[.int .i64 0, .bool false, .int .u32 0, .int .i64 0, .int .u32 0, .int .i64 0, .int .u64 0, .int .u32 0, .slice none 0 0, .slice none 0 0, .slice none 0 0] 11 (by kernel_rfl) rfl ?_); intro w4 g6 he__ le_g6 lt_g6 hg__ hb__; have HG6 := Hd hg__; have hE__ := cU HB bup hb__; replace HB := ck HB hE__; replace HG3 := ck HG3 hE__; replace HG4 := ck HG4 hE__; replace HG5 := ck HG5 hE__; clear hE__; clear hg__ hb__ he__; simp only [PT])
 | ((with_reducible refine sl 19 ?_); (refine z1h rfl (.tmp 16) (.tmp 18) rfl _ _ rfl rfl (.int .i64 16) need_at1 ?_); simp only [PT])
 | ((with_reducible refine sl 18 ?_); (refine z01 rfl 3 (.tmp 17) rfl g3 0 rfl (.int .i64 1) HG3.out rfl Try.underlying3 rfl ?_); simp only [PT])
 | ((with_reducible refine sl 20 ?_); (refine z01 rfl 24 (.tmp 4) rfl g4 0 rfl (.slice ad n c) HG4.out rfl Try.underlying24 rfl ?_); simp only [PT])
 | ((with_reducible refine sl 30 ?_); (refine z01 rfl 3 (.tmp 29) rfl g3 0 rfl (.int .i64 1) HG3.out rfl Try.underlying3 rfl ?_); simp only [PT])
 | ((with_reducible refine sl 26 ?_); (refine z01 rfl 24 (.tmp 4) rfl g4 0 rfl (.slice ad n c) HG4.out rfl Try.underlying24 rfl ?_); simp only [PT])
 | ((with_reducible refine sl 28 ?_); (refine z0t elB rfl (.tmp 26) (some (.tmp 27)) none rfl rfl 16 n (.inr ⟨.i64, rfl⟩) (.inl ⟨rfl, rfl⟩) (by omega) (by omega) ?_); intro ad28 had28; have HRG := Hd (show ∀ w0, Bs w0 ad n c l → Bs w0 ad28 (n - 16) (c - 16) (l.drop 16) from fun w0 h0 => by rw [had28.out]; exact Bs.drop8 h0 16 (by omega)); clear had28; simp only [PT])
 | ((with_reducible refine sl 36 ?_); (refine z01 rfl 4 (.tmp 5) rfl g5 0 rfl (.bool big) HG5.out rfl Try.underlying4 rfl ?_); simp only [PT])
 | ((with_reducible show wpList _ _ _ (⟨none, .store _ (.tmp 37) (.tmp 36), _, _, _, _⟩ :: _) _ _); (refine z0c rfl 4 (.tmp 37) (.tmp 36) rfl g3 1 (.bool big) rfl rfl rfl HG3.out (by simp) (by kernel_rfl) #[.int .i64 1, .bool big, .int .u32 0, .int .i64 0, .int .u32 0, .int .i64 0, .int .u64 0, .int .u32 0, .slice none 0 0, .slice none 0 0, .slice none 0 0] rfl ?_); intro w7 hs__ hr__; replace HB := cg HB bup hr__ (by omega); replace HG4 := cg HG4 bup hr__ (by omega); replace HG5 := cg HG5 bup hr__ (by omega); replace HG6 := cg HG6 bup hr__ (by omega); clear HG3; have HG3 := Hd hs__; clear hs__ hr__; simp only [PT]))
  refine wp_region_held_drew (S := fun u => u.heap[g3]? = some (.cells #[.int .i64 1, .bool big, .int .u32 0, .int .i64 0, .int .u32 0, .int .i64 0, .int .u64 0, .int .u32 0, .slice none 0 0, .slice none 0 0, .slice none 0 0] 27 (0, 0))) (by kernel_rfl) ?_ (fun hHeld => ?_); (focus (exact HG3.out)); refine' tk 0 (oi := ⟨some 38, _, _, _, _, _⟩) (v := _) rfl (by kernel_rfl) (yieldsIf_load_mid (by rfl) _ _ rfl _ _ rfl ([.int .i64 1, .bool big, .int .u32 0, .int .i64 0, .int .u32 0, .int .i64 0, .int .u64 0, .int .u32 0, .slice none 0 0, .slice none 0 0, .slice none 0 0]) _ (fun u hu => z00 hu) (Try.underlying27) rfl (HBI.out)) hHeld ?_; simp only [PT]; (refine tk 1 (oi := ⟨some 39, _, _, _, _, _⟩) (v := ?_) rfl (by kernel_rfl) (.inl ⟨by rfl, ?_⟩) hHeld ?_; rotate_left; focus (intro w hSw; (try dsimp only at hSw); go_simp; try with_reducible rfl)); simp only [PT]; (refine tk 2 (oi := ⟨some 40, _, _, _, _, _⟩) (v := ?_) rfl (by kernel_rfl) (.inl ⟨by rfl, ?_⟩) hHeld ?_; rotate_left; focus (intro w hSw; (try dsimp only at hSw); go_simp; try with_reducible rfl)); simp only [PT]; refine wpAnyH_ready (rs := [3]) (by kernel_rfl) (by simp) ?_; refine (AllReadyH.cons (o := ⟨some 41, _, _, _, _, _⟩) rfl (fun K hK => ?_) AllReadyH.nil); (focus (go_simp; (refine (z19 g4 g5 ad n c l big 4 2 (by omega) (by omega) _ (by exact HG4.out) (by exact HG5.out) (HS.out.below (HB.out.trans (Below.mono bup HB.out.size)))).mono ?_); intro e w8 hr; rw [← HV4.out] at hr; obtain ⟨rfl, hb__⟩ := hr; have hE__ := cU HB bup hb__; replace HB := ck HB hE__; replace HG3 := ck HG3 hE__; replace HG4 := ck HG4 hE__; replace HG5 := ck HG5 hE__; replace HG6 := ck HG6 hE__; clear hE__; clear hb__; go_wp2_with fail)); refine hK.out _ _ ?_ (fun hHeld => ?_); (focus (exact HG3.out)); clear hK K; (try simp only [PT]); (refine' tk 4 (oi := ⟨some 42, _, _, _, _, _⟩) (v := (.bool true)) rfl (by kernel_rfl) (.inl ⟨by rfl, ?_⟩) hHeld ?_; focus (intro w hSw; (try dsimp only at hSw); go_simp; first | done | rfl | (simp [*]; done) | (simp [*]; omega))); simp only [PT]; refine wpAnyH_ready (rs := [5]) (by kernel_rfl) (by simp) ?_; refine (AllReadyH.cons (o := ⟨none, _, _, _, _, _⟩) rfl (fun K hK => ?_) AllReadyH.nil); ((refine z0j rfl 27 (.tmp 6) (.tmp 38) rfl g6 #[.int .i64 1, .bool big, .int .u32 0, .int .i64 0, .int .u32 0, .int .i64 0, .int .u64 0, .int .u32 0, .slice none 0 0, .slice none 0 0, .slice none 0 0] rfl rfl HG6.out HBI.out rfl (all1 _ rfl) ?_); intro w9 hs__ hr__; replace HB := cg HB bup hr__ (by omega); replace HG3 := cg HG3 bup hr__ (by omega); replace HG4 := cg HG4 bup hr__ (by omega); replace HG5 := cg HG5 bup hr__ (by omega); clear HG6; have HG6 := Hd hs__; clear hs__ hr__); refine hK.out _ _ ?_ (fun hHeld => ?_); (focus (exact HG3.out)); clear hK K; (try simp only [PT]); (refine tk 6 (oi := ⟨some 7, _, _, _, _, _⟩) (v := ?_) rfl (by kernel_rfl) (.inl ⟨by rfl, ?_⟩) hHeld ?_; rotate_left; focus (intro w hSw; (try dsimp only at hSw); go_simp; try with_reducible rfl)); simp only [PT]; (refine tk 7 (oi := ⟨some 8, _, _, _, _, _⟩) (v := ?_) rfl (by kernel_rfl) (.inl ⟨by rfl, ?_⟩) hHeld ?_; rotate_left; focus (intro w hSw; (try dsimp only at hSw); go_simp; try with_reducible rfl)); simp only [PT]; refine wpAnyH_done (by kernel_rfl) ?_ _
  all_goals
    go_wp2_with fail
    (try simp only [Exit.inBlock, Exit.then, Exit.noGoto_ret])
    refine z04 (cs := [.int .i64 1, .bool big, .int .u32 0, .int .i64 0, .int .u32 0, .int .i64 0, .int .u64 0, .int .u32 0, .slice none 0 0, .slice none 0 0, .slice none 0 0]) rfl rfl (z00 HG6.out) Try.underlying27 rfl HBI.out rfl ?_
    refine ⟨⟨1, big, 0, 0, 0, 0, 0, 0, none, 0, 0, [], none, 0, 0, [], none, 0, 0, []⟩, ad28, (n - 16), (c - 16), true, rfl, by rw [HO.out]; rfl, fun x r h => ?_, HB.out⟩
    have hh := HO.out.symm.trans h
    simp only [Option.some.injEq, Prod.mk.injEq] at hh
    obtain ⟨rfl, rfl⟩ := hh
    refine ⟨rfl, HRG.out, z1i _ _ _ _, OwnOps.nil _ _ _, OwnOps.nil _ _ _⟩
theorem open1_not (ad : Option Addr) (n c : Nat) (l : List UInt8) (big : Bool) (w : World) (hs : Bs w ad n c l) (hn : n ≤ 1048576) (h : 16 ≤ n) (h1 : ¬ w2 big l 4 = 1) :
    Calls Try.prog 59 #[.agg #[.int .i64 1, .bool false, .int .u32 0, .int .i64 0, .int .u32 0, .int .i64 0, .int .u64 0, .int .u32 0, .slice none 0 0, .slice none 0 0, .slice none 0 0], .slice ad n c, .bool big] w (OpenR ad n c l (openP 1 0 l big) w) := by
  have HB := Hd (Below.refl w.heap.size w)
  have HS := Hd hs
  have HBI := Hd z0d
  have hc := hs.le
  have HN := Hd hs.len
  clear hs
  have hi : ¬ (n : Int) < 16 := by omega
  obtain ⟨V4, hV4⟩ : ∃ x, x = getN ((l.drop 4).take 2) big := ⟨_, rfl⟩
  have bV4 : V4 < 65536 := by rw [hV4]; exact w2_lt big l 4
  have HV4 := Hd hV4
  clear hV4
  have hv : ¬ V4 = 1 := by rw [HV4.out]; exact h1
  have hvi : ¬ (V4 : Int) = 1 := by omega
  have HO : Hid (openP 1 0 l big = none) := Hd (by have := HN.out; unfold openP; rw [if_pos rfl, if_neg (by omega), if_neg h1])
  clear HN hv h1
  go_enter Try.func59, Try.ntmps59
  go_wp2_with (first
 | ((with_reducible refine sl 3 ?_); (refine z0a rfl 27 (.tmp 0) rfl #[.int .i64 1, .bool false, .int .u32 0, .int .i64 0, .int .u32 0, .int .i64 0, .int .u64 0, .int .u32 0, .slice none 0 0, .slice none 0 0, .slice none 0 0] rfl ?_); intro w1 g3 he__ le_g3 lt_g3 hg__ hb__; have HG3 := Hd hg__; have hE__ := cU HB bup hb__; replace HB := ck HB hE__; clear hE__; clear hg__ hb__ he__; simp only [PT])
 | ((with_reducible refine sl 4 ?_); (refine z0a rfl 24 (.tmp 1) rfl #[.slice ad n c] rfl ?_); intro w2 g4 he__ le_g4 lt_g4 hg__ hb__; have HG4 := Hd hg__; have hE__ := cU HB bup hb__; replace HB := ck HB hE__; replace HG3 := ck HG3 hE__; clear hE__; clear hg__ hb__ he__; simp only [PT])
 | ((with_reducible refine sl 5 ?_); (refine z0a rfl 4 (.tmp 2) rfl #[.bool big] rfl ?_); intro w3 g5 he__ le_g5 lt_g5 hg__ hb__; have HG5 := Hd hg__; have hE__ := cU HB bup hb__; replace HB := ck HB hE__; replace HG3 := ck HG3 hE__; replace HG4 := ck HG4 hE__; clear hE__; clear hg__ hb__ he__; simp only [PT])
 | ((with_reducible refine sl 6 ?_); (refine z09 rfl 27 rfl (.agg #[.int .i64 0, .bool false, .int .u32 0, .int .i64 0, .int .u32 0, .int .i64 0, .int .u64 0, .int .u32 0, .slice none 0 0, .slice none 0 0, .slice none 0 0]) #[.int .i64 0, .bool false, .int .u32 0, .int .i64 0, .int .u32 0, .int .i64 0, .int .u64 0, .int .u32 0, .slice none 0 0, .slice none 0 0, .slice none 0 0] 11 (by kernel_rfl) rfl ?_); intro w4 g6 he__ le_g6 lt_g6 hg__ hb__; have HG6 := Hd hg__; have hE__ := cU HB bup hb__; replace HB := ck HB hE__; replace HG3 := ck HG3 hE__; replace HG4 := ck HG4 hE__; replace HG5 := ck HG5 hE__; clear hE__; clear hg__ hb__ he__; simp only [PT])
 | ((with_reducible refine sl 19 ?_); (refine z1h rfl (.tmp 16) (.tmp 18) rfl _ _ rfl rfl (.int .i64 16) need_at1 ?_); simp only [PT])
 | ((with_reducible refine sl 18 ?_); (refine z01 rfl 3 (.tmp 17) rfl g3 0 rfl (.int .i64 1) HG3.out rfl Try.underlying3 rfl ?_); simp only [PT])
 | ((with_reducible refine sl 20 ?_); (refine z01 rfl 24 (.tmp 4) rfl g4 0 rfl (.slice ad n c) HG4.out rfl Try.underlying24 rfl ?_); simp only [PT])
 | ((with_reducible refine sl 30 ?_); (refine z01 rfl 3 (.tmp 29) rfl g3 0 rfl (.int .i64 1) HG3.out rfl Try.underlying3 rfl ?_); simp only [PT])
 | ((with_reducible refine sl 26 ?_); (refine z01 rfl 24 (.tmp 4) rfl g4 0 rfl (.slice ad n c) HG4.out rfl Try.underlying24 rfl ?_); simp only [PT])
 | ((with_reducible refine sl 28 ?_); (refine z0t elB rfl (.tmp 26) (some (.tmp 27)) none rfl rfl 16 n (.inr ⟨.i64, rfl⟩) (.inl ⟨rfl, rfl⟩) (by omega) (by omega) ?_); intro ad28 had28; have HRG := Hd (show ∀ w0, Bs w0 ad n c l → Bs w0 ad28 (n - 16) (c - 16) (l.drop 16) from fun w0 h0 => by rw [had28.out]; exact Bs.drop8 h0 16 (by omega)); clear had28; simp only [PT])
 | ((with_reducible refine sl 36 ?_); (refine z01 rfl 4 (.tmp 5) rfl g5 0 rfl (.bool big) HG5.out rfl Try.underlying4 rfl ?_); simp only [PT])
 | ((with_reducible show wpList _ _ _ (⟨none, .store _ (.tmp 37) (.tmp 36), _, _, _, _⟩ :: _) _ _); (refine z0c rfl 4 (.tmp 37) (.tmp 36) rfl g3 1 (.bool big) rfl rfl rfl HG3.out (by simp) (by kernel_rfl) #[.int .i64 1, .bool big, .int .u32 0, .int .i64 0, .int .u32 0, .int .i64 0, .int .u64 0, .int .u32 0, .slice none 0 0, .slice none 0 0, .slice none 0 0] rfl ?_); intro w7 hs__ hr__; replace HB := cg HB bup hr__ (by omega); replace HG4 := cg HG4 bup hr__ (by omega); replace HG5 := cg HG5 bup hr__ (by omega); replace HG6 := cg HG6 bup hr__ (by omega); clear HG3; have HG3 := Hd hs__; clear hs__ hr__; simp only [PT]))
  refine wp_region_held_drew (S := fun u => u.heap[g3]? = some (.cells #[.int .i64 1, .bool big, .int .u32 0, .int .i64 0, .int .u32 0, .int .i64 0, .int .u64 0, .int .u32 0, .slice none 0 0, .slice none 0 0, .slice none 0 0] 27 (0, 0))) (by kernel_rfl) ?_ (fun hHeld => ?_); (focus (exact HG3.out)); refine' tk 0 (oi := ⟨some 38, _, _, _, _, _⟩) (v := _) rfl (by kernel_rfl) (yieldsIf_load_mid (by rfl) _ _ rfl _ _ rfl ([.int .i64 1, .bool big, .int .u32 0, .int .i64 0, .int .u32 0, .int .i64 0, .int .u64 0, .int .u32 0, .slice none 0 0, .slice none 0 0, .slice none 0 0]) _ (fun u hu => z00 hu) (Try.underlying27) rfl (HBI.out)) hHeld ?_; simp only [PT]; (refine tk 1 (oi := ⟨some 39, _, _, _, _, _⟩) (v := ?_) rfl (by kernel_rfl) (.inl ⟨by rfl, ?_⟩) hHeld ?_; rotate_left; focus (intro w hSw; (try dsimp only at hSw); go_simp; try with_reducible rfl)); simp only [PT]; (refine tk 2 (oi := ⟨some 40, _, _, _, _, _⟩) (v := ?_) rfl (by kernel_rfl) (.inl ⟨by rfl, ?_⟩) hHeld ?_; rotate_left; focus (intro w hSw; (try dsimp only at hSw); go_simp; try with_reducible rfl)); simp only [PT]; refine wpAnyH_ready (rs := [3]) (by kernel_rfl) (by simp) ?_; refine (AllReadyH.cons (o := ⟨some 41, _, _, _, _, _⟩) rfl (fun K hK => ?_) AllReadyH.nil); (focus (go_simp; (refine (z19 g4 g5 ad n c l big 4 2 (by omega) (by omega) _ (by exact HG4.out) (by exact HG5.out) (HS.out.below (HB.out.trans (Below.mono bup HB.out.size)))).mono ?_); intro e w8 hr; rw [← HV4.out] at hr; obtain ⟨rfl, hb__⟩ := hr; have hE__ := cU HB bup hb__; replace HB := ck HB hE__; replace HG3 := ck HG3 hE__; replace HG4 := ck HG4 hE__; replace HG5 := ck HG5 hE__; replace HG6 := ck HG6 hE__; clear hE__; clear hb__; go_wp2_with fail)); refine hK.out _ _ ?_ (fun hHeld => ?_); (focus (exact HG3.out)); clear hK K; (try simp only [PT]); (refine' tk 4 (oi := ⟨some 42, _, _, _, _, _⟩) (v := (.bool false)) rfl (by kernel_rfl) (.inl ⟨by rfl, ?_⟩) hHeld ?_; focus (intro w hSw; (try dsimp only at hSw); go_simp; first | done | rfl | (simp [*]; done) | (simp [*]; omega))); simp only [PT]; refine wpAnyH_ready (rs := [5]) (by kernel_rfl) (by simp) ?_; refine (AllReadyH.cons (o := ⟨none, _, _, _, _, _⟩) rfl (fun K hK => ?_) AllReadyH.nil); ((refine z0j rfl 27 (.tmp 6) (.tmp 38) rfl g6 #[.int .i64 1, .bool big, .int .u32 0, .int .i64 0, .int .u32 0, .int .i64 0, .int .u64 0, .int .u32 0, .slice none 0 0, .slice none 0 0, .slice none 0 0] rfl rfl HG6.out HBI.out rfl (all1 _ rfl) ?_); intro w9 hs__ hr__; replace HB := cg HB bup hr__ (by omega); replace HG3 := cg HG3 bup hr__ (by omega); replace HG4 := cg HG4 bup hr__ (by omega); replace HG5 := cg HG5 bup hr__ (by omega); clear HG6; have HG6 := Hd hs__; clear hs__ hr__); refine hK.out _ _ ?_ (fun hHeld => ?_); (focus (exact HG3.out)); clear hK K; (try simp only [PT]); (refine tk 6 (oi := ⟨some 7, _, _, _, _, _⟩) (v := ?_) rfl (by kernel_rfl) (.inl ⟨by rfl, ?_⟩) hHeld ?_; rotate_left; focus (intro w hSw; (try dsimp only at hSw); go_simp; try with_reducible rfl)); simp only [PT]; (refine tk 7 (oi := ⟨some 8, _, _, _, _, _⟩) (v := ?_) rfl (by kernel_rfl) (.inl ⟨by rfl, ?_⟩) hHeld ?_; rotate_left; focus (intro w hSw; (try dsimp only at hSw); go_simp; try with_reducible rfl)); simp only [PT]; refine wpAnyH_done (by kernel_rfl) ?_ _
  all_goals
    go_wp2_with fail
    (try simp only [Exit.inBlock, Exit.then, Exit.noGoto_ret])
    refine z04 (cs := [.int .i64 1, .bool big, .int .u32 0, .int .i64 0, .int .u32 0, .int .i64 0, .int .u64 0, .int .u32 0, .slice none 0 0, .slice none 0 0, .slice none 0 0]) rfl rfl (z00 HG6.out) Try.underlying27 rfl HBI.out rfl ?_
    exact ⟨⟨1, big, 0, 0, 0, 0, 0, 0, none, 0, 0, [], none, 0, 0, [], none, 0, 0, []⟩, ad28, _, _, false, rfl, by rw [HO.out]; rfl, fun x r h => absurd (HO.out.symm.trans h) (by simp), HB.out⟩
theorem or_wordI (a b : Int) (ha : 0 ≤ a) (ha2 : a ≤ 4294967295) (hb : 0 ≤ b) (hb2 : b ≤ 4294967295) : bits BinOp.or .u64 (a * 4294967296) b = a * 4294967296 + b := by
  obtain ⟨x, rfl⟩ : ∃ x : Nat, a = x := ⟨a.toNat, by omega⟩
  obtain ⟨y, rfl⟩ : ∃ y : Nat, b = y := ⟨b.toNat, by omega⟩
  show IntKind.u64.wrap ((BitVec.ofInt 64 ((x : Int) * 4294967296) ||| BitVec.ofInt 64 (y : Int)).toNat : Int) = _
  rw [BitVec.toNat_or]
  have e1 : (BitVec.ofInt 64 ((x : Int) * 4294967296)).toNat = x * 4294967296 := by rw [BitVec.toNat_ofInt]; show (((x : Int) * 4294967296) % 18446744073709551616).toNat = _; omega
  have e2 : (BitVec.ofInt 64 (y : Int)).toNat = y := by rw [BitVec.toNat_ofInt]; show ((y : Int) % 18446744073709551616).toNat = _; omega
  rw [e1, e2]
  have : x * 4294967296 ||| y = x * 4294967296 + y := by
    have := Nat.two_pow_add_eq_or_of_lt (i := 32) (b := y) (by omega) x
    rw [Nat.mul_comm x 4294967296]
    exact this.symm
  rw [this, IntKind.wrap_u64]
  omega
theorem or_word2 (a b : Nat) (ha : a < 4294967296) (hb : b < 4294967296) : bits BinOp.or .u64 ((a : Int) * 4294967296) (b : Int) = ((a * 4294967296 + b : Nat) : Int) := by
  rw [or_wordI _ _ (by omega) (by omega) (by omega) (by omega)]
  omega
theorem open6_short (ad : Option Addr) (n c : Nat) (l : List UInt8) (big : Bool) (w : World) (hs : Bs w ad n c l) (hn : n ≤ 1048576) (h : n < 12) :
    Calls Try.prog 59 #[.agg #[.int .i64 6, .bool false, .int .u32 0, .int .i64 0, .int .u32 0, .int .i64 0, .int .u64 0, .int .u32 0, .slice none 0 0, .slice none 0 0, .slice none 0 0], .slice ad n c, .bool big] w (OpenR ad n c l (openP 6 0 l big) w) := by
  have HB := Hd (Below.refl w.heap.size w)
  have HS := Hd hs
  have HBI := Hd z0d
  have hc := hs.le
  have HN := Hd hs.len
  clear hs
  have hi : (n : Int) < 12 := by omega
  have HO := Hd (show openP 6 0 l big = none from by have := HN.out; unfold openP; simp [show l.length < 12 by omega])
  clear h
  go_enter Try.func59, Try.ntmps59
  go_wp2_with (first
 | ((with_reducible refine sl 3 ?_); (refine z0a rfl 27 (.tmp 0) rfl #[.int .i64 6, .bool false, .int .u32 0, .int .i64 0, .int .u32 0, .int .i64 0, .int .u64 0, .int .u32 0, .slice none 0 0, .slice none 0 0, .slice none 0 0] rfl ?_); intro w1 g3 he__ le_g3 lt_g3 hg__ hb__; have HG3 := Hd hg__; have hE__ := cU HB bup hb__; replace HB := ck HB hE__; clear hE__; clear hg__ hb__ he__; simp only [PT])
 | ((with_reducible refine sl 4 ?_); (refine z0a rfl 24 (.tmp 1) rfl #[.slice ad n c] rfl ?_); intro w2 g4 he__ le_g4 lt_g4 hg__ hb__; have HG4 := Hd hg__; have hE__ := cU HB bup hb__; replace HB := ck HB hE__; replace HG3 := ck HG3 hE__; clear hE__; clear hg__ hb__ he__; simp only [PT])
 | ((with_reducible refine sl 5 ?_); (refine z0a rfl 4 (.tmp 2) rfl #[.bool big] rfl ?_); intro w3 g5 he__ le_g5 lt_g5 hg__ hb__; have HG5 := Hd hg__; have hE__ := cU HB bup hb__; replace HB := ck HB hE__; replace HG3 := ck HG3 hE__; replace HG4 := ck HG4 hE__; clear hE__; clear hg__ hb__ he__; simp only [PT])
 | ((with_reducible refine sl 6 ?_); (refine z09 rfl 27 rfl (.agg #[.int .i64 0, .bool false, .int .u32 0, .int .i64 0, .int .u32 0, .int .i64 0, .int .u64 0, .int .u32 0, .slice none 0 0, .slice none 0 0, .slice none 0 0]) #[.int .i64 0, .bool false, .int .u32 0, .int .i64 0, .int .u32 0, .int .i64 0, .int .u64 0, .int .u32 0, .slice none 0 0, .slice none 0 0, .slice none 0 0] 11 (by kernel_rfl) rfl ?_); intro w4 g6 he__ le_g6 lt_g6 hg__ hb__; have HG6 := Hd hg__; have hE__ := cU HB bup hb__; replace HB := ck HB hE__; replace HG3 := ck HG3 hE__; replace HG4 := ck HG4 hE__; replace HG5 := ck HG5 hE__; clear hE__; clear hg__ hb__ he__; simp only [PT])
 | ((with_reducible refine sl 19 ?_); (refine z1h rfl (.tmp 16) (.tmp 18) rfl _ _ rfl rfl (.int .i64 12) need_at6 ?_); simp only [PT])
 | ((with_reducible refine sl 18 ?_); (refine z01 rfl 3 (.tmp 17) rfl g3 0 rfl (.int .i64 6) HG3.out rfl Try.underlying3 rfl ?_); simp only [PT])
 | ((with_reducible refine sl 20 ?_); (refine z01 rfl 24 (.tmp 4) rfl g4 0 rfl (.slice ad n c) HG4.out rfl Try.underlying24 rfl ?_); simp only [PT])
 | ((with_reducible refine sl 30 ?_); (refine z01 rfl 3 (.tmp 29) rfl g3 0 rfl (.int .i64 6) HG3.out rfl Try.underlying3 rfl ?_); simp only [PT])
 | ((with_reducible refine sl 26 ?_); (refine z01 rfl 24 (.tmp 4) rfl g4 0 rfl (.slice ad n c) HG4.out rfl Try.underlying24 rfl ?_); simp only [PT])
 | ((with_reducible refine sl 24 ?_); (refine z05 rfl 27 (.tmp 3) rfl g3 0 rfl [.int .i64 6, .bool false, .int .u32 0, .int .i64 0, .int .u32 0, .int .i64 0, .int .u64 0, .int .u32 0, .slice none 0 0, .slice none 0 0, .slice none 0 0] _ (z00 HG3.out) Try.underlying27 rfl HBI.out ?_); simp only [PT])
 | ((with_reducible show wpList _ _ _ (⟨none, .store _ (.tmp 6) (.tmp 24), _, _, _, _⟩ :: _) _ _); (refine z02 rfl 27 (.tmp 6) (.tmp 24) rfl g6 #[.int .i64 6, .bool false, .int .u32 0, .int .i64 0, .int .u32 0, .int .i64 0, .int .u64 0, .int .u32 0, .slice none 0 0, .slice none 0 0, .slice none 0 0] rfl rfl HG6.out HBI.out rfl (all1 _ rfl) ?_); intro w9 hs__ hr__; replace HB := cg HB bup hr__ (by omega); replace HG3 := cg HG3 bup hr__ (by omega); clear HG6; have HG6 := Hd hs__; clear hs__ hr__; simp only [PT]))
  all_goals
    (try simp only [Exit.inBlock, Exit.then, Exit.noGoto_ret])
    refine z04 (cs := [.int .i64 6, .bool false, .int .u32 0, .int .i64 0, .int .u32 0, .int .i64 0, .int .u64 0, .int .u32 0, .slice none 0 0, .slice none 0 0, .slice none 0 0]) rfl rfl (z00 HG6.out) Try.underlying27 rfl HBI.out rfl ?_
    exact ⟨⟨6, false, 0, 0, 0, 0, 0, 0, none, 0, 0, [], none, 0, 0, [], none, 0, 0, []⟩, none, 0, 0, false, rfl, by rw [HO.out]; rfl, fun x r h => absurd (HO.out.symm.trans h) (by simp), HB.out⟩
theorem open6_ok (ad : Option Addr) (n c : Nat) (l : List UInt8) (big : Bool) (w : World) (hs : Bs w ad n c l) (hn : n ≤ 1048576) (h : 12 ≤ n) :
    Calls Try.prog 59 #[.agg #[.int .i64 6, .bool false, .int .u32 0, .int .i64 0, .int .u32 0, .int .i64 0, .int .u64 0, .int .u32 0, .slice none 0 0, .slice none 0 0, .slice none 0 0], .slice ad n c, .bool big] w (OpenR ad n c l (openP 6 0 l big) w) := by
  have HB := Hd (Below.refl w.heap.size w)
  have HS := Hd hs
  have HBI := Hd z0d
  have hc := hs.le
  have HN := Hd hs.len
  clear hs
  have hi : ¬ (n : Int) < 12 := by omega
  obtain ⟨V0, hV0⟩ : ∃ x, x = getN ((l.drop 0).take 4) big := ⟨_, rfl⟩
  have bV0 : V0 < 4294967296 := by rw [hV0]; exact w4_lt big l 0
  have HV0 := Hd hV0
  clear hV0
  obtain ⟨V4, hV4⟩ : ∃ x, x = getN ((l.drop 4).take 4) big := ⟨_, rfl⟩
  have bV4 : V4 < 4294967296 := by rw [hV4]; exact w4_lt big l 4
  have HV4 := Hd hV4
  clear hV4
  obtain ⟨V8, hV8⟩ : ∃ x, x = getN ((l.drop 8).take 4) big := ⟨_, rfl⟩
  have bV8 : V8 < 4294967296 := by rw [hV8]; exact w4_lt big l 8
  have HV8 := Hd hV8
  clear hV8
  have e0 : IntKind.i64.wrap (V0 : Int) = (V0 : Int) := by rw [IntKind.wrap_i64]; omega
  obtain ⟨T, hT⟩ : ∃ T, T = V4 * 4294967296 + V8 := ⟨_, rfl⟩
  have hT2 : T < 18446744073709551616 := by omega
  have hor := or_word2 V4 V8 bV4 bV8
  rw [← hT] at hor
  have HT := Hd hT
  clear hT
  have HO : Hid (openP 6 0 l big = some ({ noneB with kind := 6, iface := (V0 : Int), time := T }, l.drop 12)) := Hd (by rw [HT.out, HV0.out, HV4.out, HV8.out]; have := HN.out; unfold openP; simp [show ¬ l.length < 12 by omega, w4])
  clear HN
  go_enter Try.func59, Try.ntmps59
  go_wp2_with (first
 | ((with_reducible refine sl 3 ?_); (refine z0a rfl 27 (.tmp 0) rfl #[.int .i64 6, .bool false, .int .u32 0, .int .i64 0, .int .u32 0, .int .i64 0, .int .u64 0, .int .u32 0, .slice none 0 0, .slice none 0 0, .slice none 0 0] rfl ?_); intro w1 g3 he__ le_g3 lt_g3 hg__ hb__; have HG3 := Hd hg__; have hE__ := cU HB bup hb__; replace HB := ck HB hE__; clear hE__; clear hg__ hb__ he__; simp only [PT])
 | ((with_reducible refine sl 4 ?_); (refine z0a rfl 24 (.tmp 1) rfl #[.slice ad n c] rfl ?_); intro w2 g4 he__ le_g4 lt_g4 hg__ hb__; have HG4 := Hd hg__; have hE__ := cU HB bup hb__; replace HB := ck HB hE__; replace HG3 := ck HG3 hE__; clear hE__; clear hg__ hb__ he__; simp only [PT])
 | ((with_reducible refine sl 5 ?_); (refine z0a rfl 4 (.tmp 2) rfl #[.bool big] rfl ?_); intro w3 g5 he__ le_g5 lt_g5 hg__ hb__; have HG5 := Hd hg__; have hE__ := cU HB bup hb__; replace HB := ck HB hE__; replace HG3 := ck HG3 hE__; replace HG4 := ck HG4 hE__; clear hE__; clear hg__ hb__ he__; simp only [PT])
 | ((with_reducible refine sl 6 ?_); (refine z09 rfl 27 rfl (.agg #[.int .i64 0, .bool false, .int .u32 0, .int .i64 0, .int .u32 0, .int .i64 0, .int .u64 0, .int .u32 0, .slice none 0 0, .slice none 0 0, .slice none 0 0]) #[.int .i64 0, .bool false, .int .u32 0, .int .i64 0, .int .u32 0, .int .i64 0, .int .u64 0, .int .u32 0, .slice none 0 0, .slice none 0 0, .slice none 0 0] 11 (by kernel_rfl) rfl ?_); intro w4 g6 he__ le_g6 lt_g6 hg__ hb__; have HG6 := Hd hg__; have hE__ := cU HB bup hb__; replace HB := ck HB hE__; replace HG3 := ck HG3 hE__; replace HG4 := ck HG4 hE__; replace HG5 := ck HG5 hE__; clear hE__; clear hg__ hb__ he__; simp only [PT])
 | ((with_reducible refine sl 19 ?_); (refine z1h rfl (.tmp 16) (.tmp 18) rfl _ _ rfl rfl (.int .i64 12) need_at6 ?_); simp only [PT])
 | ((with_reducible refine sl 18 ?_); (refine z01 rfl 3 (.tmp 17) rfl g3 0 rfl (.int .i64 6) HG3.out rfl Try.underlying3 rfl ?_); simp only [PT])
 | ((with_reducible refine sl 20 ?_); (refine z01 rfl 24 (.tmp 4) rfl g4 0 rfl (.slice ad n c) HG4.out rfl Try.underlying24 rfl ?_); simp only [PT])
 | ((with_reducible refine sl 30 ?_); (refine z01 rfl 3 (.tmp 29) rfl g3 0 rfl (.int .i64 6) HG3.out rfl Try.underlying3 rfl ?_); simp only [PT])
 | ((with_reducible refine sl 26 ?_); (refine z01 rfl 24 (.tmp 4) rfl g4 0 rfl (.slice ad n c) HG4.out rfl Try.underlying24 rfl ?_); simp only [PT])
 | ((with_reducible refine sl 28 ?_); (refine z0t elB rfl (.tmp 26) (some (.tmp 27)) none rfl rfl 12 n (.inr ⟨.i64, rfl⟩) (.inl ⟨rfl, rfl⟩) (by omega) (by omega) ?_); intro ad28 had28; have HRG := Hd (show ∀ w0, Bs w0 ad n c l → Bs w0 ad28 (n - 12) (c - 12) (l.drop 12) from fun w0 h0 => by rw [had28.out]; exact Bs.drop8 h0 12 (by omega)); clear had28; simp only [PT])
 | (go_at_call 82; (with_reducible show Calls _ _ #[Value.int .i64 0, Value.int .i64 4, _, _] _ _); (refine (z19 g4 g5 ad n c l big 0 4 (by omega) (by omega) _ (by exact HG4.out) (by exact HG5.out) (HS.out.below (HB.out.trans (Below.mono bup HB.out.size)))).mono ?_); intro e w5 hr; rw [← HV0.out] at hr; obtain ⟨rfl, hb__⟩ := hr; have hE__ := cU HB bup hb__; replace HB := ck HB hE__; replace HG3 := ck HG3 hE__; replace HG4 := ck HG4 hE__; replace HG5 := ck HG5 hE__; replace HG6 := ck HG6 hE__; clear hE__; clear hb__)
 | (go_at_call 82; (with_reducible show Calls _ _ #[Value.int .i64 4, Value.int .i64 4, _, _] _ _); (refine (z19 g4 g5 ad n c l big 4 4 (by omega) (by omega) _ (by exact HG4.out) (by exact HG5.out) (HS.out.below (HB.out.trans (Below.mono bup HB.out.size)))).mono ?_); intro e w6 hr; rw [← HV4.out] at hr; obtain ⟨rfl, hb__⟩ := hr; have hE__ := cU HB bup hb__; replace HB := ck HB hE__; replace HG3 := ck HG3 hE__; replace HG4 := ck HG4 hE__; replace HG5 := ck HG5 hE__; replace HG6 := ck HG6 hE__; clear hE__; clear hb__)
 | (go_at_call 82; (with_reducible show Calls _ _ #[Value.int .i64 8, Value.int .i64 4, _, _] _ _); (refine (z19 g4 g5 ad n c l big 8 4 (by omega) (by omega) _ (by exact HG4.out) (by exact HG5.out) (HS.out.below (HB.out.trans (Below.mono bup HB.out.size)))).mono ?_); intro e w7 hr; rw [← HV8.out] at hr; obtain ⟨rfl, hb__⟩ := hr; have hE__ := cU HB bup hb__; replace HB := ck HB hE__; replace HG3 := ck HG3 hE__; replace HG4 := ck HG4 hE__; replace HG5 := ck HG5 hE__; replace HG6 := ck HG6 hE__; clear hE__; clear hb__)
 | ((with_reducible show wpList _ _ _ (⟨none, .store _ (.tmp 144) (.tmp 137), _, _, _, _⟩ :: _) _ _); (refine z0c rfl 3 (.tmp 144) (.tmp 137) rfl g3 5 (.int .i64 (V0 : Int)) rfl rfl rfl HG3.out (by simp) (by kernel_rfl) #[.int .i64 6, .bool false, .int .u32 0, .int .i64 0, .int .u32 0, .int .i64 (V0 : Int), .int .u64 0, .int .u32 0, .slice none 0 0, .slice none 0 0, .slice none 0 0] rfl ?_); intro w8 hs__ hr__; replace HB := cg HB bup hr__ (by omega); replace HG4 := cg HG4 bup hr__ (by omega); replace HG5 := cg HG5 bup hr__ (by omega); replace HG6 := cg HG6 bup hr__ (by omega); clear HG3; have HG3 := Hd hs__; clear hs__ hr__; simp only [PT])
 | ((with_reducible show wpList _ _ _ (⟨none, .store _ (.tmp 145) (.tmp 143), _, _, _, _⟩ :: _) _ _); (refine z0c rfl 23 (.tmp 145) (.tmp 143) rfl g3 6 (.int .u64 ((T : Nat) : Int)) rfl rfl rfl HG3.out (by simp) (by kernel_rfl) #[.int .i64 6, .bool false, .int .u32 0, .int .i64 0, .int .u32 0, .int .i64 (V0 : Int), .int .u64 ((T : Nat) : Int), .int .u32 0, .slice none 0 0, .slice none 0 0, .slice none 0 0] rfl ?_); intro w9 hs__ hr__; replace HB := cg HB bup hr__ (by omega); replace HG4 := cg HG4 bup hr__ (by omega); replace HG5 := cg HG5 bup hr__ (by omega); replace HG6 := cg HG6 bup hr__ (by omega); clear HG3; have HG3 := Hd hs__; clear hs__ hr__; simp only [PT])
 | ((with_reducible refine sl 146 ?_); (refine z05 rfl 27 (.tmp 3) rfl g3 0 rfl [.int .i64 6, .bool false, .int .u32 0, .int .i64 0, .int .u32 0, .int .i64 (V0 : Int), .int .u64 ((T : Nat) : Int), .int .u32 0, .slice none 0 0, .slice none 0 0, .slice none 0 0] _ (z00 HG3.out) Try.underlying27 rfl HBI.out ?_); simp only [PT])
 | ((with_reducible show wpList _ _ _ (⟨none, .store _ (.tmp 6) (.tmp 146), _, _, _, _⟩ :: _) _ _); (refine z02 rfl 27 (.tmp 6) (.tmp 146) rfl g6 #[.int .i64 6, .bool false, .int .u32 0, .int .i64 0, .int .u32 0, .int .i64 (V0 : Int), .int .u64 ((T : Nat) : Int), .int .u32 0, .slice none 0 0, .slice none 0 0, .slice none 0 0] rfl rfl HG6.out HBI.out rfl (all1 _ rfl) ?_); intro w10 hs__ hr__; replace HB := cg HB bup hr__ (by omega); replace HG3 := cg HG3 bup hr__ (by omega); clear HG6; have HG6 := Hd hs__; clear hs__ hr__; simp only [PT]))
  all_goals
    (try simp only [Exit.inBlock, Exit.then, Exit.noGoto_ret])
    refine z04 (cs := [.int .i64 6, .bool false, .int .u32 0, .int .i64 0, .int .u32 0, .int .i64 (V0 : Int), .int .u64 ((T : Nat) : Int), .int .u32 0, .slice none 0 0, .slice none 0 0, .slice none 0 0]) rfl rfl (z00 HG6.out) Try.underlying27 rfl HBI.out rfl ?_
    refine ⟨⟨6, false, 0, 0, 0, (V0 : Int), T, 0, none, 0, 0, [], none, 0, 0, [], none, 0, 0, []⟩, ad28, (n - 12), (c - 12), true, rfl, by rw [HO.out]; rfl, fun x r h => ?_, HB.out⟩
    have hh := HO.out.symm.trans h
    simp only [Option.some.injEq, Prod.mk.injEq] at hh
    obtain ⟨rfl, rfl⟩ := hh
    refine ⟨rfl, HRG.out, z1i _ _ _ _, OwnOps.nil _ _ _, OwnOps.nil _ _ _⟩
theorem open7_ok (t : Nat) (ad : Option Addr) (n c : Nat) (l : List UInt8) (big : Bool) (w : World) (hs : Bs w ad n c l) (hn : n ≤ 1048576) :
    Calls Try.prog 59 #[.agg #[.int .i64 7, .bool false, .int .u32 (t : Int), .int .i64 0, .int .u32 0, .int .i64 0, .int .u64 0, .int .u32 0, .slice none 0 0, .slice none 0 0, .slice none 0 0], .slice ad n c, .bool big] w (OpenR ad n c l (openP 7 t l big) w) := by
  have HB := Hd (Below.refl w.heap.size w)
  have HS := Hd hs
  have HBI := Hd z0d
  have hc := hs.le
  have HN := Hd hs.len
  clear hs
  have h : 0 ≤ n := Nat.zero_le _
  have hi : ¬ (n : Int) < 0 := by omega
  have HO : Hid (openP 7 t l big = some ({ noneB with kind := 7, type := t, data := l }, [])) := Hd rfl
  clear HN
  go_enter Try.func59, Try.ntmps59
  go_wp2_with (first
 | ((with_reducible refine sl 3 ?_); (refine z0a rfl 27 (.tmp 0) rfl #[.int .i64 7, .bool false, .int .u32 (t : Int), .int .i64 0, .int .u32 0, .int .i64 0, .int .u64 0, .int .u32 0, .slice none 0 0, .slice none 0 0, .slice none 0 0] rfl ?_); intro w1 g3 he__ le_g3 lt_g3 hg__ hb__; have HG3 := Hd hg__; have hE__ := cU HB bup hb__; replace HB := ck HB hE__; clear hE__; clear hg__ hb__ he__; simp only [PT])
 | ((with_reducible refine sl 4 ?_); (refine z0a rfl 24 (.tmp 1) rfl #[.slice ad n c] rfl ?_); intro w2 g4 he__ le_g4 lt_g4 hg__ hb__; have HG4 := Hd hg__; have hE__ := cU HB bup hb__; replace HB := ck HB hE__; replace HG3 := ck HG3 hE__; clear hE__; clear hg__ hb__ he__; simp only [PT])
 | ((with_reducible refine sl 5 ?_); (refine z0a rfl 4 (.tmp 2) rfl #[.bool big] rfl ?_); intro w3 g5 he__ le_g5 lt_g5 hg__ hb__; have HG5 := Hd hg__; have hE__ := cU HB bup hb__; replace HB := ck HB hE__; replace HG3 := ck HG3 hE__; replace HG4 := ck HG4 hE__; clear hE__; clear hg__ hb__ he__; simp only [PT])
 | ((with_reducible refine sl 6 ?_); (refine z09 rfl 27 rfl (.agg #[.int .i64 0, .bool false, .int .u32 0, .int .i64 0, .int .u32 0, .int .i64 0, .int .u64 0, .int .u32 0, .slice none 0 0, .slice none 0 0, .slice none 0 0]) #[.int .i64 0, .bool false, .int .u32 0, .int .i64 0, .int .u32 0, .int .i64 0, .int .u64 0, .int .u32 0, .slice none 0 0, .slice none 0 0, .slice none 0 0] 11 (by kernel_rfl) rfl ?_); intro w4 g6 he__ le_g6 lt_g6 hg__ hb__; have HG6 := Hd hg__; have hE__ := cU HB bup hb__; replace HB := ck HB hE__; replace HG3 := ck HG3 hE__; replace HG4 := ck HG4 hE__; replace HG5 := ck HG5 hE__; clear hE__; clear hg__ hb__ he__; simp only [PT])
 | ((with_reducible refine sl 19 ?_); (refine z1h rfl (.tmp 16) (.tmp 18) rfl _ _ rfl rfl (.int .i64 0) need_at7 ?_); simp only [PT])
 | ((with_reducible refine sl 18 ?_); (refine z01 rfl 3 (.tmp 17) rfl g3 0 rfl (.int .i64 7) HG3.out rfl Try.underlying3 rfl ?_); simp only [PT])
 | ((with_reducible refine sl 20 ?_); (refine z01 rfl 24 (.tmp 4) rfl g4 0 rfl (.slice ad n c) HG4.out rfl Try.underlying24 rfl ?_); simp only [PT])
 | ((with_reducible refine sl 30 ?_); (refine z01 rfl 3 (.tmp 29) rfl g3 0 rfl (.int .i64 7) HG3.out rfl Try.underlying3 rfl ?_); simp only [PT])
 | ((with_reducible refine sl 26 ?_); (refine z01 rfl 24 (.tmp 4) rfl g4 0 rfl (.slice ad n c) HG4.out rfl Try.underlying24 rfl ?_); simp only [PT])
 | ((with_reducible refine sl 28 ?_); (refine z0t elB rfl (.tmp 26) (some (.tmp 27)) none rfl rfl 0 n (.inr ⟨.i64, rfl⟩) (.inl ⟨rfl, rfl⟩) (by omega) (by omega) ?_); intro ad28 had28; have HRG := Hd (show ∀ w0, Bs w0 ad n c l → Bs w0 ad28 (n - 0) (c - 0) (l.drop 0) from fun w0 h0 => by rw [had28.out]; exact Bs.drop8 h0 0 (by omega)); clear had28; simp only [PT])
 | ((with_reducible refine sl 31 ?_); (refine z01 rfl 24 (.tmp 4) rfl g4 0 rfl (.slice ad n c) HG4.out rfl Try.underlying24 rfl ?_); simp only [PT])
 | (go_at_call 68; (with_reducible show Calls _ _ #[Value.slice ad n c] _ _); (refine (z2d ad n c l _ (HS.out.below (HB.out.trans (Below.mono bup HB.out.size))) (by omega)).mono ?_); intro e w5 hr; unfold RetB at hr; obtain ⟨adD, cD, rfl, hoD, hb__⟩ := hr; have HD := Hd (z0r (base' := g6 + 1) hoD (lt_of_block (by exact HG6.out))); have hE__ := cU HB bup hb__; replace HB := ck HB hE__; replace HG3 := ck HG3 hE__; replace HG4 := ck HG4 hE__; replace HG5 := ck HG5 hE__; replace HG6 := ck HG6 hE__; clear hE__; clear hb__ hoD)
 | ((with_reducible show wpList _ _ _ (⟨none, .store _ (.tmp 33) (.tmp 32), _, _, _, _⟩ :: _) _ _); (refine z0c rfl 24 (.tmp 33) (.tmp 32) rfl g3 8 (.slice adD l.length cD) rfl rfl rfl HG3.out (by simp) (by kernel_rfl) #[.int .i64 7, .bool false, .int .u32 (t : Int), .int .i64 0, .int .u32 0, .int .i64 0, .int .u64 0, .int .u32 0, .slice adD l.length cD, .slice none 0 0, .slice none 0 0] rfl ?_); intro w7 hs__ hr__; replace HB := cg HB bup hr__ (by omega); replace HG4 := cg HG4 bup hr__ (by omega); replace HG5 := cg HG5 bup hr__ (by omega); replace HG6 := cg HG6 bup hr__ (by omega); replace HD := cg HD bup hr__ (by omega); clear HG3; have HG3 := Hd hs__; clear hs__ hr__; simp only [PT])
 | ((with_reducible refine sl 146 ?_); (refine z05 rfl 27 (.tmp 3) rfl g3 0 rfl [.int .i64 7, .bool false, .int .u32 (t : Int), .int .i64 0, .int .u32 0, .int .i64 0, .int .u64 0, .int .u32 0, .slice adD l.length cD, .slice none 0 0, .slice none 0 0] _ (z00 HG3.out) Try.underlying27 rfl HBI.out ?_); simp only [PT])
 | ((with_reducible show wpList _ _ _ (⟨none, .store _ (.tmp 6) (.tmp 146), _, _, _, _⟩ :: _) _ _); (refine z02 rfl 27 (.tmp 6) (.tmp 146) rfl g6 #[.int .i64 7, .bool false, .int .u32 (t : Int), .int .i64 0, .int .u32 0, .int .i64 0, .int .u64 0, .int .u32 0, .slice adD l.length cD, .slice none 0 0, .slice none 0 0] rfl rfl HG6.out HBI.out rfl (all1 _ rfl) ?_); intro w9 hs__ hr__; replace HB := cg HB bup hr__ (by omega); replace HG3 := cg HG3 bup hr__ (by omega); replace HD := cg HD bup hr__ (by omega); clear HG6; have HG6 := Hd hs__; clear hs__ hr__; simp only [PT]))
  all_goals
    (try simp only [Exit.inBlock, Exit.then, Exit.noGoto_ret])
    refine z04 (cs := [.int .i64 7, .bool false, .int .u32 (t : Int), .int .i64 0, .int .u32 0, .int .i64 0, .int .u64 0, .int .u32 0, .slice adD l.length cD, .slice none 0 0, .slice none 0 0]) rfl rfl (z00 HG6.out) Try.underlying27 rfl HBI.out rfl ?_
    refine ⟨⟨7, false, t, 0, 0, 0, 0, 0, adD, l.length, cD, l, none, 0, 0, [], none, 0, 0, []⟩, none, 0, 0, true, rfl, by rw [HO.out]; rfl, fun x r h => ?_, HB.out⟩
    have hh := HO.out.symm.trans h
    simp only [Option.some.injEq, Prod.mk.injEq] at hh
    obtain ⟨rfl, rfl⟩ := hh
    refine ⟨rfl, fun _ _ => Sl.nil _ 1, z0r HD.out (by omega), OwnOps.nil _ _ _, OwnOps.nil _ _ _⟩
end Go.Proofs.Ytmfplinbbcoahaa
