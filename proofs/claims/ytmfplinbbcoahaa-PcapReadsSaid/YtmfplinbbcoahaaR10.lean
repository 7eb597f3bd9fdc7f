/-
  Joined by program (merge.py): PcFrames, PcRead, PlainPcap2, PcLawK, PcStp, RefPc1.
-/
import Derived.Test.YtmfplinbbcoahaaR4
import Derived.Test.YtmfplinbbcoahaaR9
set_option linter.unusedVariables false
set_option linter.unusedSimpArgs false
set_option maxRecDepth 100000
set_option maxHeartbeats 16000000
namespace Go.Proofs.Ytmfplinbbcoahaa
open Go.RowKit Go.Sort Go.Shelf
attribute [local go_sem] Oper.semAt_some
def IFr (g4 B : Nat) (w0 : World) (pre : List (StV × BlkV)) (W : World) : Prop := ∃ ad c fs, W.heap[g4]? = some (.cells #[.slice ad fs.length c] 56 (0, 0)) ∧ W.ownsRow B 59 5 (.slice ad fs.length c) fs.length (fcells fs) ∧ (∀ v ∈ fs, OwnF B W v) ∧ fs.map FrV.val = framesC (pre.map valX) ∧ fs.length ≤ pre.length ∧ Below w0.heap.size w0 W ∧ B ≤ W.heap.size
theorem hat {W w' : World} {k : Nat} {o : Obj} (hE : Hid (Below W.heap.size W w')) (h : Hid (W.heap[k]? = some o)) : w'.heap[k]? = some o := (hE.out.block k (lt_of_block h.out)).trans h.out
theorem own_write {w w' : World} {base g : Nat} {e ty : TypeId} {size : Nat} {ad : Option Addr} {n c : Nat} {xs : List Value} {cs : Array Value} {fz : Nat × Nat} (h : w.ownsRow base e size (.slice ad n c) n xs) (hg : w.grownBy w' (some g)) (hc : w.heap[g]? = some (.cells cs ty fz)) (hne : ty ≠ e) : w'.ownsRow base e size (.slice ad n c) n xs :=
  own_of h fun k cs' hb hh => (hg.block k (lt_of_block hh) (fun e => by cases e; rw [hc] at hh; cases hh; exact hne rfl)).trans hh
theorem z35 {w : World} {g : Nat} {cs : List Value} {ty : TypeId} {fz : Nat × Nat} (h : w.heap[g]? = some (.cells cs.toArray ty fz)) : Sl w (some ⟨g, 0, none⟩) 1 1 cs.length cs :=
  ⟨by simp, Nat.le_refl _, by simp [maxLen], (fun e => by cases e), fun j u hj => ⟨_, rfl, by
    have hg := z1u h j
    unfold Addr.add
    split
    · rename_i e; subst e; rw [hg]; exact hj
    · simp only [Nat.zero_add]; rw [hg]; exact hj⟩⟩
theorem fr_all (v : FrV) : v.cells.toArray.all (·.oneCell') = true := by
  simp only [FrV.cells, List.all_toArray, List.all_cons, List.all_nil, Bool.and_true, Bool.and_eq_true]
  exact ⟨rfl, rfl, rfl, rfl, rfl⟩
theorem OwnF.grown {base : Nat} {w w' : World} {row : Option Nat} {v : FrV} (h : OwnF base w v) (hg : w.grownBy w' row) (hr : ∀ r, row = some r → ∃ o : Obj, w.heap[r]? = some o ∧ o.isCells = false) : OwnF base w' v :=
  own_grown (show w.ownsRow base 5 1 (.slice v.ad v.n v.c) v.n (BV v.l) from h) hg hr
theorem OwnF.of {base : Nat} {w w' : World} {v : FrV} (h : OwnF base w v) (hk : ∀ (g : Nat) (cs : Array Value), base ≤ g → w.heap[g]? = some (.cells cs 5 (0, 0)) → w'.heap[g]? = some (.cells cs 5 (0, 0))) : OwnF base w' v :=
  own_of (show w.ownsRow base 5 1 (.slice v.ad v.n v.c) v.n (BV v.l) from h) hk
theorem ownFs_of {base : Nat} {w w' : World} {fs : List FrV} (h : ∀ v ∈ fs, OwnF base w v) (hk : ∀ (g : Nat) (cs : Array Value), base ≤ g → w.heap[g]? = some (.cells cs 5 (0, 0)) → w'.heap[g]? = some (.cells cs 5 (0, 0))) : ∀ v ∈ fs, OwnF base w' v := fun v hv => (h v hv).of hk
theorem z2v {base : Nat} {w w' : World} {fs : List FrV} (h : ∀ v ∈ fs, OwnF base w v) (hb : Below w.heap.size w w') : ∀ v ∈ fs, OwnF base w' v := ownFs_of h fun g cs _ hg => (hb.block g (lt_of_block hg)).trans hg
instance {base : Nat} {w w' : World} {fs : List FrV} : Ck (∀ v ∈ fs, OwnF base w v) w' w (∀ v ∈ fs, OwnF base w' v) := ⟨fun h hE => z2v h hE⟩
theorem ownFrom_fr (g4 B B' : Nat) (w0 : World) (h : w0.heap.size ≤ B') : OwnFrom B' (IFr g4 B w0) := fun s W W' row ⟨ad, c, fs, h1, h2, h3, h4, h5, h6, h7⟩ hg hr =>
  ⟨ad, c, fs, z3q hg (fun r e => (hr r e).2) h1, own_grown h2 hg (fun r e => (hr r e).2), fun v hv => (h3 v hv).grown hg (fun r e => (hr r e).2), h4, h5, h6.grown hg h6.size (fun k e => Nat.le_trans h (hr k e).1), Nat.le_trans h7 hg.size⟩
theorem StW.frs {R m : Nat} {A B : World} (h : StW R m A B) {base : Nat} {fs : List FrV} (ho : ∀ v ∈ fs, OwnF base A v) (hR : R < base) : ∀ v ∈ fs, OwnF base B v := fun v hv =>
  h.row (show A.ownsRow base 5 1 (.slice v.ad v.n v.c) v.n (BV v.l) from ho v hv) hR (by decide)
theorem framesC_snoc (l : List (PS × PB)) (p : PS × PB) : framesC (l ++ [p]) = framesC l ++ frameS p.1 p.2 := by simp [framesC]
theorem fr_close {w w5 W w11 w10 w12 : World} {x : StV × BlkV} {pre : List (StV × BlkV)} {fs : List FrV} {g4 c' c10 : Nat} {ad' ad10 : Option Addr} (hE : Below W.heap.size W w11) (hszW : w.heap.size ≤ W.heap.size) (hsz : w.heap.size ≤ w5.heap.size) (le_g4 : w.heap.size ≤ g4) (lt4 : g4 < w5.heap.size) (hlen : fs.length ≤ pre.length) (h4 : w5.heap.size ≤ W.heap.size)
    (hval : fs.map FrV.val = framesC (pre.map valX)) (hQ : KpW w.heap.size w11 w10) (hQ2 : KeepsFrom w5.heap.size w11 w10) (fr : FrV) (hfr : frameS x.1.val x.2.val = [fr.val]) (hO : w10.ownsRow w5.heap.size 59 5 (.slice ad10 (fs.length + 1) c10) (fs.length + 1) (fcells fs ++ fr.cells))
    (h1 : w10.heap[g4]? = some (.cells #[.slice ad' fs.length c'] 56 (0, 0))) (h3 : Below w.heap.size w w10) (hF : ∀ v ∈ fs, OwnF w5.heap.size w10 v) (hD : w10.ownsRow w5.heap.size 5 1 (.slice fr.ad fr.n fr.c) fr.n (BV fr.l))
    (hS : w12.heap[g4]? = some (.cells #[.slice ad10 (fs.length + 1) c10] 56 (0, 0))) (hR : w10.grownBy w12 (some g4)) :
    KeepsFrom w5.heap.size W w12 ∧ KpW w.heap.size W w12 ∧ IFr g4 w5.heap.size w (pre ++ [x]) w12 := by
  have hk : ∀ (e : TypeId) (g : Nat) (cs : Array Value), w5.heap.size ≤ g → w10.heap[g]? = some (.cells cs e (0, 0)) → w12.heap[g]? = some (.cells cs e (0, 0)) := fun e g cs hb hh => (hR.block g (lt_of_block hh) (fun e => by cases e; omega)).trans hh
  have hs10 : w.heap.size ≤ w10.heap.size := h3.size
  refine ⟨((KeepsFrom.below hE).trans hQ2).trans (KeepsFrom.write hR h1), ((KpW.of_below hE hszW).trans hQ).trans (KpW.write hR hs10 le_g4 h1 (by decide)), ad10, c10, fs ++ [fr], ?_, ?_, ?_, ?_, ?_, ?_, ?_⟩
  · rw [List.length_append]; exact hS
  · rw [List.length_append, fcells_snoc]; exact own_of hO (hk _)
  · intro v hv
    rcases List.mem_append.1 hv with hv | hv
    · exact (hF v hv).of (hk _)
    · obtain rfl : v = fr := by simpa using hv
      exact OwnF.of hD (hk _)
  · rw [List.map_append, List.map_append, hval]
    show _ = framesC (pre.map valX ++ [valX x])
    rw [framesC_snoc]
    show _ = _ ++ frameS x.1.val x.2.val
    rw [hfr]
    rfl
  · simp; omega
  · exact h3.grown hR hs10 (fun k e => by cases e; exact le_g4)
  · exact Nat.le_trans (Nat.le_trans h4 hE.size) (Nat.le_trans hQ2.size hR.size)
theorem fr_same {w w5 W w11 : World} {x : StV × BlkV} {pre : List (StV × BlkV)} {fs : List FrV} {g4 c' : Nat} {ad' : Option Addr} (hE : Below W.heap.size W w11) (hszW : w.heap.size ≤ W.heap.size) (hlen : fs.length ≤ pre.length) (h4 : w5.heap.size ≤ W.heap.size)
    (hval : fs.map FrV.val = framesC (pre.map valX)) (hfr : frameS x.1.val x.2.val = []) (h1 : W.heap[g4]? = some (.cells #[.slice ad' fs.length c'] 56 (0, 0))) (h2 : W.ownsRow w5.heap.size 59 5 (.slice ad' fs.length c') fs.length (fcells fs)) (h3 : Below w.heap.size w W) (hF : ∀ v ∈ fs, OwnF w5.heap.size W v) :
    KeepsFrom w5.heap.size W w11 ∧ KpW w.heap.size W w11 ∧ IFr g4 w5.heap.size w (pre ++ [x]) w11 := by
  refine ⟨KeepsFrom.below hE, KpW.of_below hE hszW, ad', c', fs, (hE.block g4 (lt_of_block h1)).trans h1, z08 h2 hE, z2v hF hE, ?_, ?_, h3.trans (hE.mono hszW), Nat.le_trans h4 hE.size⟩
  · rw [hval, List.map_append]
    show _ = framesC (pre.map valX ++ [valX x])
    rw [framesC_snoc]
    show _ = _ ++ frameS x.1.val x.2.val
    rw [hfr, List.append_nil]
  · simp; omega
theorem st_first {W : World} {s : StV} (h : StV.mem W s) (h0 : 0 < s.sn.length) : ∃ gu cur, s.ad = some ⟨gu, 0, none⟩ ∧ W.heap[gu]? = some (.cells cur 22 (0, 0)) ∧ cur[0]? = some (.int .u32 ((s.sn.headD 0 : Nat) : Int)) ∧ 0 < s.n := by
  have hl := Us.len (StV.us h)
  obtain ⟨h1, h2⟩ := (show W.ownsRow 0 22 1 (.slice s.ad s.n s.c) s.n (UV s.sn) from h)
  rcases h2 with ⟨_, hn⟩ | ⟨g, cap, cur, hv, hg, hh, hle, hmax, hsz, htake⟩
  · omega
  · simp only [Value.slice.injEq] at hv
    refine ⟨g, cur, hv.1, hh, ?_, by omega⟩
    have e := congrArg (fun l : List Value => l[0]?) htake
    simp only [List.getElem?_take] at e
    rw [if_pos (by omega)] at e
    rw [← Array.getElem?_toList, e]
    cases hq : s.sn with
    | nil => rw [hq] at h0; simp at h0
    | cons a t => simp [UV]
theorem fr4 (x : StV × BlkV) (h3 : ¬ x.2.kind = 3) (hk : x.2.kind = 4) (S : Nat) (hS : S = x.1.sn.headD 0) (m : Nat) (L : List UInt8) (hL : (x.2.dl.drop 0).take m = L) (hm : (S = 0 ∧ x.2.dl.length ≤ m) ∨ (S ≠ 0 ∧ (m = S ∨ (x.2.dl.length ≤ m ∧ x.2.dl.length ≤ S)))) (ad : Option Addr) (n c : Nat) :
    frameS x.1.val x.2.val = [(⟨x.1.sec, x.2.iface, x.2.time, x.2.len, ad, n, c, L⟩ : FrV).val] := by
  unfold frameS
  rw [if_neg (show ¬ x.2.val.kind = 3 from h3), if_pos (show x.2.val.kind = 4 from hk), ← hL, List.drop_zero]
  rw [show x.1.val.snaps.headD 0 = S from hS.symm]
  show [FR.mk x.1.sec x.2.iface x.2.time x.2.len (if S = 0 then x.2.dl else x.2.dl.take S)] = _
  rcases hm with ⟨h0, h⟩ | ⟨h0, h | ⟨h, h2⟩⟩
  · rw [if_pos h0, FrV.val, List.take_of_length_le h]
  · rw [if_neg h0, FrV.val, h]
  · rw [if_neg h0, FrV.val, List.take_of_length_le h, List.take_of_length_le h2]
theorem walkL_le (s : PS) (l : List PB) : (walkL s l).length ≤ l.length := by
  induction l generalizing s with
  | nil => exact Nat.le_refl _
  | cons x l ih =>
    unfold walkL
    split
    · have := ih (nextS s x); simp only [List.length_cons]; omega
    · simp
theorem pcFrames_any (ad : Option Addr) (n c : Nat) (vs : List BlkV) (w : World) (hv : Blks w ad n c vs) (hn : n ≤ 1000000) (hall : ∀ v ∈ vs, SmB v ∧ wfB v.val) :
    Calls Try.prog 37 #[.slice ad n c] w fun e w' => Below w.heap.size w w' ∧ ∃ ad c fs, e = .returned (.slice ad fs.length c) ∧ w'.ownsRow w.heap.size 59 5 (.slice ad fs.length c) fs.length (fcells fs) ∧ (∀ v ∈ fs, OwnF w.heap.size w' v) ∧ (rightC (bvals vs) = true → fs.map FrV.val = framesR noS (bvals vs)) ∧ fs.length ≤ 1000000 := by
  have HB := Hd (Below.refl w.heap.size w)
  have HV := Hd hv
  have HALL := Hd hall
  have HSI := Hd z3g
  have HBI := Hd z0d
  have HSZ := Hd st_zero
  have HZI := Hd z1s
  clear hv hall
  refine (callsIn_wide (n := 8)).1 (callsIn_of_wp_marks Try.func37 rfl trivial (wpIn_wide.2 ?_) rfl)
  simp only [Try.ntmps37, List.size_toArray, List.length_cons, List.length_nil, Nat.reduceAdd, Nat.reduceSub, Array.replicate_succ, Array.replicate_zero, List.push_toArray, List.append_toArray, List.nil_append, List.cons_append]
  go_wp2_with (first
 | ((with_reducible refine sl 3 ?_); (refine z09 rfl 56 rfl (.slice none 0 0) #[.slice none 0 0] 1 (by kernel_rfl) rfl ?_); intro w2 g4 he__ le_g4 lt_g4 hg__ hb__; have HG4 := Hd hg__; have hE__ := cU HB bup hb__; replace HB := ck HB hE__; clear hE__; clear hg__ hb__ he__; simp only [PT])
 | ((with_reducible refine sl 4 ?_); (refine z09 rfl 4 rfl (.bool false) #[.bool false] 1 (by kernel_rfl) rfl ?_); intro w3 g3 he__ le_g3 lt_g3 hg__ hb__; have HG3 := Hd hg__; (have l03 : w.heap.size ≤ g3 := Nat.le_trans HB.out.size le_g3); (have l43 : g4 ≠ g3 := (by omega)); have hE__ := cU HB bup hb__; replace HB := ck HB hE__; replace HG4 := ck HG4 hE__; clear hE__; clear hg__ hb__ he__; simp only [PT])
 | ((with_reducible show wpList _ _ _ (⟨none, .store _ (.tmp 4) _, _, _, _, _⟩ :: _) _ _); (refine z0c rfl 4 (.tmp 4) (.const (.bool false)) rfl g3 0 (.bool false) rfl rfl rfl HG3.out (show (0 : Nat) < 1 by decide) (by kernel_rfl) #[.bool false] rfl ?_); intro w4 hs__ hr__; replace HB := cg HB bup hr__ l03; replace HG4 := cg HG4 bup hr__ l43; clear HG3; have HG3 := Hd hs__; clear hs__ hr__; simp only [PT])
 | (go_at_call 64; (refine (walk_any (some ⟨g3, 0, none⟩) ad n c _).mono ?_); intro e w5 hr; obtain ⟨Br, Bl, rfl, hBr, hBl, hb__⟩ := hr; have hE__ := cU HB bup hb__; replace HB := ck HB hE__; replace HG3 := ck HG3 hE__; replace HG4 := ck HG4 hE__; clear hE__; have HBr := Hd hBr; have HBl := Hd hBl; clear hb__ hBr hBl))
  refine (wpIn_wide (n := 8)).1 ?_
  have hsz := HB.out.size
  have lt5 := lt_of_block HG3.out
  have lt4 := lt_of_block HG4.out
  refine z2m rfl (by omega) (gf := 88) (lb := #[.pointer (some ⟨Br, 0, none⟩), .pointer (some ⟨Bl, 0, none⟩)]) rfl trivial (enters_of Try.func88 (by kernel_rfl) rfl)
    (walk_seq _ (by omega) Br Bl g3 ad n c vs hn w w5 HV.out HALL.out HB.out l03 HBr.out HBl.out ⟨_, HG3.out⟩) KpW.trans (KpW.put hsz) (Below.refl _ _) (fun _ => rfl)
    (fun m A B k ob st hk hkm _ hA => st.other hkm (by omega) hA)
    (IFr g4 w5.heap.size w) (ownFrom_fr _ _ _ _ hsz) (fun s A B m hm hi st => ?hst)
    (ownFrom_cells _ g3 _ _ _) ⟨none, 0, [], HG4.out, World.ownsRow_nil _ _ _ _, fun v hv => (by simp at hv), rfl, Nat.le_refl _, HB.out, Nat.le_refl _⟩ (AxPut fun x b6 b7 => #[.slice ad n c, undef, .slice none 0 0, .pointer (some ⟨g4, 0, none⟩), .pointer (some ⟨g3, 0, none⟩), .pointer (some ⟨b6, 0, none⟩), .pointer (some ⟨b7, 0, none⟩), undef, undef, undef, .slice ad n c, .func (.func 88) #[] #[.pointer (some ⟨Br, 0, none⟩), .pointer (some ⟨Bl, 0, none⟩)], .agg x.1.cells.toArray, .agg x.2.cells.toArray, undef, undef, undef, undef, undef, undef, undef, undef, undef, undef, undef, undef, undef, undef, undef, undef, undef, undef, undef, undef, undef, undef, undef, undef, undef, undef, undef, undef, undef, undef, undef, undef, undef, undef, undef, undef, undef, undef, undef, undef, undef, undef, undef, undef, undef]) (fun x a' => ownFrom_ax _ _ _ _) ?assign ?body ?done
  case hst =>
    obtain ⟨ad', c', fs, h1, h2, h3, h4, h5, h6, h7⟩ := hi
    exact ⟨ad', c', fs, st.other (by omega) l43 h1, st.row h2 (by omega) (by decide), st.frs h3 (by omega), h4, h5, st.keeps h6 (Nat.le_refl _) l03 (Nat.le_trans hsz hm), Nat.le_trans h7 st.choose_spec.1.size⟩
  case assign =>
    intro l pre x W K hI hP hK
    simp only [encX, fold2]
    simp only [PT]
    have hF : ∀ f, (Fence.wide.inRound l).fn f := fun _ => trivial
    obtain ⟨ad', c', fs, h1, h2, hfs, hval, hlen, h3, h4⟩ := hI
    have HE := Hd (Below.refl W.heap.size W)
    have HP := Hd hP
    have H1 := Hd h1
    have H2 := Hd h2
    have H3 := Hd h3
    have HF := Hd hfs
    have HVAL := Hd hval
    have HK := Hd hK
    have hszW : w.heap.size ≤ W.heap.size := h3.size
    clear hP h1 h2 h3 hK hfs hval
    gi_wp2_with (first
 | ((with_reducible refine slI 5 ?_); (refine z1k hF rfl rfl 83 rfl (.tmp 5) (.tmp 12) rfl x.1.cells.toArray _ HSZ.out rfl (z0v _) (fun _ => rfl) (fun _ => rfl) ?_); intro w6 g6 le_g6 lt_g6 hg__ hb__; have HG6 := Hd hg__; replace HE := ck HE hb__; replace HP := ck HP hb__; replace H1 := ck H1 hb__; replace H2 := ck H2 hb__; replace H3 := ck H3 hb__; replace HF := ck HF hb__; clear hg__ hb__; simp only [PT])
 | ((with_reducible refine slI 6 ?_); (refine z1k hF rfl rfl 27 rfl (.tmp 6) (.tmp 13) rfl x.2.cells.toArray _ HZI.out rfl (z0h _) (fun _ => rfl) (fun _ => rfl) ?_); intro w7 g7 le_g7 lt_g7 hg__ hb__; have HG7 := Hd hg__; replace HE := ck HE hb__; replace HP := ck HP hb__; replace H1 := ck H1 hb__; replace H2 := ck H2 hb__; replace H3 := ck H3 hb__; replace HF := ck HF hb__; replace HG6 := ck HG6 hb__; clear hg__ hb__; simp only [PT]))
    exact HK.out _ _ (KeepsFrom.below HE.out) (KpW.of_below HE.out hszW) ⟨ad', c', fs, H1.out, H2.out, HF.out, HVAL.out, hlen, H3.out, Nat.le_trans h4 HE.out.size⟩ ⟨g6, g7, by simp, HG6.out, HG7.out, HP.out⟩
  case body =>
    rintro l pre x a' W hl ⟨ad', c', fs, h1, h2, hfs, hval, hlen, h3, h4⟩ ⟨b6, b7, rfl, h6, h7, hP⟩ hlt
    have hF : ∀ f, (Fence.wide.inRound l).fn f := fun _ => trivial
    have HE := Hd (Below.refl W.heap.size W)
    have hL32 : x.2.len < 4294967296 := hP.2.2.2.1.2.2.2
    have HP := Hd hP
    have H1 := Hd h1
    have H2 := Hd h2
    have H3 := Hd h3
    have HF := Hd hfs
    have HVAL := Hd hval
    have HG5 := Hd h6
    have HG6 := Hd h7
    have hszW : w.heap.size ≤ W.heap.size := h3.size
    clear hP h1 h2 h3 h6 h7 hfs hval
    by_cases hk3 : x.2.kind = 3
    · have HK := Hd hk3
      obtain ⟨L, hL⟩ : ∃ L, Hid (L = x.2.dl) := ⟨_, Hd rfl⟩
      clear hk3
      have hdn : x.2.dn = L.length := by rw [hL.out]; exact HP.out.2.1.1.len
      have HDN := Hd hdn
      have hd48 : x.2.dn ≤ 140737488351232 := by have := HP.out.2.2.1.sizes.2.2; omega
      clear hdn
      gi_wp2_with (first
 | ((with_reducible refine slI 15 ?_); (refine z0e hF rfl 3 (.tmp 14) rfl b6 0 rfl (.int .i64 x.1.sec) (hat HE HG5) rfl Try.underlying3 rfl ?_); simp only [PT])
 | ((with_reducible refine slI 17 ?_); (refine z0e hF rfl 3 (.tmp 16) rfl b7 5 rfl (.int .i64 x.2.iface) (hat HE HG6) rfl Try.underlying3 rfl ?_); simp only [PT])
 | ((with_reducible refine slI 19 ?_); (refine z0e hF rfl 23 (.tmp 18) rfl b7 6 rfl (.int .u64 (x.2.time : Int)) (hat HE HG6) rfl Try.underlying23 rfl ?_); simp only [PT])
 | ((with_reducible refine slI 21 ?_); (refine z0e hF rfl 22 (.tmp 20) rfl b7 7 rfl (.int .u32 (x.2.len : Int)) (hat HE HG6) rfl Try.underlying22 rfl ?_); simp only [PT])
 | ((with_reducible refine slI 7 ?_); (refine z1k hF rfl rfl 59 rfl (.tmp 7) (.tmp 23) rfl (⟨x.1.sec, x.2.iface, x.2.time, x.2.len, none, 0, 0, []⟩ : FrV).cells.toArray _ fr_zero rfl (fr_all _) (fun _ => rfl) (fun _ => rfl) ?_); intro w7 g7 le_g7 lt_g7 hg__ hb__; have HG7 := Hd hg__; have l7 : W.heap.size ≤ g7 := Nat.le_trans HE.out.size le_g7; replace HE := ck HE hb__; clear hg__ hb__; simp only [PT])
 | ((with_reducible refine slI 25 ?_); (refine z0e hF rfl 3 (.tmp 24) rfl b7 0 rfl (.int .i64 3) (hat HE HG6) (show x.2.cells.toArray[0]? = some (.int .i64 3) from (by rw [← HK.out]; rfl)) Try.underlying3 rfl ?_); simp only [PT])
 | ((with_reducible refine slI 29 ?_); (refine z0e hF rfl 24 (.tmp 28) rfl b7 8 rfl (.slice x.2.dad x.2.dn x.2.dc) (hat HE HG6) rfl Try.underlying24 rfl ?_); simp only [PT])
 | (gi_at_call 68; (refine (callsIn_wide.2 (z2d x.2.dad x.2.dn x.2.dc L _ (by rw [hL.out]; exact HP.out.2.1.1.below HE.out) hd48)).mono ?_); intro e w9 hr; unfold RetB at hr; obtain ⟨adD, cD, rfl, hoD, hb__⟩ := hr; have hq__ := World.ownsRow.mono hoD (Nat.le_trans h4 HE.out.size); have HD := Hd hq__; replace HE := ck HE hb__; replace HG7 := ck HG7 hb__; clear hb__ hoD hq__)
 | ((with_reducible show wpListIn _ _ _ _ _ (⟨none, .store _ (.tmp 31) _, _, _, _, _⟩ :: _) _ _); (refine z1j hF rfl 24 (.tmp 31) (.tmp 30) rfl g7 4 (.slice adD L.length cD) rfl rfl rfl HG7.out (show (4 : Nat) < 5 by decide) (by kernel_rfl) (⟨x.1.sec, x.2.iface, x.2.time, x.2.len, adD, L.length, cD, L⟩ : FrV).cells.toArray rfl ?_); intro w10 hs__ hr__; (replace HD := Hd (own_write HD.out hr__ HG7.out (by decide))); (replace HE := Hd (HE.out.grown hr__ HE.out.size (fun k e => (by cases e; exact l7)))); clear HG7; have HG7 := Hd hs__; clear hs__ hr__; simp only [PT])
 | ((with_reducible refine slI 54 ?_); (refine z0e hF rfl 56 (.tmp 3) rfl g4 0 rfl (.slice ad' fs.length c') (hat HE H1) rfl Try.underlying56 rfl ?_); simp only [PT])
 | ((with_reducible refine slI 55 ?_); (refine z1b hF rfl 59 (.tmp 7) rfl g7 0 rfl (⟨x.1.sec, x.2.iface, x.2.time, x.2.len, adD, L.length, cD, L⟩ : FrV).cells _ (z00 HG7.out) Try.underlying59 rfl fr_info ?_); simp only [PT])
 | ((with_reducible refine slI 56 ?_); (refine wpLI_lit1 hF rfl 56 59 (.tmp 55) rfl (⟨x.1.sec, x.2.iface, x.2.time, x.2.len, adD, L.length, cD, L⟩ : FrV).cells.toArray _ rfl 5 Try.underlying56 fr_zero (by omega) (by omega) (fill_frame (⟨x.1.sec, x.2.iface, x.2.time, x.2.len, adD, L.length, cD, L⟩ : FrV)) ?_); intro w11 gL le_gL lt_gL hg__ hb__; have HL := Hd hg__; replace HE := ck HE hb__; replace HD := ck HD hb__; clear hg__ hb__; simp only [PT])
 | ((with_reducible refine slI 57 ?_); (refine z38 hF elF rfl (.tmp 54) (.tmp 56) rfl w5.heap.size rfl (z08 H2.out HE.out) rfl (z35 (cs := (⟨x.1.sec, x.2.iface, x.2.time, x.2.len, adD, L.length, cD, L⟩ : FrV).cells) HL.out) (FrV.one (⟨x.1.sec, x.2.iface, x.2.time, x.2.len, adD, L.length, cD, L⟩ : FrV)) (by unfold maxLen; omega) (by omega) (Nat.le_trans h4 HE.out.size) ?_); intro ad10 c10 w10 ho10 hg10__; have HO2 := z08 H2.out HE.out; have HQ := Hd (KpW.own HO2 hg10__ (Nat.le_trans hszW HE.out.size) hsz (by decide)); have HQ2 := Hd (KeepsFrom.own (n₀ := w5.heap.size) HO2 hg10__); have HO := Hd ho10; (have H1n := Hd ((hg10__.block g4 (lt_of_block (hat HE H1)) (fun e => (by have := z07 HO2 g4 e.symm; omega))).trans (hat HE H1))); (have H3n := Hd ((H3.out.trans (HE.out.mono hszW)).grown hg10__ (H3.out.trans (HE.out.mono hszW)).size (fun k e => Nat.le_trans hsz (z07 HO2 k e)))); (have HFn := Hd (fun v hv => ((z2f (show w11.ownsRow w5.heap.size 5 1 (.slice v.ad v.n v.c) v.n (BV v.l) from z2v HF.out HE.out v hv) HO2 hg10__ (by decide)) : OwnF w5.heap.size w10 v))); (replace HD := Hd (z2f HD.out HO2 hg10__ (by decide))); clear hg10__ ho10 HO2; simp only [PT])
 | ((with_reducible show wpListIn _ _ _ _ _ (⟨none, .store _ (.tmp 3) _, _, _, _, _⟩ :: _) _ _); (refine z1j hF rfl 56 (.tmp 3) (.tmp 57) rfl g4 0 (.slice ad10 (fs.length + 1) c10) rfl rfl rfl H1n.out (show (0 : Nat) < 1 by decide) (by kernel_rfl) #[.slice ad10 (fs.length + 1) c10] rfl ?_); intro w12 hs__ hr__; have HS := Hd hs__; have HR := Hd hr__; clear hs__ hr__; simp only [PT]))
      exact fr_close HE.out hszW hsz le_g4 lt4 hlen h4 HVAL.out HQ.out HQ2.out (⟨x.1.sec, x.2.iface, x.2.time, x.2.len, adD, L.length, cD, L⟩ : FrV) (by unfold frameS; rw [if_pos (show x.2.val.kind = 3 from HK.out), hL.out]; rfl) HO.out H1n.out H3n.out HFn.out HD.out HS.out HR.out
    · by_cases hk4 : x.2.kind = 4
      · have HK := Hd hk4
        have hsn := HP.out.2.2.2.2.1 hk4
        obtain ⟨gu, cur, hA, hGU, hCU, h0n⟩ := st_first HP.out.1 hsn
        obtain ⟨S, hS⟩ : ∃ S, Hid (S = x.1.sn.headD 0) := ⟨_, Hd rfl⟩
        have hS32 : S < 4294967296 := by
          rw [hS.out]
          cases hq : x.1.sn with
          | nil => rw [hq] at hsn; simp at hsn
          | cons a t => exact HP.out.2.2.2.2.2 a (by rw [hq]; simp)
        rw [← hS.out] at hCU
        have HA := Hd hA
        have HGU := Hd hGU
        have HCU := Hd hCU
        have hd48 : x.2.dn ≤ 1100000 := HP.out.2.2.1.sizes.2.2
        have hdc := Bs.le HP.out.2.1.1
        have HDL := Hd HP.out.2.1.1.len
        have hK3 : ¬ x.2.kind = 3 := by omega
        have HK3 := Hd hK3
        clear hk3 hk4 hK3 hsn hA hGU hCU
        have HKC := Hd (show x.2.cells.toArray[0]? = some (.int .i64 4) from (by rw [← HK.out]; rfl))
        have HSC := Hd (show x.1.cells.toArray[2]? = some (.slice (some ⟨gu, 0, none⟩) x.1.n x.1.c) from (by rw [← HA.out]; rfl))
        by_cases hS0 : S = 0
        · subst hS0
          obtain ⟨L, hL⟩ : ∃ L, Hid ((x.2.dl.drop 0).take x.2.dn = L) := ⟨_, Hd rfl⟩
          have hLL : x.2.dn = L.length := (by rw [← hL.out, List.drop_zero, List.take_of_length_le (Nat.le_of_eq HDL.out.symm)]; exact HDL.out)
          have HLL := Hd hLL
          clear hLL
          gi_wp2_with (first
 | ((with_reducible refine slI 15 ?_); (refine z0e hF rfl 3 (.tmp 14) rfl b6 0 rfl (.int .i64 x.1.sec) (hat HE HG5) rfl Try.underlying3 rfl ?_); simp only [PT])
 | ((with_reducible refine slI 17 ?_); (refine z0e hF rfl 3 (.tmp 16) rfl b7 5 rfl (.int .i64 x.2.iface) (hat HE HG6) rfl Try.underlying3 rfl ?_); simp only [PT])
 | ((with_reducible refine slI 19 ?_); (refine z0e hF rfl 23 (.tmp 18) rfl b7 6 rfl (.int .u64 (x.2.time : Int)) (hat HE HG6) rfl Try.underlying23 rfl ?_); simp only [PT])
 | ((with_reducible refine slI 21 ?_); (refine z0e hF rfl 22 (.tmp 20) rfl b7 7 rfl (.int .u32 (x.2.len : Int)) (hat HE HG6) rfl Try.underlying22 rfl ?_); simp only [PT])
 | ((with_reducible refine slI 7 ?_); (refine z1k hF rfl rfl 59 rfl (.tmp 7) (.tmp 23) rfl (⟨x.1.sec, x.2.iface, x.2.time, x.2.len, none, 0, 0, []⟩ : FrV).cells.toArray _ fr_zero rfl (fr_all _) (fun _ => rfl) (fun _ => rfl) ?_); intro w7 g7 le_g7 lt_g7 hg__ hb__; have HG7 := Hd hg__; have l7 : W.heap.size ≤ g7 := Nat.le_trans HE.out.size le_g7; replace HE := ck HE hb__; clear hg__ hb__; simp only [PT])
 | ((with_reducible refine slI 25 ?_); (refine z0e hF rfl 3 (.tmp 24) rfl b7 0 rfl (.int .i64 4) (hat HE HG6) HKC.out Try.underlying3 rfl ?_); simp only [PT])
 | ((with_reducible refine slI 35 ?_); (refine z0e hF rfl 24 (.tmp 34) rfl b7 8 rfl (.slice x.2.dad x.2.dn x.2.dc) (hat HE HG6) rfl Try.underlying24 rfl ?_); simp only [PT])
 | ((with_reducible refine slI 39 ?_); (refine z0e hF rfl 81 (.tmp 38) rfl b6 2 rfl (.slice (some ⟨gu, 0, none⟩) x.1.n x.1.c) (hat HE HG5) HSC.out Try.underlying81 rfl ?_); simp only [PT])
 | ((with_reducible refine slI 41 ?_); (refine z0e hF rfl 22 (.tmp 40) rfl gu 0 rfl (.int .u32 ((0 : Nat) : Int)) (hat HE HGU) HCU.out Try.underlying22 rfl ?_); simp only [PT])
 | ((with_reducible refine slI 49 ?_); (refine z0e hF rfl 24 (.tmp 48) rfl b7 8 rfl (.slice x.2.dad x.2.dn x.2.dc) (hat HE HG6) rfl Try.underlying24 rfl ?_); simp only [PT])
 | ((with_reducible refine slI 51 ?_); (refine wpLI_sliceG hF elB rfl (.tmp 49) none (some (.tmp 50)) rfl rfl 0 x.2.dn (.inl ⟨rfl, rfl⟩) (.inr ⟨.u64, rfl⟩) (by omega) (by omega) x.2.dn x.2.dc (by omega) (by omega) ?_); intro adS hadS; have HSL := Hd (Bs.partG (HP.out.2.1.1.below HE.out) 0 x.2.dn x.2.dn x.2.dc (by omega) (by omega) (by omega) (by omega) adS hadS L hL.out); clear hadS; simp only [PT])
 | (gi_at_call 68; (refine (callsIn_wide.2 (z2d adS x.2.dn x.2.dc L _ HSL.out (by omega))).mono ?_); intro e w9 hr; unfold RetB at hr; obtain ⟨adD, cD, rfl, hoD, hb__⟩ := hr; have hq__ := World.ownsRow.mono hoD (Nat.le_trans h4 HE.out.size); have HD := Hd hq__; replace HE := ck HE hb__; replace HG7 := ck HG7 hb__; clear hb__ hoD hq__)
 | ((with_reducible show wpListIn _ _ _ _ _ (⟨none, .store _ (.tmp 53) _, _, _, _, _⟩ :: _) _ _); (refine z1j hF rfl 24 (.tmp 53) (.tmp 52) rfl g7 4 (.slice adD L.length cD) rfl rfl rfl HG7.out (show (4 : Nat) < 5 by decide) (by kernel_rfl) (⟨x.1.sec, x.2.iface, x.2.time, x.2.len, adD, L.length, cD, L⟩ : FrV).cells.toArray rfl ?_); intro w10 hs__ hr__; (replace HD := Hd (own_write HD.out hr__ HG7.out (by decide))); (replace HE := Hd (HE.out.grown hr__ HE.out.size (fun k e => (by cases e; exact l7)))); clear HG7; have HG7 := Hd hs__; clear hs__ hr__; simp only [PT])
 | ((with_reducible refine slI 54 ?_); (refine z0e hF rfl 56 (.tmp 3) rfl g4 0 rfl (.slice ad' fs.length c') (hat HE H1) rfl Try.underlying56 rfl ?_); simp only [PT])
 | ((with_reducible refine slI 55 ?_); (refine z1b hF rfl 59 (.tmp 7) rfl g7 0 rfl (⟨x.1.sec, x.2.iface, x.2.time, x.2.len, adD, L.length, cD, L⟩ : FrV).cells _ (z00 HG7.out) Try.underlying59 rfl fr_info ?_); simp only [PT])
 | ((with_reducible refine slI 56 ?_); (refine wpLI_lit1 hF rfl 56 59 (.tmp 55) rfl (⟨x.1.sec, x.2.iface, x.2.time, x.2.len, adD, L.length, cD, L⟩ : FrV).cells.toArray _ rfl 5 Try.underlying56 fr_zero (by omega) (by omega) (fill_frame (⟨x.1.sec, x.2.iface, x.2.time, x.2.len, adD, L.length, cD, L⟩ : FrV)) ?_); intro w11 gL le_gL lt_gL hg__ hb__; have HL := Hd hg__; replace HE := ck HE hb__; replace HD := ck HD hb__; clear hg__ hb__; simp only [PT])
 | ((with_reducible refine slI 57 ?_); (refine z38 hF elF rfl (.tmp 54) (.tmp 56) rfl w5.heap.size rfl (z08 H2.out HE.out) rfl (z35 (cs := (⟨x.1.sec, x.2.iface, x.2.time, x.2.len, adD, L.length, cD, L⟩ : FrV).cells) HL.out) (FrV.one (⟨x.1.sec, x.2.iface, x.2.time, x.2.len, adD, L.length, cD, L⟩ : FrV)) (by unfold maxLen; omega) (by omega) (Nat.le_trans h4 HE.out.size) ?_); intro ad10 c10 w10 ho10 hg10__; have HO2 := z08 H2.out HE.out; have HQ := Hd (KpW.own HO2 hg10__ (Nat.le_trans hszW HE.out.size) hsz (by decide)); have HQ2 := Hd (KeepsFrom.own (n₀ := w5.heap.size) HO2 hg10__); have HO := Hd ho10; (have H1n := Hd ((hg10__.block g4 (lt_of_block (hat HE H1)) (fun e => (by have := z07 HO2 g4 e.symm; omega))).trans (hat HE H1))); (have H3n := Hd ((H3.out.trans (HE.out.mono hszW)).grown hg10__ (H3.out.trans (HE.out.mono hszW)).size (fun k e => Nat.le_trans hsz (z07 HO2 k e)))); (have HFn := Hd (fun v hv => ((z2f (show w11.ownsRow w5.heap.size 5 1 (.slice v.ad v.n v.c) v.n (BV v.l) from z2v HF.out HE.out v hv) HO2 hg10__ (by decide)) : OwnF w5.heap.size w10 v))); (replace HD := Hd (z2f HD.out HO2 hg10__ (by decide))); clear hg10__ ho10 HO2; simp only [PT])
 | ((with_reducible show wpListIn _ _ _ _ _ (⟨none, .store _ (.tmp 3) _, _, _, _, _⟩ :: _) _ _); (refine z1j hF rfl 56 (.tmp 3) (.tmp 57) rfl g4 0 (.slice ad10 (fs.length + 1) c10) rfl rfl rfl H1n.out (show (0 : Nat) < 1 by decide) (by kernel_rfl) #[.slice ad10 (fs.length + 1) c10] rfl ?_); intro w12 hs__ hr__; have HS := Hd hs__; have HR := Hd hr__; clear hs__ hr__; simp only [PT]))
          exact fr_close HE.out hszW hsz le_g4 lt4 hlen h4 HVAL.out HQ.out HQ2.out (⟨x.1.sec, x.2.iface, x.2.time, x.2.len, adD, L.length, cD, L⟩ : FrV) (fr4 x HK3.out HK.out 0 hS.out _ L hL.out (.inl ⟨rfl, Nat.le_of_eq HDL.out.symm⟩) _ _ _) HO.out H1n.out H3n.out HFn.out HD.out HS.out HR.out
        · by_cases hlt2 : S < x.2.dn
          · obtain ⟨L, hL⟩ : ∃ L, Hid ((x.2.dl.drop 0).take S = L) := ⟨_, Hd rfl⟩
            gi_wp2_with (first
 | ((with_reducible refine slI 15 ?_); (refine z0e hF rfl 3 (.tmp 14) rfl b6 0 rfl (.int .i64 x.1.sec) (hat HE HG5) rfl Try.underlying3 rfl ?_); simp only [PT])
 | ((with_reducible refine slI 17 ?_); (refine z0e hF rfl 3 (.tmp 16) rfl b7 5 rfl (.int .i64 x.2.iface) (hat HE HG6) rfl Try.underlying3 rfl ?_); simp only [PT])
 | ((with_reducible refine slI 19 ?_); (refine z0e hF rfl 23 (.tmp 18) rfl b7 6 rfl (.int .u64 (x.2.time : Int)) (hat HE HG6) rfl Try.underlying23 rfl ?_); simp only [PT])
 | ((with_reducible refine slI 21 ?_); (refine z0e hF rfl 22 (.tmp 20) rfl b7 7 rfl (.int .u32 (x.2.len : Int)) (hat HE HG6) rfl Try.underlying22 rfl ?_); simp only [PT])
 | ((with_reducible refine slI 7 ?_); (refine z1k hF rfl rfl 59 rfl (.tmp 7) (.tmp 23) rfl (⟨x.1.sec, x.2.iface, x.2.time, x.2.len, none, 0, 0, []⟩ : FrV).cells.toArray _ fr_zero rfl (fr_all _) (fun _ => rfl) (fun _ => rfl) ?_); intro w7 g7 le_g7 lt_g7 hg__ hb__; have HG7 := Hd hg__; have l7 : W.heap.size ≤ g7 := Nat.le_trans HE.out.size le_g7; replace HE := ck HE hb__; clear hg__ hb__; simp only [PT])
 | ((with_reducible refine slI 25 ?_); (refine z0e hF rfl 3 (.tmp 24) rfl b7 0 rfl (.int .i64 4) (hat HE HG6) HKC.out Try.underlying3 rfl ?_); simp only [PT])
 | ((with_reducible refine slI 35 ?_); (refine z0e hF rfl 24 (.tmp 34) rfl b7 8 rfl (.slice x.2.dad x.2.dn x.2.dc) (hat HE HG6) rfl Try.underlying24 rfl ?_); simp only [PT])
 | ((with_reducible refine slI 39 ?_); (refine z0e hF rfl 81 (.tmp 38) rfl b6 2 rfl (.slice (some ⟨gu, 0, none⟩) x.1.n x.1.c) (hat HE HG5) HSC.out Try.underlying81 rfl ?_); simp only [PT])
 | ((with_reducible refine slI 41 ?_); (refine z0e hF rfl 22 (.tmp 40) rfl gu 0 rfl (.int .u32 (S : Int)) (hat HE HGU) HCU.out Try.underlying22 rfl ?_); simp only [PT])
 | ((with_reducible refine slI 49 ?_); (refine z0e hF rfl 24 (.tmp 48) rfl b7 8 rfl (.slice x.2.dad x.2.dn x.2.dc) (hat HE HG6) rfl Try.underlying24 rfl ?_); simp only [PT])
 | ((with_reducible refine slI 51 ?_); (refine wpLI_sliceG hF elB rfl (.tmp 49) none (some (.tmp 50)) rfl rfl 0 S (.inl ⟨rfl, rfl⟩) (.inr ⟨.u64, rfl⟩) (by omega) (by omega) S x.2.dc (by omega) (by omega) ?_); intro adS hadS; have HSL := Hd (Bs.partG (HP.out.2.1.1.below HE.out) 0 S S x.2.dc (by omega) (by omega) (by omega) (by omega) adS hadS L hL.out); clear hadS; simp only [PT])
 | (gi_at_call 68; (refine (callsIn_wide.2 (z2d adS S x.2.dc L _ HSL.out (by omega))).mono ?_); intro e w9 hr; unfold RetB at hr; obtain ⟨adD, cD, rfl, hoD, hb__⟩ := hr; have hq__ := World.ownsRow.mono hoD (Nat.le_trans h4 HE.out.size); have HD := Hd hq__; replace HE := ck HE hb__; replace HG7 := ck HG7 hb__; clear hb__ hoD hq__)
 | ((with_reducible show wpListIn _ _ _ _ _ (⟨none, .store _ (.tmp 53) _, _, _, _, _⟩ :: _) _ _); (refine z1j hF rfl 24 (.tmp 53) (.tmp 52) rfl g7 4 (.slice adD L.length cD) rfl rfl rfl HG7.out (show (4 : Nat) < 5 by decide) (by kernel_rfl) (⟨x.1.sec, x.2.iface, x.2.time, x.2.len, adD, L.length, cD, L⟩ : FrV).cells.toArray rfl ?_); intro w10 hs__ hr__; (replace HD := Hd (own_write HD.out hr__ HG7.out (by decide))); (replace HE := Hd (HE.out.grown hr__ HE.out.size (fun k e => (by cases e; exact l7)))); clear HG7; have HG7 := Hd hs__; clear hs__ hr__; simp only [PT])
 | ((with_reducible refine slI 54 ?_); (refine z0e hF rfl 56 (.tmp 3) rfl g4 0 rfl (.slice ad' fs.length c') (hat HE H1) rfl Try.underlying56 rfl ?_); simp only [PT])
 | ((with_reducible refine slI 55 ?_); (refine z1b hF rfl 59 (.tmp 7) rfl g7 0 rfl (⟨x.1.sec, x.2.iface, x.2.time, x.2.len, adD, L.length, cD, L⟩ : FrV).cells _ (z00 HG7.out) Try.underlying59 rfl fr_info ?_); simp only [PT])
 | ((with_reducible refine slI 56 ?_); (refine wpLI_lit1 hF rfl 56 59 (.tmp 55) rfl (⟨x.1.sec, x.2.iface, x.2.time, x.2.len, adD, L.length, cD, L⟩ : FrV).cells.toArray _ rfl 5 Try.underlying56 fr_zero (by omega) (by omega) (fill_frame (⟨x.1.sec, x.2.iface, x.2.time, x.2.len, adD, L.length, cD, L⟩ : FrV)) ?_); intro w11 gL le_gL lt_gL hg__ hb__; have HL := Hd hg__; replace HE := ck HE hb__; replace HD := ck HD hb__; clear hg__ hb__; simp only [PT])
 | ((with_reducible refine slI 57 ?_); (refine z38 hF elF rfl (.tmp 54) (.tmp 56) rfl w5.heap.size rfl (z08 H2.out HE.out) rfl (z35 (cs := (⟨x.1.sec, x.2.iface, x.2.time, x.2.len, adD, L.length, cD, L⟩ : FrV).cells) HL.out) (FrV.one (⟨x.1.sec, x.2.iface, x.2.time, x.2.len, adD, L.length, cD, L⟩ : FrV)) (by unfold maxLen; omega) (by omega) (Nat.le_trans h4 HE.out.size) ?_); intro ad10 c10 w10 ho10 hg10__; have HO2 := z08 H2.out HE.out; have HQ := Hd (KpW.own HO2 hg10__ (Nat.le_trans hszW HE.out.size) hsz (by decide)); have HQ2 := Hd (KeepsFrom.own (n₀ := w5.heap.size) HO2 hg10__); have HO := Hd ho10; (have H1n := Hd ((hg10__.block g4 (lt_of_block (hat HE H1)) (fun e => (by have := z07 HO2 g4 e.symm; omega))).trans (hat HE H1))); (have H3n := Hd ((H3.out.trans (HE.out.mono hszW)).grown hg10__ (H3.out.trans (HE.out.mono hszW)).size (fun k e => Nat.le_trans hsz (z07 HO2 k e)))); (have HFn := Hd (fun v hv => ((z2f (show w11.ownsRow w5.heap.size 5 1 (.slice v.ad v.n v.c) v.n (BV v.l) from z2v HF.out HE.out v hv) HO2 hg10__ (by decide)) : OwnF w5.heap.size w10 v))); (replace HD := Hd (z2f HD.out HO2 hg10__ (by decide))); clear hg10__ ho10 HO2; simp only [PT])
 | ((with_reducible show wpListIn _ _ _ _ _ (⟨none, .store _ (.tmp 3) _, _, _, _, _⟩ :: _) _ _); (refine z1j hF rfl 56 (.tmp 3) (.tmp 57) rfl g4 0 (.slice ad10 (fs.length + 1) c10) rfl rfl rfl H1n.out (show (0 : Nat) < 1 by decide) (by kernel_rfl) #[.slice ad10 (fs.length + 1) c10] rfl ?_); intro w12 hs__ hr__; have HS := Hd hs__; have HR := Hd hr__; clear hs__ hr__; simp only [PT]))
            exact fr_close HE.out hszW hsz le_g4 lt4 hlen h4 HVAL.out HQ.out HQ2.out (⟨x.1.sec, x.2.iface, x.2.time, x.2.len, adD, L.length, cD, L⟩ : FrV) (fr4 x HK3.out HK.out S hS.out _ L hL.out (.inr ⟨hS0, .inl rfl⟩) _ _ _) HO.out H1n.out H3n.out HFn.out HD.out HS.out HR.out
          · obtain ⟨L, hL⟩ : ∃ L, Hid ((x.2.dl.drop 0).take x.2.dn = L) := ⟨_, Hd rfl⟩
            gi_wp2_with (first
 | ((with_reducible refine slI 15 ?_); (refine z0e hF rfl 3 (.tmp 14) rfl b6 0 rfl (.int .i64 x.1.sec) (hat HE HG5) rfl Try.underlying3 rfl ?_); simp only [PT])
 | ((with_reducible refine slI 17 ?_); (refine z0e hF rfl 3 (.tmp 16) rfl b7 5 rfl (.int .i64 x.2.iface) (hat HE HG6) rfl Try.underlying3 rfl ?_); simp only [PT])
 | ((with_reducible refine slI 19 ?_); (refine z0e hF rfl 23 (.tmp 18) rfl b7 6 rfl (.int .u64 (x.2.time : Int)) (hat HE HG6) rfl Try.underlying23 rfl ?_); simp only [PT])
 | ((with_reducible refine slI 21 ?_); (refine z0e hF rfl 22 (.tmp 20) rfl b7 7 rfl (.int .u32 (x.2.len : Int)) (hat HE HG6) rfl Try.underlying22 rfl ?_); simp only [PT])
 | ((with_reducible refine slI 7 ?_); (refine z1k hF rfl rfl 59 rfl (.tmp 7) (.tmp 23) rfl (⟨x.1.sec, x.2.iface, x.2.time, x.2.len, none, 0, 0, []⟩ : FrV).cells.toArray _ fr_zero rfl (fr_all _) (fun _ => rfl) (fun _ => rfl) ?_); intro w7 g7 le_g7 lt_g7 hg__ hb__; have HG7 := Hd hg__; have l7 : W.heap.size ≤ g7 := Nat.le_trans HE.out.size le_g7; replace HE := ck HE hb__; clear hg__ hb__; simp only [PT])
 | ((with_reducible refine slI 25 ?_); (refine z0e hF rfl 3 (.tmp 24) rfl b7 0 rfl (.int .i64 4) (hat HE HG6) HKC.out Try.underlying3 rfl ?_); simp only [PT])
 | ((with_reducible refine slI 35 ?_); (refine z0e hF rfl 24 (.tmp 34) rfl b7 8 rfl (.slice x.2.dad x.2.dn x.2.dc) (hat HE HG6) rfl Try.underlying24 rfl ?_); simp only [PT])
 | ((with_reducible refine slI 39 ?_); (refine z0e hF rfl 81 (.tmp 38) rfl b6 2 rfl (.slice (some ⟨gu, 0, none⟩) x.1.n x.1.c) (hat HE HG5) HSC.out Try.underlying81 rfl ?_); simp only [PT])
 | ((with_reducible refine slI 41 ?_); (refine z0e hF rfl 22 (.tmp 40) rfl gu 0 rfl (.int .u32 (S : Int)) (hat HE HGU) HCU.out Try.underlying22 rfl ?_); simp only [PT])
 | ((with_reducible refine slI 49 ?_); (refine z0e hF rfl 24 (.tmp 48) rfl b7 8 rfl (.slice x.2.dad x.2.dn x.2.dc) (hat HE HG6) rfl Try.underlying24 rfl ?_); simp only [PT])
 | ((with_reducible refine slI 51 ?_); (refine wpLI_sliceG hF elB rfl (.tmp 49) none (some (.tmp 50)) rfl rfl 0 x.2.dn (.inl ⟨rfl, rfl⟩) (.inr ⟨.u64, rfl⟩) (by omega) (by omega) x.2.dn x.2.dc (by omega) (by omega) ?_); intro adS hadS; have HSL := Hd (Bs.partG (HP.out.2.1.1.below HE.out) 0 x.2.dn x.2.dn x.2.dc (by omega) (by omega) (by omega) (by omega) adS hadS L hL.out); clear hadS; simp only [PT])
 | (gi_at_call 68; (refine (callsIn_wide.2 (z2d adS x.2.dn x.2.dc L _ HSL.out (by omega))).mono ?_); intro e w9 hr; unfold RetB at hr; obtain ⟨adD, cD, rfl, hoD, hb__⟩ := hr; have hq__ := World.ownsRow.mono hoD (Nat.le_trans h4 HE.out.size); have HD := Hd hq__; replace HE := ck HE hb__; replace HG7 := ck HG7 hb__; clear hb__ hoD hq__)
 | ((with_reducible show wpListIn _ _ _ _ _ (⟨none, .store _ (.tmp 53) _, _, _, _, _⟩ :: _) _ _); (refine z1j hF rfl 24 (.tmp 53) (.tmp 52) rfl g7 4 (.slice adD L.length cD) rfl rfl rfl HG7.out (show (4 : Nat) < 5 by decide) (by kernel_rfl) (⟨x.1.sec, x.2.iface, x.2.time, x.2.len, adD, L.length, cD, L⟩ : FrV).cells.toArray rfl ?_); intro w10 hs__ hr__; (replace HD := Hd (own_write HD.out hr__ HG7.out (by decide))); (replace HE := Hd (HE.out.grown hr__ HE.out.size (fun k e => (by cases e; exact l7)))); clear HG7; have HG7 := Hd hs__; clear hs__ hr__; simp only [PT])
 | ((with_reducible refine slI 54 ?_); (refine z0e hF rfl 56 (.tmp 3) rfl g4 0 rfl (.slice ad' fs.length c') (hat HE H1) rfl Try.underlying56 rfl ?_); simp only [PT])
 | ((with_reducible refine slI 55 ?_); (refine z1b hF rfl 59 (.tmp 7) rfl g7 0 rfl (⟨x.1.sec, x.2.iface, x.2.time, x.2.len, adD, L.length, cD, L⟩ : FrV).cells _ (z00 HG7.out) Try.underlying59 rfl fr_info ?_); simp only [PT])
 | ((with_reducible refine slI 56 ?_); (refine wpLI_lit1 hF rfl 56 59 (.tmp 55) rfl (⟨x.1.sec, x.2.iface, x.2.time, x.2.len, adD, L.length, cD, L⟩ : FrV).cells.toArray _ rfl 5 Try.underlying56 fr_zero (by omega) (by omega) (fill_frame (⟨x.1.sec, x.2.iface, x.2.time, x.2.len, adD, L.length, cD, L⟩ : FrV)) ?_); intro w11 gL le_gL lt_gL hg__ hb__; have HL := Hd hg__; replace HE := ck HE hb__; replace HD := ck HD hb__; clear hg__ hb__; simp only [PT])
 | ((with_reducible refine slI 57 ?_); (refine z38 hF elF rfl (.tmp 54) (.tmp 56) rfl w5.heap.size rfl (z08 H2.out HE.out) rfl (z35 (cs := (⟨x.1.sec, x.2.iface, x.2.time, x.2.len, adD, L.length, cD, L⟩ : FrV).cells) HL.out) (FrV.one (⟨x.1.sec, x.2.iface, x.2.time, x.2.len, adD, L.length, cD, L⟩ : FrV)) (by unfold maxLen; omega) (by omega) (Nat.le_trans h4 HE.out.size) ?_); intro ad10 c10 w10 ho10 hg10__; have HO2 := z08 H2.out HE.out; have HQ := Hd (KpW.own HO2 hg10__ (Nat.le_trans hszW HE.out.size) hsz (by decide)); have HQ2 := Hd (KeepsFrom.own (n₀ := w5.heap.size) HO2 hg10__); have HO := Hd ho10; (have H1n := Hd ((hg10__.block g4 (lt_of_block (hat HE H1)) (fun e => (by have := z07 HO2 g4 e.symm; omega))).trans (hat HE H1))); (have H3n := Hd ((H3.out.trans (HE.out.mono hszW)).grown hg10__ (H3.out.trans (HE.out.mono hszW)).size (fun k e => Nat.le_trans hsz (z07 HO2 k e)))); (have HFn := Hd (fun v hv => ((z2f (show w11.ownsRow w5.heap.size 5 1 (.slice v.ad v.n v.c) v.n (BV v.l) from z2v HF.out HE.out v hv) HO2 hg10__ (by decide)) : OwnF w5.heap.size w10 v))); (replace HD := Hd (z2f HD.out HO2 hg10__ (by decide))); clear hg10__ ho10 HO2; simp only [PT])
 | ((with_reducible show wpListIn _ _ _ _ _ (⟨none, .store _ (.tmp 3) _, _, _, _, _⟩ :: _) _ _); (refine z1j hF rfl 56 (.tmp 3) (.tmp 57) rfl g4 0 (.slice ad10 (fs.length + 1) c10) rfl rfl rfl H1n.out (show (0 : Nat) < 1 by decide) (by kernel_rfl) #[.slice ad10 (fs.length + 1) c10] rfl ?_); intro w12 hs__ hr__; have HS := Hd hs__; have HR := Hd hr__; clear hs__ hr__; simp only [PT]))
            exact fr_close HE.out hszW hsz le_g4 lt4 hlen h4 HVAL.out HQ.out HQ2.out (⟨x.1.sec, x.2.iface, x.2.time, x.2.len, adD, L.length, cD, L⟩ : FrV) (fr4 x HK3.out HK.out S hS.out _ L hL.out (.inr ⟨hS0, .inr ⟨Nat.le_of_eq HDL.out.symm, (by have := HDL.out; omega)⟩⟩) _ _ _) HO.out H1n.out H3n.out HFn.out HD.out HS.out HR.out
      · have HK3 := Hd hk3
        have HK4 := Hd hk4
        gi_wp2_with (first
 | ((with_reducible refine slI 15 ?_); (refine z0e hF rfl 3 (.tmp 14) rfl b6 0 rfl (.int .i64 x.1.sec) (hat HE HG5) rfl Try.underlying3 rfl ?_); simp only [PT])
 | ((with_reducible refine slI 17 ?_); (refine z0e hF rfl 3 (.tmp 16) rfl b7 5 rfl (.int .i64 x.2.iface) (hat HE HG6) rfl Try.underlying3 rfl ?_); simp only [PT])
 | ((with_reducible refine slI 19 ?_); (refine z0e hF rfl 23 (.tmp 18) rfl b7 6 rfl (.int .u64 (x.2.time : Int)) (hat HE HG6) rfl Try.underlying23 rfl ?_); simp only [PT])
 | ((with_reducible refine slI 21 ?_); (refine z0e hF rfl 22 (.tmp 20) rfl b7 7 rfl (.int .u32 (x.2.len : Int)) (hat HE HG6) rfl Try.underlying22 rfl ?_); simp only [PT])
 | ((with_reducible refine slI 7 ?_); (refine z1k hF rfl rfl 59 rfl (.tmp 7) (.tmp 23) rfl (⟨x.1.sec, x.2.iface, x.2.time, x.2.len, none, 0, 0, []⟩ : FrV).cells.toArray _ fr_zero rfl (fr_all _) (fun _ => rfl) (fun _ => rfl) ?_); intro w7 g7 le_g7 lt_g7 hg__ hb__; have HG7 := Hd hg__; have l7 : W.heap.size ≤ g7 := Nat.le_trans HE.out.size le_g7; replace HE := ck HE hb__; clear hg__ hb__; simp only [PT])
 | ((with_reducible refine slI 25 ?_); (refine z0e hF rfl 3 (.tmp 24) rfl b7 0 rfl (.int .i64 x.2.kind) (hat HE HG6) rfl Try.underlying3 rfl ?_); simp only [PT]))
        exact fr_same HE.out hszW hlen h4 HVAL.out (by unfold frameS; rw [if_neg (show ¬ x.2.val.kind = 3 from HK3.out), if_neg (show ¬ x.2.val.kind = 4 from HK4.out)]) H1.out H2.out H3.out HF.out
  case done =>
    rintro D xs W hD ⟨hx, hR⟩ ⟨ad', c', fs, h1, h2, hfs, hval, hlen, hb, h4⟩ hK
    have HX := Hd hx
    have H1 := Hd h1
    have HKD := Hd hK
    have hkk : ∀ (e : TypeId) (g : Nat) (cs : Array Value), w5.heap.size ≤ g → W.heap[g]? = some (.cells cs e (0, 0)) → (W.putObj D (.deferred none)).heap[g]? = some (.cells cs e (0, 0)) := fun e g cs _ hh => (World.putObj_heap_other (fun e => by rw [e] at hh; rw [hh] at hK; cases hK)).trans hh
    have HOW := Hd ((own_of h2 (hkk _)).mono hsz)
    have HOF := Hd (fun v hv => World.ownsRow.mono (show (W.putObj D (.deferred none)).ownsRow w5.heap.size 5 1 (.slice v.ad v.n v.c) v.n (BV v.l) from ownFs_of hfs (hkk _) v hv) hsz : ∀ v ∈ fs, OwnF w.heap.size (W.putObj D (.deferred none)) v)
    have HBW := Hd (hb.trans (belowK_b (w := w) (Nat.le_refl _) W D _ (.deferred none) (by omega) hK rfl rfl))
    have HAL : rightC (bvals vs) = true → fs.map FrV.val = framesR noS (bvals vs) := fun h => by
      rw [hval, hx]
      exact framesC_walk _ _ (by simp [rightC] at h; exact h.1)
    have HLE : fs.length ≤ 1000000 := by
      have e1 := congrArg List.length hx
      rw [List.length_map] at e1
      have e2 := walkL_le noS (bvals vs)
      rw [z2k] at e2
      have e3 := Blks.len HV.out
      omega
    have HALH := Hd HAL
    have HLEH := Hd HLE
    have hcg := cell_of_one h1
    clear hx h1 h2 hb hD hK hR hfs hval hlen hkk HAL HLE
    go_wp2
    refine ⟨by simp, .inl ⟨_, _, rfl, run_takeDeferred HKD.out, ?_⟩⟩
    exact ⟨_, results_tmp rfl _ _ _, HBW.out, ad', c', fs, rfl, HOW.out, HOF.out, HALH.out, HLEH.out⟩
theorem z0s {P : Program} {fn : Func} {R : Ending → World → Prop} {a : Act} {w : World} {t1 t4 : Tmp} {T : TypeId} {g : Nat} {cs : List Value} {d : TypeDesc}
    (h : fn.results = #[.tmp t1, .cell t4 T]) (hp : a.tmps.getD t4 undef = .pointer (some ⟨g, 0, none⟩)) (hc : w.rangeAt g 0 cs) (hu : P.underlying T = some d) (hd : d.isRow = true) (hi : (P.info? T).map (·.size) = some cs.length)
    (hdf : a.defers = []) (hR : R (.returned (.tuple #[a.tmps.getD t1 undef, .agg cs.toArray])) w) : bodyPost P fn R .ret a w := by
  refine bodyPost_ret ?_ hdf hR
  have hp' : a.tmps[t4]?.getD undef = .pointer (some ⟨g, 0, none⟩) := by simpa using hp
  simp [results, h, hp', asAddr, run_loadVar_mid w g 0 T cs d hc hu hd hi]
def ReadR (p : List PB × (Nat × Int)) (w : World) (e : Ending) (w' : World) : Prop :=
  ∃ ad c vs, e = .returned (.tuple #[.slice ad vs.length c, .agg #[.int .i64 ((p.2.1 : Nat) : Int), .int .i64 p.2.2]]) ∧ bvals vs = p.1 ∧ OwnBlks w.heap.size w' ad c vs ∧ Below w.heap.size w w'
theorem z26 (a b : Int) : (#[Value.int .i64 a, Value.int .i64 b]).all (·.oneCell') = true := by simp [Value.oneCell']
theorem z0u : (Try.prog.info? 49).map (·.size) = some 2 := by kernel_rfl
theorem z1d {w w' : World} {base k : Nat} {e ty : TypeId} {size : Nat} {ad : Option Addr} {n c : Nat} {xs : List Value} {cs : Array Value} {fz : Nat × Nat} (h : w.heap[k]? = some (.cells cs ty fz)) (ho : w.ownsRow base e size (.slice ad n c) n xs) (hg : w.grownBy w' (Value.ownBlock (.slice ad n c))) (hne : ty ≠ e) : w'.heap[k]? = some (.cells cs ty fz) :=
  (hg.block k (lt_of_block h) (fun e' => by
    rcases ho.2 with ⟨h0, _⟩ | ⟨r, cap, cur, hv, _, hr, _⟩
    · rw [h0] at e'; simp [Value.ownBlock] at e'
    · rw [hv] at e'
      simp [Value.ownBlock] at e'
      subst e'
      rw [hr] at h
      cases h
      exact hne rfl)).trans h
theorem bvals_snoc (vs : List BlkV) (v : BlkV) : bvals (vs ++ [v]) = bvals vs ++ [v.val] := by simp [bvals]
theorem pcRead_any (ad : Option Addr) (n c : Nat) (l : List UInt8) (w : World) (hs : Bs w ad n c l) (hn : n ≤ 1000000000) :
    Calls Try.prog 34 #[.slice ad n c] w (ReadR (readP l) w) := by
  have HB := Hd (Below.refl w.heap.size w)
  have HS := Hd hs
  have hc := hs.le
  have HL := Hd hs.len
  have HSI := Hd z3g
  have HBI := Hd z0d
  have HSZ := Hd st_zero
  have HZI := Hd z1s
  clear hs
  go_enter Try.func34, Try.ntmps34
  go_wp2_with (first
 | ((with_reducible refine sl 3 ?_); (refine z09 rfl 49 rfl (.agg #[.int .i64 0, .int .i64 0]) #[.int .i64 0, .int .i64 0] 2 (by kernel_rfl) rfl ?_); intro w3 g3 he__ le_g3 lt_g3 hg__ hb__; have HG3 := Hd hg__; have hE__ := cU HB bup hb__; replace HB := ck HB hE__; clear hE__; clear hg__ hb__ he__; simp only [PT])
 | ((with_reducible refine sl 5 ?_); (refine z13 rfl rfl 83 rfl (.tmp 5) (.tmp 13) rfl (⟨-1, false, none, 0, 0, []⟩ : StV).cells.toArray _ HSZ.out rfl (z0v _) (fun _ => rfl) (fun _ => rfl) ?_); intro w5 g5 le_g5 lt_g5 hg__ hb__; have HG5 := Hd hg__; (have l35 : g3 ≠ g5 := (by omega)); (have l05 : w.heap.size ≤ g5 := (Nat.le_trans HB.out.size le_g5)); have hE__ := cU HB bup hb__; replace HB := ck HB hE__; replace HG3 := ck HG3 hE__; clear hE__; clear hg__ hb__; simp only [PT]))
  have HRD : Hid (readC (l.length + 1) noS [] 0 (l.drop 0) = readP l) := Hd rfl
  have l53 : g3 < w5.heap.size := lt_of_block HG3.out
  have l03 : w.heap.size ≤ g3 := le_g3
  have l55 : g5 < w5.heap.size := lt_of_block HG5.out
  have hw5 : w.heap.size ≤ w5.heap.size := HB.out.size
  go_loopw [4, 6] (fun o i wr => ∃ (k f : Nat) (st : StV) (vs : List BlkV) (ad' : Option Addr) (c' : Nat), k ≤ n ∧ i = .int .i64 (k : Int) ∧ o = .slice ad' vs.length c' ∧ vs.length ≤ k ∧ n < k + f ∧ st.sec + 1 ≤ (k : Int) ∧ -1 ≤ st.sec ∧ st.n ≤ k ∧ w5.heap.size ≤ wr.heap.size ∧ Hid (readC f st.val (bvals vs) k (l.drop k) = readP l) ∧ Hid (OwnBlks w5.heap.size wr ad' c' vs) ∧ Hid (StV.mem wr st) ∧ Hid (wr.heap[g5]? = some (.cells st.cells.toArray 83 (0, 0))) ∧ Hid (wr.heap[g3]? = some (.cells #[.int .i64 0, .int .i64 0] 49 (0, 0))) ∧ Hid (Below w.heap.size w wr)) (fun _ i _ => n - (intOf i).toNat)
  case atStart => exact ⟨0, l.length + 1, ⟨-1, false, none, 0, 0, []⟩, [], none, 0, by omega, rfl, rfl, by simp, by have := HL.out; omega, by simp, by simp, by simp, Nat.le_refl _, HRD, Hd (OwnBlks.nil _ _), Hd (World.ownsRow_nil _ _ _ _), HG5, HG3, HB⟩
  case round =>
    obtain ⟨k, f, st, vs, ad', c', hk, rfl, rfl, hvk, hf, hsec1, hsec0, hstn, hwr, HRC, HO, HM, HG5r, HG3r, HBr⟩ := hrel
    clear HRD HG5 HG3 HB
    have HG5 := HG5r
    have HG3 := HG3r
    have HB := HBr
    clear HG5r HG3r HBr
    obtain ⟨f, rfl⟩ : ∃ f', f = f' + 1 := ⟨f - 1, by omega⟩
    by_cases hend : k = n ∧ 0 < k
    · obtain ⟨rfl, h0⟩ := hend
      have HRES : Hid (readP l = (bvals vs, (0, 0))) := Hd (by rw [← HRC.out]; exact read_end (List.drop_eq_nil_of_le (Nat.le_of_eq HL.out.symm)) h0)
      go_wp2_with (first
 | ((with_reducible show wpList _ _ _ (⟨none, .store _ (.tmp 3) _, _, _, _, _⟩ :: _) _ _); (refine z02 rfl 49 (.tmp 3) (.tmp 76) rfl g3 #[.int .i64 0, .int .i64 0] rfl rfl HG3.out z0u rfl (z26 _ _) ?_); intro w20 hs__ hr__; (replace HB := Hd (HB.out.grown hr__ HB.out.size (fun k e => (by cases e; exact l03)))); (replace HO := Hd (HO.out.write hr__ l53)); clear HG3; have HG3 := Hd hs__; clear hs__ hr__; simp only [PT]))
      refine z0s (cs := [.int .i64 0, .int .i64 0]) rfl rfl (z00 HG3.out) Try.underlying49 rfl z0u rfl ?_
      rw [HRES.out]
      exact ⟨ad', c', vs, rfl, rfl, HO.out.lower hw5, HB.out⟩
    · obtain ⟨m, hm⟩ : ∃ m, n - k = m := ⟨_, rfl⟩
      have hkn : k < n ∨ (k = 0 ∧ n = 0) := by omega
      obtain ⟨R, hR⟩ : ∃ R, Hid (l.drop k = R) := ⟨_, Hd rfl⟩
      have HRL : Hid (m = R.length) := Hd (by rw [← hR.out, List.length_drop, ← HL.out, hm])
      have HTK : Hid ((l.drop k).take m = R) := Hd (by rw [hR.out, HRL.out, List.take_length])
      have HNE : Hid (¬ (R = [] ∧ 0 < k)) := Hd (fun ⟨h1, h2⟩ => by have h3 := HRL.out; rw [h1] at h3; simp at h3; omega)
      have HRC2 : Hid (readC (f + 1) st.val (bvals vs) k R = readP l) := Hd (by rw [← hR.out]; exact HRC.out)
      clear hend HRC
      have HE := Hd (Below.refl wr.heap.size wr)
      by_cases hc1 : st.sec < 0 ∧ 12 ≤ m ∧ R.take 4 ≠ markB
      · obtain ⟨hs1, hm12, hmk⟩ := hc1
        have HRES : Hid (readP l = (bvals vs, (k, 3))) := Hd (by rw [← HRC2.out]; exact read_mark HNE.out ⟨hs1, by rw [← HRL.out]; exact hm12, hmk⟩)
        have s1 : ((strOf (R.take 4)).toList == ([10, 13, 13, 10] : List UInt8)) = false := by rw [z16]; simpa [markB] using hmk
        clear hmk
        go_wp2_with (first
 | ((with_reducible refine sl 24 ?_); (refine z0b elB rfl (.tmp 22) (some (.tmp 23)) none rfl rfl k n (.inr ⟨.i64, rfl⟩) (.inl ⟨rfl, rfl⟩) (by omega) (by omega) m (c - k) (by omega) rfl ?_); intro adR hadR; (have HSR := Hd (Bs.partG (HS.out.below HB.out) k n m (c - k) (by omega) (by omega) (by omega) rfl adR hadR R HTK.out)); clear hadR; simp only [PT])
 | ((with_reducible refine sl 26 ?_); (refine z01 rfl 3 (.tmp 25) rfl g5 0 rfl (.int .i64 st.sec) HG5.out rfl Try.underlying3 rfl ?_); simp only [PT])
 | ((with_reducible refine sl 35 ?_); (refine z0b elB rfl (.tmp 34) none (some (.const (.int .i64 4))) rfl rfl 0 4 (.inl ⟨rfl, rfl⟩) (.inr ⟨.i64, rfl⟩) (by omega) (by omega) 4 (c - k) rfl (by omega) ?_); intro ad4 had4; (have HS4 := Hd (Bs.partG HSR.out 0 4 4 (c - k) (by omega) (by omega) rfl (by omega) ad4 had4 (R.take 4) (by rw [List.drop_zero]))); clear had4; simp only [PT])
 | ((with_reducible refine sl 36 ?_); (refine z2h elB.1 (by kernel_rfl) (by kernel_rfl) rfl (.tmp 35) rfl rfl HS4.out ?_); simp only [PT])
 | ((with_reducible show wpList _ _ _ (⟨none, .store _ (.tmp 3) _, _, _, _, _⟩ :: _) _ _); (refine z02 rfl 49 (.tmp 3) (.tmp 41) rfl g3 #[.int .i64 (k : Int), .int .i64 3] rfl rfl HG3.out z0u rfl (z26 _ _) ?_); intro w20 hs__ hr__; (replace HB := Hd (HB.out.grown hr__ HB.out.size (fun k e => (by cases e; exact l03)))); (replace HO := Hd (HO.out.write hr__ l53)); clear HG3; have HG3 := Hd hs__; clear hs__ hr__; simp only [PT]))
        refine z0s (cs := [.int .i64 (k : Int), .int .i64 3]) rfl rfl (z00 HG3.out) Try.underlying49 rfl z0u rfl ?_
        rw [HRES.out]
        exact ⟨ad', c', vs, rfl, rfl, HO.out.lower hw5, HB.out⟩
      · have HN2 : Hid (¬ (st.sec < 0 ∧ 12 ≤ R.length ∧ R.take 4 ≠ markB)) := Hd (by rw [← HRL.out]; exact hc1)
        have HSNL := Hd (Us.len (StV.us HM.out))
        by_cases hkn2 : k < n
        rotate_left
        · have hk0 : k ≤ 0 := by omega
          have hm0 : m ≤ 0 := by omega
          clear hkn hc1
          by_cases hs0 : st.sec < 0
          · skip
            obtain ⟨X, N, E, hX⟩ : ∃ X N E, getP st.big R = (X, N, E) := ⟨_, _, _, rfl⟩
            by_cases hE : E = 0
            · subst hE
              have hok := get_ok st.big R (by rw [hX])
              rw [hX] at hok
              have hN1 : N ≤ m := by rw [HRL.out]; exact hok.2.2.2.1
              have hN2 : 12 ≤ N := hok.2.2.2.2.1
              have HX := Hd hX
              clear hok hX
              omega
            · have HX := Hd hX
              have HRES : Hid (readP l = (bvals vs, (k, E))) := Hd (by rw [← HRC2.out]; exact read_bad HNE.out HN2.out hX hE)
              clear hX
              go_wp2_with (first
 | ((with_reducible refine sl 24 ?_); (refine z0b elB rfl (.tmp 22) (some (.tmp 23)) none rfl rfl k n (.inr ⟨.i64, rfl⟩) (.inl ⟨rfl, rfl⟩) (by omega) (by omega) m (c - k) (by omega) rfl ?_); intro adR hadR; (have HSR := Hd (Bs.partG (HS.out.below HB.out) k n m (c - k) (by omega) (by omega) (by omega) rfl adR hadR R HTK.out)); clear hadR; simp only [PT])
 | ((with_reducible refine sl 26 ?_); (refine z01 rfl 3 (.tmp 25) rfl g5 0 rfl (.int .i64 st.sec) HG5.out rfl Try.underlying3 rfl ?_); simp only [PT])
 | ((with_reducible refine sl 45 ?_); (refine z01 rfl 4 (.tmp 44) rfl g5 1 rfl (.bool st.big) HG5.out rfl Try.underlying4 rfl ?_); simp only [PT])
 | (go_at_call 26; (refine (z34 X N E adR m (c - k) R st.big HX.out _ HSR.out (by omega)).mono ?_); intro e w6 hr; (obtain ⟨v, rfl, hvx, hown, hb__⟩ := hr); have HVX := Hd hvx; (have HV := Hd (OwnBlk.base hown hwr)); (have HAP := Hd ((fun y hy => OwnBlk.apart_ge hown (z18 HO.out.1 y hy).2) : ∀ y, ad' = some y → Apart y.block v)); (have hE__ := cU HB bup hb__; replace HB := ck HB hE__; replace HE := ck HE hE__; replace HO := ck HO hE__; replace HM := ck HM hE__; replace HG5 := ck HG5 hE__; replace HG3 := ck HG3 hE__; clear hE__); clear hb__ hown hvx)
 | ((with_reducible refine sl 8 ?_); (refine z13 rfl rfl 27 rfl (.tmp 8) (.tmp 47) rfl v.cells.toArray _ HZI.out rfl (z0h _) (fun _ => rfl) (fun _ => rfl) ?_); intro w8 g8 le_g8 lt_g8 hg__ hb__; have HG8 := Hd hg__; have hE__ := cU HB bup hb__; replace HB := ck HB hE__; replace HE := ck HE hE__; replace HO := ck HO hE__; replace HM := ck HM hE__; replace HG5 := ck HG5 hE__; replace HG3 := ck HG3 hE__; replace HV := ck HV hE__; clear hE__; clear hg__ hb__; simp only [PT])
 | ((with_reducible show wpList _ _ _ (⟨none, .store _ (.tmp 3) _, _, _, _, _⟩ :: _) _ _); (refine z02 rfl 49 (.tmp 3) (.tmp 55) rfl g3 #[.int .i64 (k : Int), .int .i64 E] rfl rfl HG3.out z0u rfl (z26 _ _) ?_); intro w20 hs__ hr__; (replace HB := Hd (HB.out.grown hr__ HB.out.size (fun k e => (by cases e; exact l03)))); (replace HO := Hd (HO.out.write hr__ l53)); clear HG3; have HG3 := Hd hs__; clear hs__ hr__; simp only [PT]))
              refine z0s (cs := [.int .i64 (k : Int), .int .i64 E]) rfl rfl (z00 HG3.out) Try.underlying49 rfl z0u rfl ?_
              rw [HRES.out]
              exact ⟨ad', c', vs, rfl, rfl, HO.out.lower hw5, HB.out⟩
          · omega
        by_cases hs0 : st.sec < 0
        · by_cases hm12 : 12 ≤ m
          · have hmk : R.take 4 = markB := Classical.byContradiction fun h => hc1 ⟨hs0, hm12, h⟩
            have s1 : ((strOf (R.take 4)).toList == ([10, 13, 13, 10] : List UInt8)) = true := by rw [z16, hmk]; rfl
            clear hmk hc1
            obtain ⟨X, N, E, hX⟩ : ∃ X N E, getP st.big R = (X, N, E) := ⟨_, _, _, rfl⟩
            by_cases hE : E = 0
            · subst hE
              have hok := get_ok st.big R (by rw [hX])
              rw [hX] at hok
              have hN1 : N ≤ m := by rw [HRL.out]; exact hok.2.2.2.1
              have hN2 : 12 ≤ N := hok.2.2.2.2.1
              have HX := Hd hX
              clear hok hX
              cases hO : okS st.val X
              · have HOK := Hd hO
                have HRES : Hid (readP l = (bvals vs, (k, 5))) := Hd (by rw [← HRC2.out]; exact read_none HNE.out HN2.out HX.out HOK.out)
                clear hO
                go_wp2_with (first
 | ((with_reducible refine sl 24 ?_); (refine z0b elB rfl (.tmp 22) (some (.tmp 23)) none rfl rfl k n (.inr ⟨.i64, rfl⟩) (.inl ⟨rfl, rfl⟩) (by omega) (by omega) m (c - k) (by omega) rfl ?_); intro adR hadR; (have HSR := Hd (Bs.partG (HS.out.below HB.out) k n m (c - k) (by omega) (by omega) (by omega) rfl adR hadR R HTK.out)); clear hadR; simp only [PT])
 | ((with_reducible refine sl 26 ?_); (refine z01 rfl 3 (.tmp 25) rfl g5 0 rfl (.int .i64 st.sec) HG5.out rfl Try.underlying3 rfl ?_); simp only [PT])
 | ((with_reducible refine sl 35 ?_); (refine z0b elB rfl (.tmp 34) none (some (.const (.int .i64 4))) rfl rfl 0 4 (.inl ⟨rfl, rfl⟩) (.inr ⟨.i64, rfl⟩) (by omega) (by omega) 4 (c - k) rfl (by omega) ?_); intro ad4 had4; (have HS4 := Hd (Bs.partG HSR.out 0 4 4 (c - k) (by omega) (by omega) rfl (by omega) ad4 had4 (R.take 4) (by rw [List.drop_zero]))); clear had4; simp only [PT])
 | ((with_reducible refine sl 36 ?_); (refine z2h elB.1 (by kernel_rfl) (by kernel_rfl) rfl (.tmp 35) rfl rfl HS4.out ?_); simp only [PT])
 | ((with_reducible refine sl 45 ?_); (refine z01 rfl 4 (.tmp 44) rfl g5 1 rfl (.bool st.big) HG5.out rfl Try.underlying4 rfl ?_); simp only [PT])
 | (go_at_call 26; (refine (z34 X N 0 adR m (c - k) R st.big HX.out _ HSR.out (by omega)).mono ?_); intro e w6 hr; (obtain ⟨v, rfl, hvx, hown, hb__⟩ := hr); have HVX := Hd hvx; (have HV := Hd (OwnBlk.base hown hwr)); (have HAP := Hd ((fun y hy => OwnBlk.apart_ge hown (z18 HO.out.1 y hy).2) : ∀ y, ad' = some y → Apart y.block v)); (have hE__ := cU HB bup hb__; replace HB := ck HB hE__; replace HE := ck HE hE__; replace HO := ck HO hE__; replace HM := ck HM hE__; replace HG5 := ck HG5 hE__; replace HG3 := ck HG3 hE__; clear hE__); clear hb__ hown hvx)
 | ((with_reducible refine sl 8 ?_); (refine z13 rfl rfl 27 rfl (.tmp 8) (.tmp 47) rfl v.cells.toArray _ HZI.out rfl (z0h _) (fun _ => rfl) (fun _ => rfl) ?_); intro w8 g8 le_g8 lt_g8 hg__ hb__; have HG8 := Hd hg__; have hE__ := cU HB bup hb__; replace HB := ck HB hE__; replace HE := ck HE hE__; replace HO := ck HO hE__; replace HM := ck HM hE__; replace HG5 := ck HG5 hE__; replace HG3 := ck HG3 hE__; replace HV := ck HV hE__; clear hE__; clear hg__ hb__; simp only [PT])
 | ((with_reducible refine sl 57 ?_); (refine z05 rfl 83 (.tmp 5) rfl g5 0 rfl st.cells _ (z00 HG5.out) Try.underlying83 rfl HSI.out ?_); simp only [PT])
 | ((with_reducible refine sl 58 ?_); (refine z05 rfl 27 (.tmp 8) rfl g8 0 rfl v.cells _ (z00 HG8.out) Try.underlying27 rfl HBI.out ?_); simp only [PT])
 | (go_at_call 67; (refine (step_any st v _ HM.out ⟨hsec0, by omega⟩ (by omega)).mono ?_); intro e w9 hr; unfold StepR at hr; rw [HVX.out, HOK.out] at hr; obtain ⟨u, rfl, hval, hmem, hb__⟩ := hr; have HU := Hd hmem; have HUV := Hd hval; have hE__ := cU HB bup hb__; replace HB := ck HB hE__; replace HE := ck HE hE__; replace HO := ck HO hE__; replace HM := ck HM hE__; replace HG5 := ck HG5 hE__; replace HG3 := ck HG3 hE__; replace HV := ck HV hE__; replace HG8 := ck HG8 hE__; clear hE__; clear hmem hval hb__)
 | ((with_reducible refine sl 11 ?_); (refine z13 rfl rfl 83 rfl (.tmp 11) (.tmp 60) rfl u.cells.toArray _ HSZ.out rfl (z0v _) (fun _ => rfl) (fun _ => rfl) ?_); intro w11 g11 le_g11 lt_g11 hg__ hb__; have HG11 := Hd hg__; have hE__ := cU HB bup hb__; replace HB := ck HB hE__; replace HE := ck HE hE__; replace HO := ck HO hE__; replace HM := ck HM hE__; replace HG5 := ck HG5 hE__; replace HG3 := ck HG3 hE__; replace HV := ck HV hE__; replace HG8 := ck HG8 hE__; replace HU := ck HU hE__; clear hE__; clear hg__ hb__; simp only [PT])
 | ((with_reducible show wpList _ _ _ (⟨none, .store _ (.tmp 3) _, _, _, _, _⟩ :: _) _ _); (refine z02 rfl 49 (.tmp 3) (.tmp 66) rfl g3 #[.int .i64 (k : Int), .int .i64 5] rfl rfl HG3.out z0u rfl (z26 _ _) ?_); intro w20 hs__ hr__; (replace HB := Hd (HB.out.grown hr__ HB.out.size (fun k e => (by cases e; exact l03)))); (replace HO := Hd (HO.out.write hr__ l53)); clear HG3; have HG3 := Hd hs__; clear hs__ hr__; simp only [PT]))
                refine z0s (cs := [.int .i64 (k : Int), .int .i64 5]) rfl rfl (z00 HG3.out) Try.underlying49 rfl z0u rfl ?_
                rw [HRES.out]
                exact ⟨ad', c', vs, rfl, rfl, HO.out.lower hw5, HB.out⟩
              · have HOK := Hd hO
                have hRN := read_next (f := f) (acc := bvals vs) (at_ := k) HNE.out HN2.out HX.out hO
                rw [HRC2.out] at hRN
                have HRN := Hd hRN
                clear hO hRN
                go_wp2_with (first
 | ((with_reducible refine sl 24 ?_); (refine z0b elB rfl (.tmp 22) (some (.tmp 23)) none rfl rfl k n (.inr ⟨.i64, rfl⟩) (.inl ⟨rfl, rfl⟩) (by omega) (by omega) m (c - k) (by omega) rfl ?_); intro adR hadR; (have HSR := Hd (Bs.partG (HS.out.below HB.out) k n m (c - k) (by omega) (by omega) (by omega) rfl adR hadR R HTK.out)); clear hadR; simp only [PT])
 | ((with_reducible refine sl 26 ?_); (refine z01 rfl 3 (.tmp 25) rfl g5 0 rfl (.int .i64 st.sec) HG5.out rfl Try.underlying3 rfl ?_); simp only [PT])
 | ((with_reducible refine sl 35 ?_); (refine z0b elB rfl (.tmp 34) none (some (.const (.int .i64 4))) rfl rfl 0 4 (.inl ⟨rfl, rfl⟩) (.inr ⟨.i64, rfl⟩) (by omega) (by omega) 4 (c - k) rfl (by omega) ?_); intro ad4 had4; (have HS4 := Hd (Bs.partG HSR.out 0 4 4 (c - k) (by omega) (by omega) rfl (by omega) ad4 had4 (R.take 4) (by rw [List.drop_zero]))); clear had4; simp only [PT])
 | ((with_reducible refine sl 36 ?_); (refine z2h elB.1 (by kernel_rfl) (by kernel_rfl) rfl (.tmp 35) rfl rfl HS4.out ?_); simp only [PT])
 | ((with_reducible refine sl 45 ?_); (refine z01 rfl 4 (.tmp 44) rfl g5 1 rfl (.bool st.big) HG5.out rfl Try.underlying4 rfl ?_); simp only [PT])
 | (go_at_call 26; (refine (z34 X N 0 adR m (c - k) R st.big HX.out _ HSR.out (by omega)).mono ?_); intro e w6 hr; (obtain ⟨v, rfl, hvx, hown, hb__⟩ := hr); have HVX := Hd hvx; (have HV := Hd (OwnBlk.base hown hwr)); (have HAP := Hd ((fun y hy => OwnBlk.apart_ge hown (z18 HO.out.1 y hy).2) : ∀ y, ad' = some y → Apart y.block v)); (have hE__ := cU HB bup hb__; replace HB := ck HB hE__; replace HE := ck HE hE__; replace HO := ck HO hE__; replace HM := ck HM hE__; replace HG5 := ck HG5 hE__; replace HG3 := ck HG3 hE__; clear hE__); clear hb__ hown hvx)
 | ((with_reducible refine sl 8 ?_); (refine z13 rfl rfl 27 rfl (.tmp 8) (.tmp 47) rfl v.cells.toArray _ HZI.out rfl (z0h _) (fun _ => rfl) (fun _ => rfl) ?_); intro w8 g8 le_g8 lt_g8 hg__ hb__; have HG8 := Hd hg__; have hE__ := cU HB bup hb__; replace HB := ck HB hE__; replace HE := ck HE hE__; replace HO := ck HO hE__; replace HM := ck HM hE__; replace HG5 := ck HG5 hE__; replace HG3 := ck HG3 hE__; replace HV := ck HV hE__; clear hE__; clear hg__ hb__; simp only [PT])
 | ((with_reducible refine sl 57 ?_); (refine z05 rfl 83 (.tmp 5) rfl g5 0 rfl st.cells _ (z00 HG5.out) Try.underlying83 rfl HSI.out ?_); simp only [PT])
 | ((with_reducible refine sl 58 ?_); (refine z05 rfl 27 (.tmp 8) rfl g8 0 rfl v.cells _ (z00 HG8.out) Try.underlying27 rfl HBI.out ?_); simp only [PT])
 | (go_at_call 67; (refine (step_any st v _ HM.out ⟨hsec0, by omega⟩ (by omega)).mono ?_); intro e w9 hr; unfold StepR at hr; rw [HVX.out, HOK.out] at hr; obtain ⟨u, rfl, hval, hmem, hb__⟩ := hr; have HU := Hd hmem; have HUV := Hd hval; have hE__ := cU HB bup hb__; replace HB := ck HB hE__; replace HE := ck HE hE__; replace HO := ck HO hE__; replace HM := ck HM hE__; replace HG5 := ck HG5 hE__; replace HG3 := ck HG3 hE__; replace HV := ck HV hE__; replace HG8 := ck HG8 hE__; clear hE__; clear hmem hval hb__)
 | ((with_reducible refine sl 11 ?_); (refine z13 rfl rfl 83 rfl (.tmp 11) (.tmp 60) rfl u.cells.toArray _ HSZ.out rfl (z0v _) (fun _ => rfl) (fun _ => rfl) ?_); intro w11 g11 le_g11 lt_g11 hg__ hb__; have HG11 := Hd hg__; have hE__ := cU HB bup hb__; replace HB := ck HB hE__; replace HE := ck HE hE__; replace HO := ck HO hE__; replace HM := ck HM hE__; replace HG5 := ck HG5 hE__; replace HG3 := ck HG3 hE__; replace HV := ck HV hE__; replace HG8 := ck HG8 hE__; replace HU := ck HU hE__; clear hE__; clear hg__ hb__; simp only [PT])
 | ((with_reducible refine sl 68 ?_); (refine z05 rfl 27 (.tmp 8) rfl g8 0 rfl v.cells _ (z00 HG8.out) Try.underlying27 rfl HBI.out ?_); simp only [PT])
 | ((with_reducible refine sl 69 ?_); (refine wpL_lit1 rfl 44 27 (.tmp 68) rfl v.cells.toArray _ rfl 11 Try.underlying44 HZI.out (by omega) (by omega) (z3s v) ?_); intro w12 gL le_gL lt_gL hg__ hb__; have HLT := Hd hg__; have hE__ := cU HB bup hb__; replace HB := ck HB hE__; replace HE := ck HE hE__; replace HO := ck HO hE__; replace HM := ck HM hE__; replace HG5 := ck HG5 hE__; replace HG3 := ck HG3 hE__; replace HV := ck HV hE__; replace HG8 := ck HG8 hE__; replace HU := ck HU hE__; replace HG11 := ck HG11 hE__; clear hE__; clear hg__ hb__; simp only [PT])
 | ((with_reducible refine sl 70 ?_); (refine z0k elK rfl (.tmp 67) (.tmp 69) rfl w5.heap.size rfl HO.out.1 rfl (z35 (cs := v.cells) HLT.out) (BlkV.one v) (by unfold maxLen; omega) (by omega) (Nat.le_trans hwr HE.out.size) ?_); intro ad9 c9 w13 ho__ hg__ hat__ _; (have hz13 := Nat.le_trans (Nat.le_trans hwr HE.out.size) hg__.size); (replace HG5 := Hd (z1d HG5.out HO.out.1 hg__ (by decide))); (replace HG3 := Hd (z1d HG3.out HO.out.1 hg__ (by decide))); (replace HG11 := Hd (z1d HG11.out HO.out.1 hg__ (by decide))); (replace HU := Hd (z2f (show w12.ownsRow 0 22 1 (.slice u.ad u.n u.c) u.n (UV u.sn) from HU.out) HO.out.1 hg__ (by decide))); (replace HB := Hd (HB.out.grown hg__ HB.out.size (fun k e => Nat.le_trans hw5 (z07 HO.out.1 k e)))); (replace HO := Hd (OwnBlks.snoc HO.out HV.out HAP.out hg__ hat__ ho__)); clear ho__ hg__ hat__ HV HG8 HLT; simp only [PT])
 | ((with_reducible refine sl 71 ?_); (refine z05 rfl 83 (.tmp 11) rfl g11 0 rfl u.cells _ (z00 HG11.out) Try.underlying83 rfl HSI.out ?_); simp only [PT])
 | ((with_reducible show wpList _ _ _ (⟨none, .store _ (.tmp 5) _, _, _, _, _⟩ :: _) _ _); (refine z02 rfl 83 (.tmp 5) (.tmp 71) rfl g5 u.cells.toArray rfl rfl HG5.out HSI.out rfl (z0v u) ?_); intro w14 hs__ hr__; (have hz14 := Nat.le_trans hz13 hr__.size); (replace HU := Hd (StV.write (show StV.mem w13 u from HU.out) hr__ HG5.out (by decide))); (replace HB := Hd (HB.out.grown hr__ HB.out.size (fun k e => (by cases e; exact l05)))); (replace HO := Hd (HO.out.write hr__ l55)); (replace HG3 := Hd ((hr__.block g3 (lt_of_block HG3.out) (fun e => (by cases e; exact l35 rfl))).trans HG3.out)); clear HG5 HG11; have HG5 := Hd hs__; clear hs__ hr__; simp only [PT]))
                have hnb := next_bounds st.val X
                rw [← HUV.out] at hnb
                have e1 : u.sec ≤ st.sec + 1 := hnb.1
                have e2 : -1 ≤ u.sec := hnb.2.1 hsec0
                have e3 : u.sn.length ≤ st.sn.length + 1 := hnb.2.2
                have e4 : u.n ≤ k + N := by have h1 := Us.len (StV.us HU.out); have h2 := HSNL.out; omega
                have HRF : Hid (readC f u.val (bvals (vs ++ [v])) (k + N) (l.drop (k + N)) = readP l) := Hd (by rw [bvals_snoc, HVX.out, HUV.out, ← List.drop_drop, hR.out]; exact HRN.out.symm)
                clear hnb e3
                go_roundw
                case rel => exact ⟨k + N, f, u, vs ++ [v], ad9, c9, by omega, by go_num, by simp, by simp; omega, by omega, by omega, e2, e4, hz14, HRF, HO, HU, HG5, HG3, HB⟩
                case measure => first | (simp [intOf]; done) | (simp [intOf]; omega)
            · have HX := Hd hX
              have HRES : Hid (readP l = (bvals vs, (k, E))) := Hd (by rw [← HRC2.out]; exact read_bad HNE.out HN2.out hX hE)
              clear hX
              go_wp2_with (first
 | ((with_reducible refine sl 24 ?_); (refine z0b elB rfl (.tmp 22) (some (.tmp 23)) none rfl rfl k n (.inr ⟨.i64, rfl⟩) (.inl ⟨rfl, rfl⟩) (by omega) (by omega) m (c - k) (by omega) rfl ?_); intro adR hadR; (have HSR := Hd (Bs.partG (HS.out.below HB.out) k n m (c - k) (by omega) (by omega) (by omega) rfl adR hadR R HTK.out)); clear hadR; simp only [PT])
 | ((with_reducible refine sl 26 ?_); (refine z01 rfl 3 (.tmp 25) rfl g5 0 rfl (.int .i64 st.sec) HG5.out rfl Try.underlying3 rfl ?_); simp only [PT])
 | ((with_reducible refine sl 35 ?_); (refine z0b elB rfl (.tmp 34) none (some (.const (.int .i64 4))) rfl rfl 0 4 (.inl ⟨rfl, rfl⟩) (.inr ⟨.i64, rfl⟩) (by omega) (by omega) 4 (c - k) rfl (by omega) ?_); intro ad4 had4; (have HS4 := Hd (Bs.partG HSR.out 0 4 4 (c - k) (by omega) (by omega) rfl (by omega) ad4 had4 (R.take 4) (by rw [List.drop_zero]))); clear had4; simp only [PT])
 | ((with_reducible refine sl 36 ?_); (refine z2h elB.1 (by kernel_rfl) (by kernel_rfl) rfl (.tmp 35) rfl rfl HS4.out ?_); simp only [PT])
 | ((with_reducible refine sl 45 ?_); (refine z01 rfl 4 (.tmp 44) rfl g5 1 rfl (.bool st.big) HG5.out rfl Try.underlying4 rfl ?_); simp only [PT])
 | (go_at_call 26; (refine (z34 X N E adR m (c - k) R st.big HX.out _ HSR.out (by omega)).mono ?_); intro e w6 hr; (obtain ⟨v, rfl, hvx, hown, hb__⟩ := hr); have HVX := Hd hvx; (have HV := Hd (OwnBlk.base hown hwr)); (have HAP := Hd ((fun y hy => OwnBlk.apart_ge hown (z18 HO.out.1 y hy).2) : ∀ y, ad' = some y → Apart y.block v)); (have hE__ := cU HB bup hb__; replace HB := ck HB hE__; replace HE := ck HE hE__; replace HO := ck HO hE__; replace HM := ck HM hE__; replace HG5 := ck HG5 hE__; replace HG3 := ck HG3 hE__; clear hE__); clear hb__ hown hvx)
 | ((with_reducible refine sl 8 ?_); (refine z13 rfl rfl 27 rfl (.tmp 8) (.tmp 47) rfl v.cells.toArray _ HZI.out rfl (z0h _) (fun _ => rfl) (fun _ => rfl) ?_); intro w8 g8 le_g8 lt_g8 hg__ hb__; have HG8 := Hd hg__; have hE__ := cU HB bup hb__; replace HB := ck HB hE__; replace HE := ck HE hE__; replace HO := ck HO hE__; replace HM := ck HM hE__; replace HG5 := ck HG5 hE__; replace HG3 := ck HG3 hE__; replace HV := ck HV hE__; clear hE__; clear hg__ hb__; simp only [PT])
 | ((with_reducible show wpList _ _ _ (⟨none, .store _ (.tmp 3) _, _, _, _, _⟩ :: _) _ _); (refine z02 rfl 49 (.tmp 3) (.tmp 55) rfl g3 #[.int .i64 (k : Int), .int .i64 E] rfl rfl HG3.out z0u rfl (z26 _ _) ?_); intro w20 hs__ hr__; (replace HB := Hd (HB.out.grown hr__ HB.out.size (fun k e => (by cases e; exact l03)))); (replace HO := Hd (HO.out.write hr__ l53)); clear HG3; have HG3 := Hd hs__; clear hs__ hr__; simp only [PT]))
              refine z0s (cs := [.int .i64 (k : Int), .int .i64 E]) rfl rfl (z00 HG3.out) Try.underlying49 rfl z0u rfl ?_
              rw [HRES.out]
              exact ⟨ad', c', vs, rfl, rfl, HO.out.lower hw5, HB.out⟩
          · clear hc1
            obtain ⟨X, N, E, hX⟩ : ∃ X N E, getP st.big R = (X, N, E) := ⟨_, _, _, rfl⟩
            by_cases hE : E = 0
            · subst hE
              have hok := get_ok st.big R (by rw [hX])
              rw [hX] at hok
              have hN1 : N ≤ m := by rw [HRL.out]; exact hok.2.2.2.1
              have hN2 : 12 ≤ N := hok.2.2.2.2.1
              have HX := Hd hX
              clear hok hX
              omega
            · have HX := Hd hX
              have HRES : Hid (readP l = (bvals vs, (k, E))) := Hd (by rw [← HRC2.out]; exact read_bad HNE.out HN2.out hX hE)
              clear hX
              go_wp2_with (first
 | ((with_reducible refine sl 24 ?_); (refine z0b elB rfl (.tmp 22) (some (.tmp 23)) none rfl rfl k n (.inr ⟨.i64, rfl⟩) (.inl ⟨rfl, rfl⟩) (by omega) (by omega) m (c - k) (by omega) rfl ?_); intro adR hadR; (have HSR := Hd (Bs.partG (HS.out.below HB.out) k n m (c - k) (by omega) (by omega) (by omega) rfl adR hadR R HTK.out)); clear hadR; simp only [PT])
 | ((with_reducible refine sl 26 ?_); (refine z01 rfl 3 (.tmp 25) rfl g5 0 rfl (.int .i64 st.sec) HG5.out rfl Try.underlying3 rfl ?_); simp only [PT])
 | ((with_reducible refine sl 45 ?_); (refine z01 rfl 4 (.tmp 44) rfl g5 1 rfl (.bool st.big) HG5.out rfl Try.underlying4 rfl ?_); simp only [PT])
 | (go_at_call 26; (refine (z34 X N E adR m (c - k) R st.big HX.out _ HSR.out (by omega)).mono ?_); intro e w6 hr; (obtain ⟨v, rfl, hvx, hown, hb__⟩ := hr); have HVX := Hd hvx; (have HV := Hd (OwnBlk.base hown hwr)); (have HAP := Hd ((fun y hy => OwnBlk.apart_ge hown (z18 HO.out.1 y hy).2) : ∀ y, ad' = some y → Apart y.block v)); (have hE__ := cU HB bup hb__; replace HB := ck HB hE__; replace HE := ck HE hE__; replace HO := ck HO hE__; replace HM := ck HM hE__; replace HG5 := ck HG5 hE__; replace HG3 := ck HG3 hE__; clear hE__); clear hb__ hown hvx)
 | ((with_reducible refine sl 8 ?_); (refine z13 rfl rfl 27 rfl (.tmp 8) (.tmp 47) rfl v.cells.toArray _ HZI.out rfl (z0h _) (fun _ => rfl) (fun _ => rfl) ?_); intro w8 g8 le_g8 lt_g8 hg__ hb__; have HG8 := Hd hg__; have hE__ := cU HB bup hb__; replace HB := ck HB hE__; replace HE := ck HE hE__; replace HO := ck HO hE__; replace HM := ck HM hE__; replace HG5 := ck HG5 hE__; replace HG3 := ck HG3 hE__; replace HV := ck HV hE__; clear hE__; clear hg__ hb__; simp only [PT])
 | ((with_reducible show wpList _ _ _ (⟨none, .store _ (.tmp 3) _, _, _, _, _⟩ :: _) _ _); (refine z02 rfl 49 (.tmp 3) (.tmp 55) rfl g3 #[.int .i64 (k : Int), .int .i64 E] rfl rfl HG3.out z0u rfl (z26 _ _) ?_); intro w20 hs__ hr__; (replace HB := Hd (HB.out.grown hr__ HB.out.size (fun k e => (by cases e; exact l03)))); (replace HO := Hd (HO.out.write hr__ l53)); clear HG3; have HG3 := Hd hs__; clear hs__ hr__; simp only [PT]))
              refine z0s (cs := [.int .i64 (k : Int), .int .i64 E]) rfl rfl (z00 HG3.out) Try.underlying49 rfl z0u rfl ?_
              rw [HRES.out]
              exact ⟨ad', c', vs, rfl, rfl, HO.out.lower hw5, HB.out⟩
        · clear hc1
          obtain ⟨X, N, E, hX⟩ : ∃ X N E, getP st.big R = (X, N, E) := ⟨_, _, _, rfl⟩
          by_cases hE : E = 0
          · subst hE
            have hok := get_ok st.big R (by rw [hX])
            rw [hX] at hok
            have hN1 : N ≤ m := by rw [HRL.out]; exact hok.2.2.2.1
            have hN2 : 12 ≤ N := hok.2.2.2.2.1
            have HX := Hd hX
            clear hok hX
            cases hO : okS st.val X
            · have HOK := Hd hO
              have HRES : Hid (readP l = (bvals vs, (k, 5))) := Hd (by rw [← HRC2.out]; exact read_none HNE.out HN2.out HX.out HOK.out)
              clear hO
              go_wp2_with (first
 | ((with_reducible refine sl 24 ?_); (refine z0b elB rfl (.tmp 22) (some (.tmp 23)) none rfl rfl k n (.inr ⟨.i64, rfl⟩) (.inl ⟨rfl, rfl⟩) (by omega) (by omega) m (c - k) (by omega) rfl ?_); intro adR hadR; (have HSR := Hd (Bs.partG (HS.out.below HB.out) k n m (c - k) (by omega) (by omega) (by omega) rfl adR hadR R HTK.out)); clear hadR; simp only [PT])
 | ((with_reducible refine sl 26 ?_); (refine z01 rfl 3 (.tmp 25) rfl g5 0 rfl (.int .i64 st.sec) HG5.out rfl Try.underlying3 rfl ?_); simp only [PT])
 | ((with_reducible refine sl 45 ?_); (refine z01 rfl 4 (.tmp 44) rfl g5 1 rfl (.bool st.big) HG5.out rfl Try.underlying4 rfl ?_); simp only [PT])
 | (go_at_call 26; (refine (z34 X N 0 adR m (c - k) R st.big HX.out _ HSR.out (by omega)).mono ?_); intro e w6 hr; (obtain ⟨v, rfl, hvx, hown, hb__⟩ := hr); have HVX := Hd hvx; (have HV := Hd (OwnBlk.base hown hwr)); (have HAP := Hd ((fun y hy => OwnBlk.apart_ge hown (z18 HO.out.1 y hy).2) : ∀ y, ad' = some y → Apart y.block v)); (have hE__ := cU HB bup hb__; replace HB := ck HB hE__; replace HE := ck HE hE__; replace HO := ck HO hE__; replace HM := ck HM hE__; replace HG5 := ck HG5 hE__; replace HG3 := ck HG3 hE__; clear hE__); clear hb__ hown hvx)
 | ((with_reducible refine sl 8 ?_); (refine z13 rfl rfl 27 rfl (.tmp 8) (.tmp 47) rfl v.cells.toArray _ HZI.out rfl (z0h _) (fun _ => rfl) (fun _ => rfl) ?_); intro w8 g8 le_g8 lt_g8 hg__ hb__; have HG8 := Hd hg__; have hE__ := cU HB bup hb__; replace HB := ck HB hE__; replace HE := ck HE hE__; replace HO := ck HO hE__; replace HM := ck HM hE__; replace HG5 := ck HG5 hE__; replace HG3 := ck HG3 hE__; replace HV := ck HV hE__; clear hE__; clear hg__ hb__; simp only [PT])
 | ((with_reducible refine sl 57 ?_); (refine z05 rfl 83 (.tmp 5) rfl g5 0 rfl st.cells _ (z00 HG5.out) Try.underlying83 rfl HSI.out ?_); simp only [PT])
 | ((with_reducible refine sl 58 ?_); (refine z05 rfl 27 (.tmp 8) rfl g8 0 rfl v.cells _ (z00 HG8.out) Try.underlying27 rfl HBI.out ?_); simp only [PT])
 | (go_at_call 67; (refine (step_any st v _ HM.out ⟨hsec0, by omega⟩ (by omega)).mono ?_); intro e w9 hr; unfold StepR at hr; rw [HVX.out, HOK.out] at hr; obtain ⟨u, rfl, hval, hmem, hb__⟩ := hr; have HU := Hd hmem; have HUV := Hd hval; have hE__ := cU HB bup hb__; replace HB := ck HB hE__; replace HE := ck HE hE__; replace HO := ck HO hE__; replace HM := ck HM hE__; replace HG5 := ck HG5 hE__; replace HG3 := ck HG3 hE__; replace HV := ck HV hE__; replace HG8 := ck HG8 hE__; clear hE__; clear hmem hval hb__)
 | ((with_reducible refine sl 11 ?_); (refine z13 rfl rfl 83 rfl (.tmp 11) (.tmp 60) rfl u.cells.toArray _ HSZ.out rfl (z0v _) (fun _ => rfl) (fun _ => rfl) ?_); intro w11 g11 le_g11 lt_g11 hg__ hb__; have HG11 := Hd hg__; have hE__ := cU HB bup hb__; replace HB := ck HB hE__; replace HE := ck HE hE__; replace HO := ck HO hE__; replace HM := ck HM hE__; replace HG5 := ck HG5 hE__; replace HG3 := ck HG3 hE__; replace HV := ck HV hE__; replace HG8 := ck HG8 hE__; replace HU := ck HU hE__; clear hE__; clear hg__ hb__; simp only [PT])
 | ((with_reducible show wpList _ _ _ (⟨none, .store _ (.tmp 3) _, _, _, _, _⟩ :: _) _ _); (refine z02 rfl 49 (.tmp 3) (.tmp 66) rfl g3 #[.int .i64 (k : Int), .int .i64 5] rfl rfl HG3.out z0u rfl (z26 _ _) ?_); intro w20 hs__ hr__; (replace HB := Hd (HB.out.grown hr__ HB.out.size (fun k e => (by cases e; exact l03)))); (replace HO := Hd (HO.out.write hr__ l53)); clear HG3; have HG3 := Hd hs__; clear hs__ hr__; simp only [PT]))
              refine z0s (cs := [.int .i64 (k : Int), .int .i64 5]) rfl rfl (z00 HG3.out) Try.underlying49 rfl z0u rfl ?_
              rw [HRES.out]
              exact ⟨ad', c', vs, rfl, rfl, HO.out.lower hw5, HB.out⟩
            · have HOK := Hd hO
              have hRN := read_next (f := f) (acc := bvals vs) (at_ := k) HNE.out HN2.out HX.out hO
              rw [HRC2.out] at hRN
              have HRN := Hd hRN
              clear hO hRN
              go_wp2_with (first
 | ((with_reducible refine sl 24 ?_); (refine z0b elB rfl (.tmp 22) (some (.tmp 23)) none rfl rfl k n (.inr ⟨.i64, rfl⟩) (.inl ⟨rfl, rfl⟩) (by omega) (by omega) m (c - k) (by omega) rfl ?_); intro adR hadR; (have HSR := Hd (Bs.partG (HS.out.below HB.out) k n m (c - k) (by omega) (by omega) (by omega) rfl adR hadR R HTK.out)); clear hadR; simp only [PT])
 | ((with_reducible refine sl 26 ?_); (refine z01 rfl 3 (.tmp 25) rfl g5 0 rfl (.int .i64 st.sec) HG5.out rfl Try.underlying3 rfl ?_); simp only [PT])
 | ((with_reducible refine sl 45 ?_); (refine z01 rfl 4 (.tmp 44) rfl g5 1 rfl (.bool st.big) HG5.out rfl Try.underlying4 rfl ?_); simp only [PT])
 | (go_at_call 26; (refine (z34 X N 0 adR m (c - k) R st.big HX.out _ HSR.out (by omega)).mono ?_); intro e w6 hr; (obtain ⟨v, rfl, hvx, hown, hb__⟩ := hr); have HVX := Hd hvx; (have HV := Hd (OwnBlk.base hown hwr)); (have HAP := Hd ((fun y hy => OwnBlk.apart_ge hown (z18 HO.out.1 y hy).2) : ∀ y, ad' = some y → Apart y.block v)); (have hE__ := cU HB bup hb__; replace HB := ck HB hE__; replace HE := ck HE hE__; replace HO := ck HO hE__; replace HM := ck HM hE__; replace HG5 := ck HG5 hE__; replace HG3 := ck HG3 hE__; clear hE__); clear hb__ hown hvx)
 | ((with_reducible refine sl 8 ?_); (refine z13 rfl rfl 27 rfl (.tmp 8) (.tmp 47) rfl v.cells.toArray _ HZI.out rfl (z0h _) (fun _ => rfl) (fun _ => rfl) ?_); intro w8 g8 le_g8 lt_g8 hg__ hb__; have HG8 := Hd hg__; have hE__ := cU HB bup hb__; replace HB := ck HB hE__; replace HE := ck HE hE__; replace HO := ck HO hE__; replace HM := ck HM hE__; replace HG5 := ck HG5 hE__; replace HG3 := ck HG3 hE__; replace HV := ck HV hE__; clear hE__; clear hg__ hb__; simp only [PT])
 | ((with_reducible refine sl 57 ?_); (refine z05 rfl 83 (.tmp 5) rfl g5 0 rfl st.cells _ (z00 HG5.out) Try.underlying83 rfl HSI.out ?_); simp only [PT])
 | ((with_reducible refine sl 58 ?_); (refine z05 rfl 27 (.tmp 8) rfl g8 0 rfl v.cells _ (z00 HG8.out) Try.underlying27 rfl HBI.out ?_); simp only [PT])
 | (go_at_call 67; (refine (step_any st v _ HM.out ⟨hsec0, by omega⟩ (by omega)).mono ?_); intro e w9 hr; unfold StepR at hr; rw [HVX.out, HOK.out] at hr; obtain ⟨u, rfl, hval, hmem, hb__⟩ := hr; have HU := Hd hmem; have HUV := Hd hval; have hE__ := cU HB bup hb__; replace HB := ck HB hE__; replace HE := ck HE hE__; replace HO := ck HO hE__; replace HM := ck HM hE__; replace HG5 := ck HG5 hE__; replace HG3 := ck HG3 hE__; replace HV := ck HV hE__; replace HG8 := ck HG8 hE__; clear hE__; clear hmem hval hb__)
 | ((with_reducible refine sl 11 ?_); (refine z13 rfl rfl 83 rfl (.tmp 11) (.tmp 60) rfl u.cells.toArray _ HSZ.out rfl (z0v _) (fun _ => rfl) (fun _ => rfl) ?_); intro w11 g11 le_g11 lt_g11 hg__ hb__; have HG11 := Hd hg__; have hE__ := cU HB bup hb__; replace HB := ck HB hE__; replace HE := ck HE hE__; replace HO := ck HO hE__; replace HM := ck HM hE__; replace HG5 := ck HG5 hE__; replace HG3 := ck HG3 hE__; replace HV := ck HV hE__; replace HG8 := ck HG8 hE__; replace HU := ck HU hE__; clear hE__; clear hg__ hb__; simp only [PT])
 | ((with_reducible refine sl 68 ?_); (refine z05 rfl 27 (.tmp 8) rfl g8 0 rfl v.cells _ (z00 HG8.out) Try.underlying27 rfl HBI.out ?_); simp only [PT])
 | ((with_reducible refine sl 69 ?_); (refine wpL_lit1 rfl 44 27 (.tmp 68) rfl v.cells.toArray _ rfl 11 Try.underlying44 HZI.out (by omega) (by omega) (z3s v) ?_); intro w12 gL le_gL lt_gL hg__ hb__; have HLT := Hd hg__; have hE__ := cU HB bup hb__; replace HB := ck HB hE__; replace HE := ck HE hE__; replace HO := ck HO hE__; replace HM := ck HM hE__; replace HG5 := ck HG5 hE__; replace HG3 := ck HG3 hE__; replace HV := ck HV hE__; replace HG8 := ck HG8 hE__; replace HU := ck HU hE__; replace HG11 := ck HG11 hE__; clear hE__; clear hg__ hb__; simp only [PT])
 | ((with_reducible refine sl 70 ?_); (refine z0k elK rfl (.tmp 67) (.tmp 69) rfl w5.heap.size rfl HO.out.1 rfl (z35 (cs := v.cells) HLT.out) (BlkV.one v) (by unfold maxLen; omega) (by omega) (Nat.le_trans hwr HE.out.size) ?_); intro ad9 c9 w13 ho__ hg__ hat__ _; (have hz13 := Nat.le_trans (Nat.le_trans hwr HE.out.size) hg__.size); (replace HG5 := Hd (z1d HG5.out HO.out.1 hg__ (by decide))); (replace HG3 := Hd (z1d HG3.out HO.out.1 hg__ (by decide))); (replace HG11 := Hd (z1d HG11.out HO.out.1 hg__ (by decide))); (replace HU := Hd (z2f (show w12.ownsRow 0 22 1 (.slice u.ad u.n u.c) u.n (UV u.sn) from HU.out) HO.out.1 hg__ (by decide))); (replace HB := Hd (HB.out.grown hg__ HB.out.size (fun k e => Nat.le_trans hw5 (z07 HO.out.1 k e)))); (replace HO := Hd (OwnBlks.snoc HO.out HV.out HAP.out hg__ hat__ ho__)); clear ho__ hg__ hat__ HV HG8 HLT; simp only [PT])
 | ((with_reducible refine sl 71 ?_); (refine z05 rfl 83 (.tmp 11) rfl g11 0 rfl u.cells _ (z00 HG11.out) Try.underlying83 rfl HSI.out ?_); simp only [PT])
 | ((with_reducible show wpList _ _ _ (⟨none, .store _ (.tmp 5) _, _, _, _, _⟩ :: _) _ _); (refine z02 rfl 83 (.tmp 5) (.tmp 71) rfl g5 u.cells.toArray rfl rfl HG5.out HSI.out rfl (z0v u) ?_); intro w14 hs__ hr__; (have hz14 := Nat.le_trans hz13 hr__.size); (replace HU := Hd (StV.write (show StV.mem w13 u from HU.out) hr__ HG5.out (by decide))); (replace HB := Hd (HB.out.grown hr__ HB.out.size (fun k e => (by cases e; exact l05)))); (replace HO := Hd (HO.out.write hr__ l55)); (replace HG3 := Hd ((hr__.block g3 (lt_of_block HG3.out) (fun e => (by cases e; exact l35 rfl))).trans HG3.out)); clear HG5 HG11; have HG5 := Hd hs__; clear hs__ hr__; simp only [PT]))
              have hnb := next_bounds st.val X
              rw [← HUV.out] at hnb
              have e1 : u.sec ≤ st.sec + 1 := hnb.1
              have e2 : -1 ≤ u.sec := hnb.2.1 hsec0
              have e3 : u.sn.length ≤ st.sn.length + 1 := hnb.2.2
              have e4 : u.n ≤ k + N := by have h1 := Us.len (StV.us HU.out); have h2 := HSNL.out; omega
              have HRF : Hid (readC f u.val (bvals (vs ++ [v])) (k + N) (l.drop (k + N)) = readP l) := Hd (by rw [bvals_snoc, HVX.out, HUV.out, ← List.drop_drop, hR.out]; exact HRN.out.symm)
              clear hnb e3
              go_roundw
              case rel => exact ⟨k + N, f, u, vs ++ [v], ad9, c9, by omega, by go_num, by simp, by simp; omega, by omega, by omega, e2, e4, hz14, HRF, HO, HU, HG5, HG3, HB⟩
              case measure => first | (simp [intOf]; done) | (simp [intOf]; omega)
          · have HX := Hd hX
            have HRES : Hid (readP l = (bvals vs, (k, E))) := Hd (by rw [← HRC2.out]; exact read_bad HNE.out HN2.out hX hE)
            clear hX
            go_wp2_with (first
 | ((with_reducible refine sl 24 ?_); (refine z0b elB rfl (.tmp 22) (some (.tmp 23)) none rfl rfl k n (.inr ⟨.i64, rfl⟩) (.inl ⟨rfl, rfl⟩) (by omega) (by omega) m (c - k) (by omega) rfl ?_); intro adR hadR; (have HSR := Hd (Bs.partG (HS.out.below HB.out) k n m (c - k) (by omega) (by omega) (by omega) rfl adR hadR R HTK.out)); clear hadR; simp only [PT])
 | ((with_reducible refine sl 26 ?_); (refine z01 rfl 3 (.tmp 25) rfl g5 0 rfl (.int .i64 st.sec) HG5.out rfl Try.underlying3 rfl ?_); simp only [PT])
 | ((with_reducible refine sl 45 ?_); (refine z01 rfl 4 (.tmp 44) rfl g5 1 rfl (.bool st.big) HG5.out rfl Try.underlying4 rfl ?_); simp only [PT])
 | (go_at_call 26; (refine (z34 X N E adR m (c - k) R st.big HX.out _ HSR.out (by omega)).mono ?_); intro e w6 hr; (obtain ⟨v, rfl, hvx, hown, hb__⟩ := hr); have HVX := Hd hvx; (have HV := Hd (OwnBlk.base hown hwr)); (have HAP := Hd ((fun y hy => OwnBlk.apart_ge hown (z18 HO.out.1 y hy).2) : ∀ y, ad' = some y → Apart y.block v)); (have hE__ := cU HB bup hb__; replace HB := ck HB hE__; replace HE := ck HE hE__; replace HO := ck HO hE__; replace HM := ck HM hE__; replace HG5 := ck HG5 hE__; replace HG3 := ck HG3 hE__; clear hE__); clear hb__ hown hvx)
 | ((with_reducible refine sl 8 ?_); (refine z13 rfl rfl 27 rfl (.tmp 8) (.tmp 47) rfl v.cells.toArray _ HZI.out rfl (z0h _) (fun _ => rfl) (fun _ => rfl) ?_); intro w8 g8 le_g8 lt_g8 hg__ hb__; have HG8 := Hd hg__; have hE__ := cU HB bup hb__; replace HB := ck HB hE__; replace HE := ck HE hE__; replace HO := ck HO hE__; replace HM := ck HM hE__; replace HG5 := ck HG5 hE__; replace HG3 := ck HG3 hE__; replace HV := ck HV hE__; clear hE__; clear hg__ hb__; simp only [PT])
 | ((with_reducible show wpList _ _ _ (⟨none, .store _ (.tmp 3) _, _, _, _, _⟩ :: _) _ _); (refine z02 rfl 49 (.tmp 3) (.tmp 55) rfl g3 #[.int .i64 (k : Int), .int .i64 E] rfl rfl HG3.out z0u rfl (z26 _ _) ?_); intro w20 hs__ hr__; (replace HB := Hd (HB.out.grown hr__ HB.out.size (fun k e => (by cases e; exact l03)))); (replace HO := Hd (HO.out.write hr__ l53)); clear HG3; have HG3 := Hd hs__; clear hs__ hr__; simp only [PT]))
            refine z0s (cs := [.int .i64 (k : Int), .int .i64 E]) rfl rfl (z00 HG3.out) Try.underlying49 rfl z0u rfl ?_
            rw [HRES.out]
            exact ⟨ad', c', vs, rfl, rfl, HO.out.lower hw5, HB.out⟩
end Go.Proofs.Ytmfplinbbcoahaa
namespace Go.Proofs.Ytmfplinbbcoahaa
open Go.RowKit Go.Sort
theorem goS_parts {s : PS} {x : PB} (h : goS s x = true) : okS s x = true ∧ mayP x = true ∧ sizeB x ≤ 1048576 := by
  simp [goS, rightP] at h
  exact ⟨h.1, h.2.1, h.2.2⟩
theorem goS_of {s : PS} {x : PB} (h1 : okS s x = true) (h2 : mayP x = true) (h3 : sizeB x ≤ 1048576) : goS s x = true := by simp [goS, rightP, h1, h2, h3]
theorem okS_sec {s : PS} {x : PB} (h : x.kind = 1) : okS s x = true := by unfold okS; rw [if_pos h]
theorem okS_neg {s : PS} {x : PB} (h : ¬ x.kind = 1) (hs : s.sec < 0) : okS s x = false := by
  have hn : ¬ 0 ≤ s.sec := by omega
  unfold okS
  rw [if_neg h]
  split
  · simp [hn]
  · split <;> simp [hn]
theorem okS_36 {s : PS} {x : PB} (h : x.kind = 3 ∨ x.kind = 6) (hs : 0 ≤ s.sec) : okS s x = decide (x.iface < (s.snaps.length : Int)) := by
  unfold okS
  rw [if_neg (by omega), if_pos h]
  simp [hs]
theorem okS_4 {s : PS} {x : PB} (h : x.kind = 4) (hs : 0 ≤ s.sec) : okS s x = decide (0 < s.snaps.length) := by
  unfold okS
  rw [if_neg (by omega), if_neg (by omega), if_pos h]
  simp [hs]
theorem okS_else {s : PS} {x : PB} (h1 : ¬ x.kind = 1) (h3 : ¬ x.kind = 3) (h6 : ¬ x.kind = 6) (h4 : ¬ x.kind = 4) (hs : 0 ≤ s.sec) : okS s x = true := by
  unfold okS
  rw [if_neg h1, if_neg (by omega), if_neg h4]
  simp [hs]
theorem ok_neg {s : PS} {x : PB} (h : okS s x = true) (hs : s.sec < 0) : x.kind = 1 := by
  unfold okS at h
  by_cases hk : x.kind = 1
  · exact hk
  · rw [if_neg hk] at h
    have : ¬ 0 ≤ s.sec := by omega
    split at h
    · simp [this] at h
    · split at h <;> simp [this] at h
theorem section_mark (x : PB) (hk : x.kind = 1) (big : Bool) (n : Nat) (hn : 4 ≤ n) (more : List UInt8) : ((bytesB big x).take n ++ more).take 4 = markB := by
  have e : bytesB big x = putL 168627466 4 (ordB big x) ++ (putL (sizeB x) 4 (ordB big x) ++ (bodyB (ordB big x) x ++ putL (sizeB x) 4 (ordB big x))) := by
    unfold bytesB
    simp [typeB, hk, typeP, List.append_assoc]
  have h4 : (putL 168627466 4 (ordB big x)).length = 4 := z06 _ _
  have e2 : ∀ R : List UInt8, (putL 168627466 4 (ordB big x) ++ R).take n = putL 168627466 4 (ordB big x) ++ R.take (n - 4) := fun R => by
    rw [List.take_append, List.take_of_length_le (by omega), h4]
  rw [e, e2, List.append_assoc, List.take_append, List.take_of_length_le (by omega), h4, Nat.sub_self, List.take_zero, List.append_nil, order_type (ordB big x) true]
  rfl
theorem read_step {f : Nat} {s : PS} {x : PB} (h : goS s x = true) (hw : wfB x) (acc : List PB) (at_ : Nat) (more : List UInt8) :
    readC (f + 1) s acc at_ (bytesB s.big x ++ more) = readC f (nextS s x) (acc ++ [x]) (at_ + sizeB x) more := by
  obtain ⟨ho, hm, hz⟩ := goS_parts h
  have hg := get_back x hm hw hz s.big more
  have hlen : (bytesB s.big x).length = sizeB x := z2p _ _
  have hge := sizeB_ge x
  have h1 : ¬ (bytesB s.big x ++ more = [] ∧ 0 < at_) := by
    rintro ⟨h, _⟩
    have := congrArg List.length h
    simp at this
    rw [this.1] at hlen
    simp at hlen
    omega
  have h2 : ¬ (s.sec < 0 ∧ 12 ≤ (bytesB s.big x ++ more).length ∧ (bytesB s.big x ++ more).take 4 ≠ markB) := by
    rintro ⟨hs, _, hne⟩
    have := section_mark x (ok_neg ho hs) s.big (bytesB s.big x).length (by omega) more
    rw [List.take_of_length_le (Nat.le_refl _)] at this
    exact hne this
  rw [readC]
  rw [if_neg h1, if_neg h2, hg]
  simp only [ho]
  rw [if_neg (by simp), if_neg (by simp)]
  rw [← hlen, List.drop_left]
theorem read_over (l : List PB) : ∀ (f : Nat) (s : PS) (acc : List PB) (at_ : Nat) (more : List UInt8), allS s l = true → (∀ x ∈ l, wfB x) →
    readC (l.length + f) s acc at_ (bytesC s l ++ more) = readC f (stS s l) (acc ++ l) (at_ + (bytesC s l).length) more := by
  induction l with
  | nil => intro f s acc at_ more h hw; simp [stS, bytesC]
  | cons x l ih =>
    intro f s acc at_ more h hw
    simp only [allS, Bool.and_eq_true] at h
    have e : (x :: l).length + f = (l.length + f) + 1 := by simp; omega
    rw [e, bytesC, List.append_assoc, read_step h.1 (hw x (by simp)), ih f _ _ _ _ h.2 (fun y hy => hw y (by simp [hy]))]
    simp only [stS, List.append_assoc, List.singleton_append, List.length_append, z2p, Nat.add_assoc]
theorem bytesC_ge (s : PS) (l : List PB) : 12 * l.length ≤ (bytesC s l).length := by
  induction l generalizing s with
  | nil => simp
  | cons x l ih =>
    have := ih (nextS s x)
    have := sizeB_ge x
    simp only [bytesC, List.length_append, List.length_cons, z2p]
    omega
theorem read_fuel (f g : Nat) (s : PS) (acc : List PB) (at_ : Nat) (b : List UInt8) (hf : b.length < f) (hg : b.length < g) : readC f s acc at_ b = readC g s acc at_ b := by
  induction f generalizing g s acc at_ b with
  | zero => omega
  | succ f ih =>
    cases g with
    | zero => omega
    | succ g =>
      rw [readC, readC]
      split
      · rfl
      split
      · rfl
      split
      · rfl
      rename_i h3
      split
      · rfl
      have h3' : (getP s.big b).2.2 = 0 := by simpa using h3
      obtain ⟨_, _, _, h4, h5, _⟩ := get_ok s.big b h3'
      have : (b.drop (getP s.big b).2.1).length < b.length := by rw [List.length_drop]; omega
      exact ih g _ _ _ _ (by omega) (by omega)
theorem readP_over (l : List PB) (more : List UInt8) (h : allS noS l = true) (hw : ∀ x ∈ l, wfB x) :
    readP (bytesC noS l ++ more) = readC (more.length + 1) (stS noS l) l (bytesC noS l).length more := by
  unfold readP
  have hge := bytesC_ge noS l
  have e : (bytesC noS l ++ more).length + 1 = l.length + ((bytesC noS l).length - l.length + more.length + 1) := by rw [List.length_append]; omega
  rw [e, read_over l _ noS [] 0 more h hw, List.nil_append, Nat.zero_add]
  exact read_fuel _ _ _ _ _ _ (by omega) (by omega)
theorem readP_back (l : List PB) (h : rightC l = true) (hw : ∀ x ∈ l, wfB x) : readP (bytesC noS l) = (l, (0, 0)) := by
  simp [rightC] at h
  have hge := bytesC_ge noS l
  have := readP_over l [] h.1 hw
  rw [List.append_nil] at this
  rw [this, readC]
  have : 0 < l.length := by cases l with | nil => simp at h | cons => simp
  rw [if_pos ⟨rfl, by omega⟩]
theorem read_right (M : Nat) : ∀ (f : Nat) (s : PS) (acc : List PB) (at_ : Nat) (b : List UInt8), allS noS acc = true → stS noS acc = s → (∀ x ∈ acc, wfB x ∧ mayP x = true ∧ sizeB x ≤ M) → b.length + 16 ≤ M → M ≤ 1048576 →
    allS noS (readC f s acc at_ b).1 = true ∧ (∀ x ∈ (readC f s acc at_ b).1, wfB x ∧ mayP x = true ∧ sizeB x ≤ M) ∧ acc.length ≤ (readC f s acc at_ b).1.length ∧ 12 * (readC f s acc at_ b).1.length ≤ 12 * acc.length + b.length := by
  intro f
  induction f with
  | zero => intro s acc at_ b h1 h2 h3 h4 h5; exact ⟨h1, h3, Nat.le_refl _, by simp [readC]⟩
  | succ f ih =>
    intro s acc at_ b h1 h2 h3 h4 h5
    rw [readC]
    split
    · exact ⟨h1, h3, Nat.le_refl _, by simp⟩
    split
    · exact ⟨h1, h3, Nat.le_refl _, by simp⟩
    split
    · exact ⟨h1, h3, Nat.le_refl _, by simp⟩
    rename_i e3
    split
    · exact ⟨h1, h3, Nat.le_refl _, by simp⟩
    rename_i e4
    have e3' : (getP s.big b).2.2 = 0 := by simpa using e3
    have e4' : okS s (getP s.big b).1 = true := by simpa using e4
    obtain ⟨g1, g2, g3, g4, g5, _⟩ := get_ok s.big b e3'
    obtain ⟨i1, i2, i3, i4⟩ := ih (nextS s (getP s.big b).1) (acc ++ [(getP s.big b).1]) (at_ + (getP s.big b).2.1) (b.drop (getP s.big b).2.1)
      (by rw [allS_snoc, h1, h2, Bool.true_and]; exact goS_of e4' g1 (by omega)) (by rw [stS_snoc, h2])
      (fun x hx => by
        rcases List.mem_append.1 hx with hx | hx
        · exact h3 x hx
        · simp at hx; subst hx; exact ⟨g2, g1, by omega⟩)
      (by rw [List.length_drop]; omega) h5
    rw [List.length_append, List.length_singleton] at i3
    rw [List.length_append, List.length_singleton, List.length_drop] at i4
    exact ⟨i1, i2, by omega, by omega⟩
theorem readP_right (b : List UInt8) (M : Nat) (h : b.length + 16 ≤ M) (hM : M ≤ 1048576) : allS noS (readP b).1 = true ∧ (∀ x ∈ (readP b).1, wfB x ∧ mayP x = true ∧ sizeB x ≤ M) ∧ 12 * (readP b).1.length ≤ b.length := by
  obtain ⟨h1, h2, _, h4⟩ := read_right M (b.length + 1) noS [] 0 b rfl rfl (by simp) h hM
  exact ⟨h1, h2, by simpa [readP] using h4⟩
def secsC (l : List PB) : Nat := l.countP fun x => decide (x.kind = 1)
theorem st_sec (s : PS) (l : List PB) : (stS s l).sec = s.sec + (secsC l : Int) := by
  induction l generalizing s with
  | nil => simp [stS, secsC]
  | cons x l ih =>
    rw [stS, ih]
    unfold nextS secsC
    by_cases h : x.kind = 1
    · rw [if_pos h, List.countP_cons_of_pos (by simp [h])]
      show s.sec + 1 + _ = _
      omega
    · rw [if_neg h, List.countP_cons_of_neg (by simp [h])]
      split <;> rfl
theorem pcPut_at (L : List UInt8) (S : Nat) (ad : Option Addr) (n c : Nat) (vs : List BlkV) (hL : L = bytesC noS (bvals vs)) (hS : L.length = S) (hr : rightC (bvals vs) = true) (w : World) (hv : Blks w ad n c vs) (hn : n ≤ 1000000) (hall : ∀ v ∈ vs, SmB v ∧ wfB v.val) :
    Calls Try.prog 30 #[.slice ad n c] w fun e w' => ∃ ad c, e = .returned (.tuple #[.slice ad S c, .int .i64 0]) ∧ w'.ownsRow w.heap.size 5 1 (.slice ad S c) S (BV L) ∧ Below w.heap.size w w' := by
  subst hS
  subst hL
  refine (pcPut_any ad n c vs w hv hn hall).mono fun e w' ⟨hb, h⟩ => ?_
  rcases h with ⟨h, _⟩ | ⟨_, ad, c, he, ho⟩
  · rw [hr] at h; cases h
  · exact ⟨ad, c, he, ho, hb⟩
theorem pcPut_wrong (ad : Option Addr) (n c : Nat) (vs : List BlkV) (hr : rightC (bvals vs) = false) (w : World) (hv : Blks w ad n c vs) (hn : n ≤ 1000000) (hall : ∀ v ∈ vs, SmB v ∧ wfB v.val) :
    Calls Try.prog 30 #[.slice ad n c] w fun e w' => e = .returned (.tuple #[.slice none 0 0, .int .i64 1]) ∧ Below w.heap.size w w' := by
  refine (pcPut_any ad n c vs w hv hn hall).mono fun e w' ⟨hb, h⟩ => ?_
  rcases h with ⟨_, h⟩ | ⟨h, _⟩
  · exact ⟨h, hb⟩
  · rw [hr] at h; cases h
theorem pcRight_at (B : Bool) (ad : Option Addr) (n c : Nat) (vs : List BlkV) (hB : rightC (bvals vs) = B) (w : World) (hv : Blks w ad n c vs) (hn : n ≤ 1000000) (hall : ∀ v ∈ vs, SmB v ∧ wfB v.val) :
    Calls Try.prog 32 #[.slice ad n c] w fun e w' => e = .returned (.bool B) ∧ Below w.heap.size w w' := by
  subst hB
  exact pcRight_any ad n c vs w hv hn hall
theorem z2n (P : List PB) (A : Nat) (E : Int) (M : Nat) (ad : Option Addr) (n c : Nat) (l : List UInt8) (hP : readP l = (P, (A, E))) (hM : P.length = M) (w : World) (hs : Bs w ad n c l) (hn : n ≤ 1000000000) :
    Calls Try.prog 34 #[.slice ad n c] w fun e w' => ∃ ad c vs, e = .returned (.tuple #[.slice ad M c, .agg (spotC (A, E)).toArray]) ∧ bvals vs = P ∧ vs.length = M ∧ OwnBlks w.heap.size w' ad c vs ∧ Below w.heap.size w w' := by
  refine (pcRead_any ad n c l w hs hn).mono fun e w' h => ?_
  obtain ⟨ad, c, vs, he, hv, ho, hb⟩ := h
  rw [hP] at he hv
  have hl : vs.length = M := by rw [← hM, ← z2k]; exact congrArg List.length hv
  subst hl
  exact ⟨ad, c, vs, he, hv, rfl, ho, hb⟩
theorem z30 (p : Nat × Int) : (spotC p).toArray.all (·.oneCell') = true := by simp [spotC, Value.oneCell']
theorem hatE {W w1 a : World} {k : Nat} {o : Obj} (hE : Hid (Below W.heap.size W w1)) (hu : Below w1.heap.size w1 a) (h : Hid (W.heap[k]? = some o)) : a.heap[k]? = some o :=
  ((hE.out.trans (Below.mono hu hE.out.size)).block k (lt_of_block h.out)).trans h.out
theorem hatB {w1 a : World} {k : Nat} {o : Obj} (h : Hid (w1.heap[k]? = some o)) (hu : Below w1.heap.size w1 a) : a.heap[k]? = some o := (hu.block k (lt_of_block h.out)).trans h.out
theorem run_lit0K {o : Oper} {a : Act} {w : World} (ho : o.op = .buildSlice 44 0 #[]) : (execOp a.eval o).run Try.prog w = .ok (.value (.slice (some ⟨w.heap.size, 0, none⟩) 0 0)) (w.alloc (.cells #[] 27)) := by
  obtain ⟨i, hi, hz, hsize, hby⟩ := info_parts elK.info
  have e : (Array.range 0).map (fun _ : Nat => (default : Value)) = #[] := by simp
  simp [execOp, ho, Instr.buildSlice, run_underlying Try.underlying44, sizeOf, typeInfo, hi, newRow, Instr.fill, e, hz, hsize]
theorem step_lit0K {ops : Array Oper} {o : Oper} {a : Act} {w : World} {K : Act → World → Prop} {Q : Exit → Act → World → Prop} {E : Prop} (hgd : o.guard = none) (ho : o.op = .buildSlice 44 0 #[])
    (h : ∀ w1 g, w.heap.size ≤ g → g < w1.heap.size → w1.ownsRow w.heap.size 27 11 (.slice (some ⟨g, 0, none⟩) 0 0) 0 [] → Below w.heap.size w w1 → K (a.put o.dst (.slice (some ⟨g, 0, none⟩) 0 0)) w1) :
    if Region.wanted o (yielded ops a.tmps) = true then Oper.wp Try.prog o a w K Q else E := by
  refine z39 (by simp [Region.wanted, hgd]) (run_lit0K ho) ?_
  refine h _ _ (Nat.le_refl _) (by simp) ?_ ((Below.refl _ _).alloc (Nat.le_refl _) _)
  exact World.ownsRow_lit (size := 11) (base := w.heap.size) (e := 27) w #[] 0 (Nat.le_refl _) (by simp [maxLen]) rfl
theorem step_lit1 {P : Program} {ops : Array Oper} {Q : Exit → Act → World → Prop} {a : Act} {w : World} {K : Act → World → Prop} {E : Prop} {o : Oper} (hgd : o.guard = none) (t e : TypeId) (x : Operand) (ho : o.op = .buildSlice t 1 #[(0, x)]) (cs zs : Array Value) (hx : a.eval x = .agg cs) (k : Nat) (hu : P.underlying t = some (.slice e))
    (hi : (P.info? e).map (fun i => (i.zero, i.size)) = some (some (.agg zs), k)) (hk : 0 < k) (hk2 : k ≤ 16777216)
    (hf : Instr.fill (fun i => some (i * k, k)) ((Array.range (1 * k)).map (zs[· % zs.size]!)) [(0, .agg cs)] = some cs)
    (h : ∀ w1 g, w.heap.size ≤ g → g < w1.heap.size → w1.heap[g]? = some (.cells cs e (0, 0)) → Below w.heap.size w w1 → K (a.put o.dst (.slice (some ⟨g, 0, none⟩) 1 1)) w1) :
    if Region.wanted o (yielded ops a.tmps) = true then Oper.wp P o a w K Q else E :=
  z39 (by simp [Region.wanted, hgd]) (run_lit1 t e x ho cs zs hx k hu hi hk hk2 hf)
    (h _ _ (Nat.le_refl _) (by simp) (heap_alloc_last w _) ((Below.refl _ _).alloc (Nat.le_refl _) _))
theorem z1t {P : Program} {w : World} {ops : Array Oper} {o : Oper} {a : Act} {Q : Exit → Act → World → Prop} {K : Act → World → Prop} {E : Prop} {t e : TypeId} {size bytes : Nat} {z : Value} (el : Elem P t e size bytes z)
    (hgd : Region.wanted o (yielded ops a.tmps) = true) (s x : Operand) (ho : o.op = .call { callee := .builtin .append, args := #[s, x], argTypes := #[t, t] })
    (base : Nat) {ad : Option Addr} {n c : Nat} {xs : List Value} (hs : a.eval s = .slice ad n c) (hown : w.ownsRow base e size (.slice ad n c) n xs)
    {ad2 : Option Addr} {m c2 : Nat} {news : List Value} (hx : a.eval x = .slice ad2 m c2) (hsl : Sl w ad2 m c2 size news) (h1 : ∀ u ∈ news, u.oneCell' = true) (r : Nat) (hr : n + m = r)
    (h63 : r ≤ maxLen) (hbytes : r * bytes ≤ 140737488355328) (hbase : base ≤ w.heap.size)
    (h : ∀ ad' c' w', w'.ownsRow base e size (.slice ad' r c') r (xs ++ news) → w.grownBy w' (Value.ownBlock (.slice ad n c)) → K (a.put o.dst (.slice ad' r c')) w') :
    if Region.wanted o (yielded ops a.tmps) = true then Oper.wp P o a w K Q else E := by
  subst hr
  obtain ⟨ad', c', w', hrun, h2, h3, h4, h5⟩ := run_append (P := P) (ty := o.type) el base hown hsl h1 h63 hbytes hbase
  refine z39 hgd (v := .slice ad' (n + m) c') (w' := w') ?_ (h ad' c' w' h2 h3)
  unfold execOp
  simp only [ho, resolve, invoke, builtin, Sem.run_bind, Sem.run_pure, Result.andThen_ok, List.map_toArray, List.map_cons, List.map_nil, hs, hx, hrun]
theorem step_lit0B {ops : Array Oper} {o : Oper} {a : Act} {w : World} {K : Act → World → Prop} {Q : Exit → Act → World → Prop} {E : Prop} (hgd : o.guard = none) (ho : o.op = .buildSlice 24 0 #[])
    (h : ∀ w1 g, w.heap.size ≤ g → g < w1.heap.size → w1.ownsRow w.heap.size 5 1 (.slice (some ⟨g, 0, none⟩) 0 0) 0 (BV []) → Below w.heap.size w w1 → K (a.put o.dst (.slice (some ⟨g, 0, none⟩) 0 0)) w1) :
    if Region.wanted o (yielded ops a.tmps) = true then Oper.wp Try.prog o a w K Q else E := by
  have hown := World.ownsRow_lit (size := 1) (base := w.heap.size) (e := 5) w #[] 0 (Nat.le_refl _) (by simp [maxLen]) rfl
  exact z39 (by simp [Region.wanted, hgd]) (run_lit0 ho) (h _ _ (Nat.le_refl _) (by simp) hown ((Below.refl _ _).alloc (Nat.le_refl _) _))
theorem z2s {P : Program} {w : World} {ops : Array Oper} {o : Oper} {a : Act} {Q : Exit → Act → World → Prop} {K : Act → World → Prop} {E : Prop} (hgd : Region.wanted o (yielded ops a.tmps) = true) (T : TypeId) (ho : o.op = .alloc T) (z : Value) (zs : Array Value) (n : Nat) (hi : (P.info? T).map (fun i => (i.zero, i.size)) = some (some z, n)) (hz : z.cells = zs)
    (h : ∀ w1 g, w.heap.size ≤ g → g < w1.heap.size → w1.heap[g]? = some (.cells zs T (0, 0)) → Below w.heap.size w w1 → K (a.put o.dst (.pointer (some ⟨g, 0, none⟩))) w1) :
    if Region.wanted o (yielded ops a.tmps) = true then Oper.wp P o a w K Q else E := by
  obtain ⟨hz0, hsz⟩ := zero_of_info hi
  refine z39 hgd (v := .pointer (some ⟨w.heap.size, 0, none⟩)) (w' := w.alloc (.cells zs T)) ?_ (h _ _ (Nat.le_refl _) (by simp) (heap_alloc_last w _) ((Below.refl _ _).alloc (Nat.le_refl _) _))
  simp [execOp, ho, Instr.alloc, hz0, newVar, newRow, hz]
theorem sl_blockN {w : World} {g n size : Nat} {cs : List Value} {ty : TypeId} {fz : Nat × Nat} (h : w.heap[g]? = some (.cells cs.toArray ty fz)) (hn : cs.length = n * size) (hm : n ≤ maxLen) : Sl w (some ⟨g, 0, none⟩) n n size cs :=
  ⟨hn, Nat.le_refl _, hm, (fun e => by cases e), fun j u hj => ⟨_, rfl, by
    have hg := z1u h j
    unfold Addr.add
    split
    · rename_i e; subst e; rw [hg]; exact hj
    · simp only [Nat.zero_add]; rw [hg]; exact hj⟩⟩
theorem wpL_litK {w : World} {ops : Array Oper} {rest : List Oper} {o : Oper} {a : Act} {Q : Exit → Act → World → Prop} (hgd : o.guard = none) (n : Nat) (parts : Array (Nat × Operand)) (ho : o.op = .buildSlice 44 n parts)
    (vs : List BlkV) (hl : n = vs.length) (hpos : 0 < n) (hsmall : n ≤ 1000) (hb : ∀ v ∈ vs, Blk w v)
    (hf : Instr.fill (fun i => some (i * 11, 11)) ((Array.range (n * 11)).map (zeroC[· % zeroC.size]!)) (parts.map fun (i, x) => (i, a.eval x)).toList = some (bcells vs).toArray)
    (h : ∀ w1 g, w.heap.size ≤ g → g < w1.heap.size → Blks w1 (some ⟨g, 0, none⟩) n n vs → Below w.heap.size w w1 → wpList Try.prog ops Q rest (a.put o.dst (.slice (some ⟨g, 0, none⟩) n n)) w1) :
    wpList Try.prog ops Q (o :: rest) a w := by
  obtain ⟨i, hi, hz, hsize, hby⟩ := info_parts elK.info
  refine wpList_buildSlice hgd 44 27 n parts ho (bcells vs).toArray i _ elK.ht hi hz (by rw [hsize]; omega) (by rw [hsize]; omega) (by rw [hsize]; exact hf) ?_
  have hb2 : Below w.heap.size w (w.alloc (.cells (bcells vs).toArray 27)) := (Below.refl _ _).alloc (Nat.le_refl _) _
  exact h _ _ (Nat.le_refl _) (by simp) ⟨sl_blockN (heap_alloc_last w _) (by rw [bcells_length, hl]) (by unfold maxLen; omega), fun v hv => (hb v hv).below hb2⟩ hb2
theorem wpL_one32 {ops : Array Oper} {rest : List Oper} {o : Oper} {a : Act} {w : World} {Q : Exit → Act → World → Prop} (hgd : o.guard = none) (x : Operand) (k : Nat)
    (ho : o.op = .buildSlice 81 1 #[(0, x)]) (hx : a.eval x = .int .u32 (k : Int))
    (h : ∀ w1 g, w.heap.size ≤ g → w1.heap[g]? = some (.cells #[.int .u32 (k : Int)] 22 (0, 0)) → Below w.heap.size w w1 → wpList Try.prog ops Q rest (a.put o.dst (.slice (some ⟨g, 0, none⟩) 1 1)) w1) :
    wpList Try.prog ops Q (o :: rest) a w := by
  obtain ⟨i, hi, hz, hsize, hby⟩ := info_parts elU.info
  refine wpList_buildSlice hgd 81 22 1 _ ho #[.int .u32 (k : Int)] i _ Try.underlying81 hi hz (by rw [hsize]; omega) (by rw [hsize]; omega) (by rw [hsize]; (simp [hx, Instr.fill, Array.range, Value.cells]; rfl)) ?_
  exact h _ _ (Nat.le_refl _) (heap_alloc_last w _) ((Below.refl _ _).alloc (Nat.le_refl _) _)
theorem z3n {w w' : World} {b off : Nat} {cs : List Value} (h : w.rangeAt b off cs) (hb : Below w.heap.size w w') : w'.rangeAt b off cs := fun j u hj => by
  have hc := h j u hj
  rw [hb.cell (World.block_lt_of_cell? w _ hc)]
  exact hc
instance {w w' : World} {b off : Nat} {cs : List Value} : Ck (w.rangeAt b off cs) w' w (w'.rangeAt b off cs) := ⟨fun h hE => z3n h hE⟩
theorem sl_one {w : World} {g : Nat} {v : Value} {ty : TypeId} {fz : Nat × Nat} (h : w.heap[g]? = some (.cells #[v] ty fz)) : Sl w (some ⟨g, 0, none⟩) 1 1 1 [v] :=
  ⟨rfl, Nat.le_refl _, by simp [maxLen], (fun e => by cases e), fun j u hj => ⟨_, rfl, by
    have hg := z1u (cs := [v]) h j
    unfold Addr.add
    split
    · rename_i e; subst e; rw [hg]; exact hj
    · simp only [Nat.zero_add]; rw [hg]; exact hj⟩⟩
theorem snaps_any (ad : Option Addr) (n c : Nat) (vs : List BlkV) (k0 : Nat) (w : World) (hv : Blks w ad n c vs) (hn : n ≤ 1000000) (hk0 : k0 ≤ n) :
    Calls Try.prog 66 #[.slice ad n c, .int .i64 (k0 : Int)] w fun e w' => ∃ st : StV, e = .returned (.tuple #[.slice st.ad st.n st.c, .int .i64 st.sec, .bool st.big]) ∧ st.val = stS noS (bvals (vs.take k0)) ∧ StV.mem w' st ∧ Below w.heap.size w w' := by
  have HV := Hd hv
  have hln := hv.len
  have HLN := Hd hln
  clear hv hln
  go_enter Try.func66, Try.ntmps66
  go_wp2
  go_loopw [7, 8, 9, 10] (fun o s b i wr => ∃ (k : Nat) (st : StV), k ≤ k0 ∧ i = .int .i64 (k : Int) ∧ o = .slice st.ad st.n st.c ∧ s = .int .i64 st.sec ∧ b = .bool st.big ∧ st.sec + 1 ≤ (k : Int) ∧ -1 ≤ st.sec ∧ st.n ≤ k ∧ Hid (st.val = stS noS (bvals (vs.take k))) ∧ Hid (wr.ownsRow w.heap.size 22 1 (.slice st.ad st.n st.c) st.n (UV st.sn)) ∧ Hid (Below w.heap.size w wr)) (fun _ _ _ i _ => k0 - (intOf i).toNat)
  case atStart => exact ⟨0, ⟨-1, false, none, 0, 0, []⟩, by omega, rfl, rfl, rfl, rfl, by simp, by simp, by simp, Hd rfl, Hd (World.ownsRow_nil _ _ _ _), Hd (Below.refl _ _)⟩
  case round =>
    obtain ⟨k, st, hk, rfl, rfl, rfl, rfl, hs1, hs0, hsn, HST, HO, HB⟩ := hrel
    by_cases hend : k = k0
    · subst hend
      go_wp2
      go_ret3
      exact ⟨st, rfl, HST.out, z0r HO.out (Nat.zero_le _), HB.out⟩
    · have hlt : k < n := by omega
      obtain ⟨x, hx⟩ : ∃ x, x = vs[k]'(by have := HLN.out; omega) := ⟨_, rfl⟩
      obtain ⟨b, off, rfl, hbl, hat⟩ := (HV.out.below HB.out).at (by have := HLN.out; omega)
      have HR := Hd (show wr.rangeAt b (off + k * 11) x.cells by rw [hx]; exact hat k (by have := HLN.out; omega))
      have HTK : Hid (bvals (vs.take (k + 1)) = bvals (vs.take k) ++ [x.val]) := Hd (by rw [hx]; exact bvals_take vs k (by have := HLN.out; omega))
      have hc0 := HR.out 0 _ rfl
      have hc1 := HR.out 1 _ rfl
      have hc4 := HR.out 4 _ rfl
      have HC0 := Hd hc0
      have HC1 := Hd hc1
      have HC4 := Hd hc4
      clear hc0 hc1 hc4 hx hat
      have hne := HST.out
      have HNB := Hd (next_bounds st.val x.val)
      have HSN := Hd (Us.len (Sl.of_own HO.out))
      clear hne
      by_cases hk1 : x.kind = 1
      · have HK1 := Hd hk1
        rw [hk1] at HC0
        have HNX : Hid (nextS st.val x.val = ⟨st.sec + 1, x.big, []⟩) := Hd (by unfold nextS; rw [if_pos (show x.val.kind = 1 from hk1)]; rfl)
        clear hk1
        go_wp2_with (first
 | ((with_reducible refine sl 20 ?_); (refine z2e rfl 3 (.tmp 19) rfl b (off + k * 11 + 0) rfl (.int .i64 1) HC0.out Try.underlying3 rfl ?_); simp only [PT])
 | ((with_reducible refine sl 28 ?_); (refine z2e rfl 4 (.tmp 27) rfl b (off + k * 11 + 1) rfl (.bool x.big) HC1.out Try.underlying4 rfl ?_); simp only [PT])
 | ((with_reducible refine sl 33 ?_); (refine z2e rfl 3 (.tmp 32) rfl b (off + k * 11 + 0) rfl (.int .i64 1) HC0.out Try.underlying3 rfl ?_); simp only [PT]))
        go_roundw
        case rel => exact ⟨k + 1, ⟨st.sec + 1, x.big, none, 0, 0, []⟩, by omega, by go_num, rfl, by go_num, rfl, by simp; omega, by simp; omega, by simp, Hd (by rw [HTK.out, stS_snoc, ← HST.out, HNX.out]; rfl), Hd (World.ownsRow_nil _ _ _ _), HB⟩
        case measure => first | (simp [intOf]; done) | (simp [intOf]; omega)
      · by_cases hk2 : x.kind = 2
        · have HK2 := Hd hk2
          rw [hk2] at HC0
          have HNX : Hid (nextS st.val x.val = ⟨st.sec, st.big, st.sn ++ [x.snap]⟩) := Hd (by unfold nextS; rw [if_neg (show ¬ x.val.kind = 1 from hk1), if_pos (show x.val.kind = 2 from hk2)]; rfl)
          clear hk2 hk1
          go_wp2_with (first
 | ((with_reducible refine sl 20 ?_); (refine z2e rfl 3 (.tmp 19) rfl b (off + k * 11 + 0) rfl (.int .i64 2) HC0.out Try.underlying3 rfl ?_); simp only [PT])
 | ((with_reducible refine sl 33 ?_); (refine z2e rfl 3 (.tmp 32) rfl b (off + k * 11 + 0) rfl (.int .i64 2) HC0.out Try.underlying3 rfl ?_); simp only [PT])
 | ((with_reducible refine sl 40 ?_); (refine z2e rfl 22 (.tmp 39) rfl b (off + k * 11 + 4) rfl (.int .u32 (x.snap : Int)) HC4.out Try.underlying22 rfl ?_); simp only [PT])
 | ((with_reducible refine sl 41 ?_); (refine wpL_one32 rfl (.tmp 40) x.snap rfl rfl ?_); intro w6 g6 le6 hg__ hb__; have HN := Hd hg__; replace HO := ck HO hb__; replace HB := ck HB hb__; clear hg__ hb__; simp only [PT])
 | ((with_reducible refine sl 42 ?_); (refine z0k elU rfl (.tmp 35) (.tmp 41) rfl w.heap.size rfl HO.out rfl (sl_one HN.out) (fun u hu => (by simp at hu; subst hu; rfl)) (by unfold maxLen; omega) (by omega) HB.out.size ?_); intro ad9 c9 w9 ho__ hg__ _ _; (replace HB := Hd (HB.out.grown hg__ HB.out.size (z07 HO.out))); replace HO := Hd ho__; clear ho__ hg__ HN; simp only [PT]))
          go_roundw
          case rel => exact ⟨k + 1, ⟨st.sec, st.big, ad9, st.n + 1, c9, st.sn ++ [x.snap]⟩, by omega, by go_num, rfl, rfl, rfl, by simp; omega, hs0, by simp; omega, Hd (by rw [HTK.out, stS_snoc, ← HST.out, HNX.out]; rfl), Hd (by have h := HO.out; simpa [UV] using h), HB⟩
          case measure => first | (simp [intOf]; done) | (simp [intOf]; omega)
        · have HNX : Hid (nextS st.val x.val = st.val) := Hd (by unfold nextS; rw [if_neg (show ¬ x.val.kind = 1 from hk1), if_neg (show ¬ x.val.kind = 2 from hk2)])
          go_wp2_with (first
 | ((with_reducible refine sl 20 ?_); (refine z2e rfl 3 (.tmp 19) rfl b (off + k * 11 + 0) rfl (.int .i64 x.kind) HC0.out Try.underlying3 rfl ?_); simp only [PT])
 | ((with_reducible refine sl 33 ?_); (refine z2e rfl 3 (.tmp 32) rfl b (off + k * 11 + 0) rfl (.int .i64 x.kind) HC0.out Try.underlying3 rfl ?_); simp only [PT]))
          go_roundw
          case rel => exact ⟨k + 1, st, by omega, by go_num, rfl, rfl, rfl, by omega, hs0, by omega, Hd (by rw [HTK.out, stS_snoc, ← HST.out, HNX.out]), HO, HB⟩
          case measure => first | (simp [intOf]; done) | (simp [intOf]; omega)
end Go.Proofs.Ytmfplinbbcoahaa
