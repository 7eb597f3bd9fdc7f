/-
  Joined by program (merge.py): PcLawK3, PcLawF.
-/
import Derived.Laws.Concat
import Derived.Test.YtmfplinbbcoahaaM10
import Derived.Test.YtmfplinbbcoahaaM11
set_option linter.unusedVariables false
set_option linter.unusedSimpArgs false
set_option maxRecDepth 100000
set_option maxHeartbeats 16000000
namespace Go.Proofs.Ytmfplinbbcoahaa
open Go.RowKit Go.Sort
theorem wpL_storeO {P : Program} {ops : Array Oper} {rest : List Oper} {o : Oper} {a : Act} {w : World} {Q : Exit → Act → World → Prop} (hgd : o.guard = none) (ty : TypeId) (x y : Operand) (ho : o.op = .store ty x y)
    {base : Nat} {e : TypeId} {size g n c : Nat} {xs : List Value} (hown : w.ownsRow base e size (.slice (some ⟨g, 0, none⟩) n c) n xs) (i : Nat) (hi : i < xs.length) (u : Value) (h1 : u.oneCell' = true) (hc : u.cells = #[u]) (hx : a.eval x = .pointer (some ⟨g, i, none⟩)) (hy : a.eval y = u) (hif : (P.info? ty).map (·.size) = some 1)
    (h : ∀ w1, w1.ownsRow base e size (.slice (some ⟨g, 0, none⟩) n c) n (xs.set i u) → w.grownBy w1 (some g) → wpList P ops Q rest (a.put o.dst undef) w1) : wpList P ops Q (o :: rest) a w := by
  have hcell : w.cell? ⟨g, i, none⟩ = some xs[i] := by
    have := hown.cellAt i (by rw [← hown.1]; exact hi)
    rwa [List.getElem?_eq_getElem hi] at this
  have hz := hown.frozenAt i
  obtain ⟨o2, g2⟩ := hown.stored i u
  refine wpList_plain hgd fun _ hK => ?_
  have hrun := run_storeCells_cells (P := P) g i [u] 0 w (fun j hj => by
      have : j = 0 := by simpa using hj
      subst this
      simp [hcell]) (fun j hj => by
      have : j = 0 := by simpa using hj
      subst this
      simpa using hz) (fun v hv => by simp at hv; subst hv; exact h1)
  cases hq : P.info? ty with
  | none => simp [hq] at hif
  | some q =>
    have hs : q.size = 1 := by simpa [hq] using hif
    simp only [Nat.add_zero] at hrun
    have hst : (Instr.storeAt ty (.pointer (some ⟨g, i, none⟩)) u).run P w = .ok () (w.setCell ⟨g, i, none⟩ u) := by
      simp [Instr.storeAt, Instr.sureAddr, storeVar, sizeOf, typeInfo, hq, hc, hs, hrun, World.setCells]
    unfold Oper.wp execOp
    simp only [ho, hx, hy, Sem.run_bind, Sem.run_pure, Result.andThen_ok, hst]
    exact hK _ _ (h _ o2 g2)
theorem reach {Wf W0 w1 a : World} [r0 : Rch Wf W0] [r1 : Rch w1 a] (hE : Hid (Below W0.heap.size W0 w1)) : Below Wf.heap.size Wf a := r0.h.trans ((hE.out.trans (Below.mono r1.h hE.out.size)).mono r0.h.size)
theorem strOf_append (x y : List UInt8) : strOf x ++ strOf y = strOf (x ++ y) := ByteArray.mk_append_mk x y
def onF (d : Int) (v : FrV) : FrV := ⟨v.sec + d, v.iface, v.time, v.len, v.ad, v.n, v.c, v.l⟩
def onK (d : Int) (k : Nat) (fs : List FrV) : List FrV := (fs.take k).map (onF d) ++ fs.drop k
theorem onK_zero (d : Int) (fs : List FrV) : onK d 0 fs = fs := by simp [onK]
theorem onK_all (d : Int) (fs : List FrV) : onK d fs.length fs = fs.map (onF d) := by simp [onK]
theorem onK_length (d : Int) (k : Nat) (fs : List FrV) : (onK d k fs).length = fs.length := by simp [onK, List.length_take, List.length_drop]; omega
theorem onK_get (d : Int) (k : Nat) (fs : List FrV) (h : k < fs.length) : (onK d k fs)[k]? = some fs[k] := by
  unfold onK
  rw [List.getElem?_append_right (by simp [List.length_take]; omega)]
  simp [List.length_take, List.getElem?_drop, Nat.min_eq_left (Nat.le_of_lt h), h]
theorem onK_succ (d : Int) (k : Nat) (fs : List FrV) (h : k < fs.length) : onK d (k + 1) fs = (onK d k fs).set k (onF d fs[k]) := by
  unfold onK
  have e : fs.drop k = fs[k] :: fs.drop (k + 1) := (List.getElem_cons_drop (h := h)).symm
  rw [List.take_add_one, List.getElem?_eq_getElem h, Option.toList_some, List.map_append, List.map_singleton, List.append_assoc, e]
  have hl : ((fs.take k).map (onF d)).length = k := by simp [List.length_take]; omega
  rw [List.set_append_right _ _ (by omega), hl, Nat.sub_self]
  rfl
theorem fcells_set : ∀ (fs : List FrV) (k : Nat) (v : FrV) (hk : k < fs.length), v = ⟨v.sec, fs[k].iface, fs[k].time, fs[k].len, fs[k].ad, fs[k].n, fs[k].c, fs[k].l⟩ → (fcells fs).set (k * 5) (.int .i64 v.sec) = fcells (fs.set k v)
  | f :: fs, 0, v, _, h => by
    have e : fcells (f :: fs) = f.cells ++ fcells fs := rfl
    have e2 : fcells ((f :: fs).set 0 v) = v.cells ++ fcells fs := rfl
    rw [e, e2, h]
    rfl
  | f :: fs, k + 1, v, hk, h => by
    have e : fcells (f :: fs) = f.cells ++ fcells fs := rfl
    have e2 : fcells ((f :: fs).set (k + 1) v) = f.cells ++ fcells (fs.set k v) := rfl
    have hl : f.cells.length = 5 := rfl
    rw [e, e2, List.set_append_right _ _ (by rw [hl]; omega), hl, show (k + 1) * 5 - 5 = k * 5 by omega, fcells_set fs k v (by simpa using hk) h]
theorem frames_secs (s : PS) (l : List PB) : ∀ f ∈ framesR s l, s.sec ≤ f.sec ∧ f.sec ≤ s.sec + l.length := by
  induction l generalizing s with
  | nil => intro f hf; simp [framesR] at hf
  | cons x l ih =>
    intro f hf
    simp only [framesR, List.mem_append] at hf
    rcases hf with hf | hf
    · have : f.sec = s.sec := by
        unfold frameS at hf
        split at hf
        · simp at hf; rw [hf]
        · split at hf
          · simp at hf; rw [hf]
          · simp at hf
      simp only [List.length_cons]
      omega
    · have h1 := ih (nextS s x) f hf
      have h2 := (next_bounds s x).1
      have h3 : s.sec ≤ (nextS s x).sec := by
        unfold nextS
        split
        · show s.sec ≤ s.sec + 1; omega
        · split <;> exact Int.le_refl _
      simp only [List.length_cons]
      omega
theorem Frs.onF {w : World} {ad : Option Addr} {n c : Nat} {fs : List FrV} {d : Int} (h : Sl w ad n c 5 (fcells (fs.map (onF d)))) (hb : ∀ v ∈ fs, Bs w v.ad v.n v.c v.l) : Frs w ad n c (fs.map (Go.Proofs.Ytmfplinbbcoahaa.onF d)) := ⟨h, fun v hv => by
  obtain ⟨u, hu, rfl⟩ := List.mem_map.1 hv
  exact hb u hu⟩
theorem run_lit0F {o : Oper} {a : Act} {w : World} (ho : o.op = .buildSlice 56 0 #[]) : (execOp a.eval o).run Try.prog w = .ok (.value (.slice (some ⟨w.heap.size, 0, none⟩) 0 0)) (w.alloc (.cells #[] 59)) := by
  obtain ⟨i, hi, hz, hsize, hby⟩ := info_parts elF.info
  have e : (Array.range 0).map (fun _ : Nat => (default : Value)) = #[] := by simp
  simp [execOp, ho, Instr.buildSlice, run_underlying Try.underlying56, sizeOf, typeInfo, hi, newRow, Instr.fill, e, hz, hsize]
theorem wpL_lit0F {ops : Array Oper} {rest : List Oper} {o : Oper} {a : Act} {w : World} {Q : Exit → Act → World → Prop} (hgd : o.guard = none) (ho : o.op = .buildSlice 56 0 #[])
    (h : ∀ w1 g, w.heap.size ≤ g → g < w1.heap.size → w1.ownsRow w.heap.size 59 5 (.slice (some ⟨g, 0, none⟩) 0 0) 0 [] → Below w.heap.size w w1 → wpList Try.prog ops Q rest (a.put o.dst (.slice (some ⟨g, 0, none⟩) 0 0)) w1) :
    wpList Try.prog ops Q (o :: rest) a w :=
  wpL_run (by simp [Region.wanted, hgd]) (run_lit0F ho) (h _ _ (Nat.le_refl _) (by simp) (World.ownsRow_lit (size := 5) (base := w.heap.size) (e := 59) w #[] 0 (Nat.le_refl _) (by simp [maxLen]) rfl) ((Below.refl _ _).alloc (Nat.le_refl _) _))
theorem fcells_one (vs : List FrV) : ∀ u ∈ fcells vs, u.oneCell' = true := by
  intro u hu
  obtain ⟨v, _, h⟩ := List.mem_flatMap.1 hu
  exact FrV.one v u h
theorem fcells_append (a b : List FrV) : fcells (a ++ b) = fcells a ++ fcells b := by simp [fcells]
theorem wpL_appS {P : Program} {w : World} {ops : Array Oper} {rest : List Oper} {o : Oper} {a : Act} {Q : Exit → Act → World → Prop} {t e : TypeId} {size bytes : Nat} {z : Value} (el : Elem P t e size bytes z)
    (hgd : Region.wanted o (yielded ops a.tmps) = true) (s x : Operand) (ho : o.op = .call { callee := .builtin .append, args := #[s, x], argTypes := #[t, t] })
    (base : Nat) {ad : Option Addr} {n c : Nat} {xs : List Value} (hs : a.eval s = .slice ad n c) (hown : w.ownsRow base e size (.slice ad n c) n xs)
    {ad2 : Option Addr} {m c2 : Nat} {news : List Value} (hx : a.eval x = .slice ad2 m c2) (hsl : Sl w ad2 m c2 size news) (h1 : ∀ u ∈ news, u.oneCell' = true) (r : Nat) (hr : n + m = r)
    (h63 : r ≤ maxLen) (hbytes : r * bytes ≤ 140737488355328) (hbase : base ≤ w.heap.size)
    (h : ∀ ad' c' w', w'.ownsRow base e size (.slice ad' r c') r (xs ++ news) → Below base w w' → wpList P ops Q rest (a.put o.dst (.slice ad' r c')) w') :
    wpList P ops Q (o :: rest) a w := by
  subst hr
  exact wpL_append el hgd s x ho base hs hown hx hsl h1 h63 hbytes hbase fun ad' c' w' ho' hg _ _ => h ad' c' w' ho' ((Below.refl base w).grown hg hbase (ownBlock_ge hown))
theorem joins27_walk (ad : Option Addr) (n c : Nat) (vs : List BlkV) (ad2 : Option Addr) (n2 c2 : Nat) (vs2 : List BlkV) (w : World) (hv : Blks w ad n c vs) (hw : ∀ v ∈ vs, wfB v.val) (hv2 : Blks w ad2 n2 c2 vs2) (hw2 : ∀ v ∈ vs2, wfB v.val) :
    Calls Try.prog 14 #[.slice ad n c, .slice ad2 n2 c2] w fun e w' => e = .returned (.bool true) ∧ Below w.heap.size w w' := by
  have HB := Hd (Below.refl w.heap.size w)
  have HV := Hd hv
  have hc := hv.le
  have HN := Hd hv.len
  have HW := Hd hw
  obtain ⟨F, hF⟩ : ∃ F, fewC vs = F := ⟨_, rfl⟩
  have HF := Hd hF
  clear hv hw hF
  have HV2 := Hd hv2
  have hc2 := hv2.le
  have HN2 := Hd hv2.len
  have HW2 := Hd hw2
  obtain ⟨F2, hF2⟩ : ∃ F, fewC vs2 = F := ⟨_, rfl⟩
  have HF2 := Hd hF2
  clear hv2 hw2 hF2
  have HSI := Hd spot_size
  cases F
  · skip
    go_enter Try.func14, Try.ntmps14
    go_wp2_with (first
 | (go_at_call 28; (refine (pcAwake_any _).mono ?_); intro e wc1 hr; obtain ⟨rfl, hb__⟩ := hr; have hE__ := cU HB bup hb__; replace HB := ck HB hE__; replace HV := ck HV hE__; replace HV2 := ck HV2 hE__; clear hE__; clear hb__)
 | (go_at_call 29; (with_reducible show Calls _ _ #[Value.slice ad _ _] _ _); (refine (few27_any _ ad n c vs HF.out _ (HV.out.below bup)).mono ?_); intro e wc2 hr; obtain ⟨rfl, hb__⟩ := hr; have hE__ := cU HB bup hb__; replace HB := ck HB hE__; replace HV := ck HV hE__; replace HV2 := ck HV2 hE__; clear hE__; clear hb__))
    go_ret
    exact ⟨rfl, HB.out⟩
  cases F2
  · skip
    go_enter Try.func14, Try.ntmps14
    go_wp2_with (first
 | (go_at_call 28; (refine (pcAwake_any _).mono ?_); intro e wc1 hr; obtain ⟨rfl, hb__⟩ := hr; have hE__ := cU HB bup hb__; replace HB := ck HB hE__; replace HV := ck HV hE__; replace HV2 := ck HV2 hE__; clear hE__; clear hb__)
 | (go_at_call 29; (with_reducible show Calls _ _ #[Value.slice ad _ _] _ _); (refine (few27_any _ ad n c vs HF.out _ (HV.out.below bup)).mono ?_); intro e wc2 hr; obtain ⟨rfl, hb__⟩ := hr; have hE__ := cU HB bup hb__; replace HB := ck HB hE__; replace HV := ck HV hE__; replace HV2 := ck HV2 hE__; clear hE__; clear hb__)
 | (go_at_call 29; (with_reducible show Calls _ _ #[Value.slice ad2 _ _] _ _); (refine (few27_any _ ad2 n2 c2 vs2 HF2.out _ (HV2.out.below bup)).mono ?_); intro e wc3 hr; obtain ⟨rfl, hb__⟩ := hr; have hE__ := cU HB bup hb__; replace HB := ck HB hE__; replace HV := ck HV hE__; replace HV2 := ck HV2 hE__; clear hE__; clear hb__))
    go_ret
    exact ⟨rfl, HB.out⟩
  have hs50 : n ≤ 50 := by have h1 := (fewC_spec HF.out).1; have h2 := HN.out; omega
  have HSM := Hd (fun v hv => ⟨(fewC_spec HF.out).2 v hv, HW.out v hv⟩ : ∀ v ∈ vs, SmB v ∧ wfB v.val)
  have HWA := Hd (wf_all HW.out)
  have hs502 : n2 ≤ 50 := by have h1 := (fewC_spec HF2.out).1; have h2 := HN2.out; omega
  have HSM2 := Hd (fun v hv => ⟨(fewC_spec HF2.out).2 v hv, HW2.out v hv⟩ : ∀ v ∈ vs2, SmB v ∧ wfB v.val)
  have HWA2 := Hd (wf_all HW2.out)
  obtain ⟨R, hR⟩ : ∃ R, rightC (bvals vs) = R := ⟨_, rfl⟩
  have HR := Hd hR
  obtain ⟨R2, hR2⟩ : ∃ R, rightC (bvals vs2) = R := ⟨_, rfl⟩
  have HR2 := Hd hR2
  obtain ⟨LC, hLC⟩ : ∃ L, L = bytesC noS (bvals vs) := ⟨_, rfl⟩
  obtain ⟨S, hS⟩ : ∃ S, LC.length = S := ⟨_, rfl⟩
  have HLC := Hd hLC
  have HS := Hd hS
  obtain ⟨LD, hLD⟩ : ∃ L, L = bytesC noS (bvals vs2) := ⟨_, rfl⟩
  obtain ⟨S2, hS2⟩ : ∃ S, LD.length = S := ⟨_, rfl⟩
  have HLD := Hd hLD
  have HS2 := Hd hS2
  by_cases hb : R = true ∧ R2 = true
  rotate_left
  · clear hR hR2 hLC hS hLD hS2
    cases R
    · cases R2
      · clear hb
        go_enter Try.func14, Try.ntmps14
        go_wp2_with (first
 | (go_at_call 28; (refine (pcAwake_any _).mono ?_); intro e wc1 hr; obtain ⟨rfl, hb__⟩ := hr; have hE__ := cU HB bup hb__; replace HB := ck HB hE__; replace HV := ck HV hE__; replace HV2 := ck HV2 hE__; clear hE__; clear hb__)
 | (go_at_call 29; (with_reducible show Calls _ _ #[Value.slice ad _ _] _ _); (refine (few27_any _ ad n c vs HF.out _ (HV.out.below bup)).mono ?_); intro e wc2 hr; obtain ⟨rfl, hb__⟩ := hr; have hE__ := cU HB bup hb__; replace HB := ck HB hE__; replace HV := ck HV hE__; replace HV2 := ck HV2 hE__; clear hE__; clear hb__)
 | (go_at_call 29; (with_reducible show Calls _ _ #[Value.slice ad2 _ _] _ _); (refine (few27_any _ ad2 n2 c2 vs2 HF2.out _ (HV2.out.below bup)).mono ?_); intro e wc3 hr; obtain ⟨rfl, hb__⟩ := hr; have hE__ := cU HB bup hb__; replace HB := ck HB hE__; replace HV := ck HV hE__; replace HV2 := ck HV2 hE__; clear hE__; clear hb__)
 | (go_at_call 30; (with_reducible show Calls _ _ #[Value.slice ad _ _] _ _); (refine (pcPut_wrong ad n c vs HR.out _ (HV.out.below bup) (by omega) HSM.out).mono ?_); intro e wc4 hr; obtain ⟨rfl, hb__⟩ := hr; have hE__ := cU HB bup hb__; replace HB := ck HB hE__; replace HV := ck HV hE__; replace HV2 := ck HV2 hE__; clear hE__; clear hb__)
 | (go_at_call 30; (with_reducible show Calls _ _ #[Value.slice ad2 _ _] _ _); (refine (pcPut_wrong ad2 n2 c2 vs2 HR2.out _ (HV2.out.below bup) (by omega) HSM2.out).mono ?_); intro e wc5 hr; obtain ⟨rfl, hb__⟩ := hr; have hE__ := cU HB bup hb__; replace HB := ck HB hE__; replace HV := ck HV hE__; replace HV2 := ck HV2 hE__; clear hE__; clear hb__)
 | (go_at_call 32; (with_reducible show Calls _ _ #[Value.slice ad _ _] _ _); (refine (pcRight_at false ad n c vs HR.out _ (HV.out.below bup) (by omega) HSM.out).mono ?_); intro e wc6 hr; obtain ⟨rfl, hb__⟩ := hr; have hE__ := cU HB bup hb__; replace HB := ck HB hE__; replace HV := ck HV hE__; replace HV2 := ck HV2 hE__; clear hE__; clear hb__))
        go_ret
        exact ⟨rfl, HB.out⟩
      · clear hb
        go_enter Try.func14, Try.ntmps14
        go_wp2_with (first
 | (go_at_call 28; (refine (pcAwake_any _).mono ?_); intro e wc1 hr; obtain ⟨rfl, hb__⟩ := hr; have hE__ := cU HB bup hb__; replace HB := ck HB hE__; replace HV := ck HV hE__; replace HV2 := ck HV2 hE__; clear hE__; clear hb__)
 | (go_at_call 29; (with_reducible show Calls _ _ #[Value.slice ad _ _] _ _); (refine (few27_any _ ad n c vs HF.out _ (HV.out.below bup)).mono ?_); intro e wc2 hr; obtain ⟨rfl, hb__⟩ := hr; have hE__ := cU HB bup hb__; replace HB := ck HB hE__; replace HV := ck HV hE__; replace HV2 := ck HV2 hE__; clear hE__; clear hb__)
 | (go_at_call 29; (with_reducible show Calls _ _ #[Value.slice ad2 _ _] _ _); (refine (few27_any _ ad2 n2 c2 vs2 HF2.out _ (HV2.out.below bup)).mono ?_); intro e wc3 hr; obtain ⟨rfl, hb__⟩ := hr; have hE__ := cU HB bup hb__; replace HB := ck HB hE__; replace HV := ck HV hE__; replace HV2 := ck HV2 hE__; clear hE__; clear hb__)
 | (go_at_call 30; (with_reducible show Calls _ _ #[Value.slice ad _ _] _ _); (refine (pcPut_wrong ad n c vs HR.out _ (HV.out.below bup) (by omega) HSM.out).mono ?_); intro e wc4 hr; obtain ⟨rfl, hb__⟩ := hr; have hE__ := cU HB bup hb__; replace HB := ck HB hE__; replace HV := ck HV hE__; replace HV2 := ck HV2 hE__; clear hE__; clear hb__)
 | (go_at_call 30; (with_reducible show Calls _ _ #[Value.slice ad2 _ _] _ _); (refine (pcPut_at LD S2 ad2 n2 c2 vs2 HLD.out HS2.out HR2.out _ (HV2.out.below bup) (by omega) HSM2.out).mono ?_); intro e wc5 hr; obtain ⟨adH6, cH6, rfl, ho__, hb__⟩ := hr; have H6 := Hd (Bs.of_own ho__); clear ho__; have hE__ := cU HB bup hb__; replace HB := ck HB hE__; replace HV := ck HV hE__; replace HV2 := ck HV2 hE__; clear hE__; clear hb__)
 | (go_at_call 32; (with_reducible show Calls _ _ #[Value.slice ad _ _] _ _); (refine (pcRight_at false ad n c vs HR.out _ (HV.out.below bup) (by omega) HSM.out).mono ?_); intro e wc6 hr; obtain ⟨rfl, hb__⟩ := hr; have hE__ := cU HB bup hb__; replace HB := ck HB hE__; replace HV := ck HV hE__; replace HV2 := ck HV2 hE__; replace H6 := ck H6 hE__; clear hE__; clear hb__))
        go_ret
        exact ⟨rfl, HB.out⟩
    · cases R2
      · clear hb
        go_enter Try.func14, Try.ntmps14
        go_wp2_with (first
 | (go_at_call 28; (refine (pcAwake_any _).mono ?_); intro e wc1 hr; obtain ⟨rfl, hb__⟩ := hr; have hE__ := cU HB bup hb__; replace HB := ck HB hE__; replace HV := ck HV hE__; replace HV2 := ck HV2 hE__; clear hE__; clear hb__)
 | (go_at_call 29; (with_reducible show Calls _ _ #[Value.slice ad _ _] _ _); (refine (few27_any _ ad n c vs HF.out _ (HV.out.below bup)).mono ?_); intro e wc2 hr; obtain ⟨rfl, hb__⟩ := hr; have hE__ := cU HB bup hb__; replace HB := ck HB hE__; replace HV := ck HV hE__; replace HV2 := ck HV2 hE__; clear hE__; clear hb__)
 | (go_at_call 29; (with_reducible show Calls _ _ #[Value.slice ad2 _ _] _ _); (refine (few27_any _ ad2 n2 c2 vs2 HF2.out _ (HV2.out.below bup)).mono ?_); intro e wc3 hr; obtain ⟨rfl, hb__⟩ := hr; have hE__ := cU HB bup hb__; replace HB := ck HB hE__; replace HV := ck HV hE__; replace HV2 := ck HV2 hE__; clear hE__; clear hb__)
 | (go_at_call 30; (with_reducible show Calls _ _ #[Value.slice ad _ _] _ _); (refine (pcPut_at LC S ad n c vs HLC.out HS.out HR.out _ (HV.out.below bup) (by omega) HSM.out).mono ?_); intro e wc4 hr; obtain ⟨adH5, cH5, rfl, ho__, hb__⟩ := hr; have H5 := Hd (Bs.of_own ho__); clear ho__; have hE__ := cU HB bup hb__; replace HB := ck HB hE__; replace HV := ck HV hE__; replace HV2 := ck HV2 hE__; clear hE__; clear hb__)
 | (go_at_call 30; (with_reducible show Calls _ _ #[Value.slice ad2 _ _] _ _); (refine (pcPut_wrong ad2 n2 c2 vs2 HR2.out _ (HV2.out.below bup) (by omega) HSM2.out).mono ?_); intro e wc5 hr; obtain ⟨rfl, hb__⟩ := hr; have hE__ := cU HB bup hb__; replace HB := ck HB hE__; replace HV := ck HV hE__; replace HV2 := ck HV2 hE__; replace H5 := ck H5 hE__; clear hE__; clear hb__)
 | (go_at_call 32; (with_reducible show Calls _ _ #[Value.slice ad _ _] _ _); (refine (pcRight_at true ad n c vs HR.out _ (HV.out.below bup) (by omega) HSM.out).mono ?_); intro e wc6 hr; obtain ⟨rfl, hb__⟩ := hr; have hE__ := cU HB bup hb__; replace HB := ck HB hE__; replace HV := ck HV hE__; replace HV2 := ck HV2 hE__; replace H5 := ck H5 hE__; clear hE__; clear hb__)
 | (go_at_call 32; (with_reducible show Calls _ _ #[Value.slice ad2 _ _] _ _); (refine (pcRight_at false ad2 n2 c2 vs2 HR2.out _ (HV2.out.below bup) (by omega) HSM2.out).mono ?_); intro e wc7 hr; obtain ⟨rfl, hb__⟩ := hr; have hE__ := cU HB bup hb__; replace HB := ck HB hE__; replace HV := ck HV hE__; replace HV2 := ck HV2 hE__; replace H5 := ck H5 hE__; clear hE__; clear hb__))
        go_ret
        exact ⟨rfl, HB.out⟩
      · exact absurd ⟨rfl, rfl⟩ hb
  obtain ⟨rfl, rfl⟩ := hb
  have hSn : S ≤ 52428800 := by rw [← hS, hLC]; exact bytes_small hR (by rw [bvals_length]; have := HN.out; omega)
  have hSn2 : S2 ≤ 52428800 := by rw [← hS2, hLD]; exact bytes_small hR2 (by rw [bvals_length]; have := HN2.out; omega)
  have HVA : Hid (bvals (vs ++ vs2) = bvals vs ++ bvals vs2) := Hd (by simp [bvals])
  have HRA : Hid (rightC (bvals (vs ++ vs2)) = true) := Hd (by rw [HVA.out]; exact right_join _ _ hR hR2)
  have HLA : Hid (LC ++ LD = bytesC noS (bvals (vs ++ vs2))) := Hd (by rw [HVA.out, bytes_join _ _ hR2, hLC, hLD])
  have HSA : Hid ((LC ++ LD).length = S + S2) := Hd (by rw [List.length_append, hS, hS2])
  have HSMA := Hd (fun v hv => by rcases List.mem_append.1 hv with h | h; exact HSM.out v h; exact HSM2.out v h : ∀ v ∈ vs ++ vs2, SmB v ∧ wfB v.val)
  have HRDA : Hid (readP (LC ++ LD) = (bvals (vs ++ vs2), (0, 0))) := Hd (by rw [HLA.out]; exact readP_back _ HRA.out (fun x hx => by rw [HVA.out] at hx; rcases List.mem_append.1 hx with h | h; exact HWA.out x h; exact HWA2.out x h))
  have HMA : Hid ((bvals (vs ++ vs2)).length = n + n2) := Hd (by rw [bvals_length, List.length_append, ← HN.out, ← HN2.out])
  have HFA := Hd (frames_join (bvals vs) (bvals vs2) hR2)
  have HVw := HV
  have hz1 : (strOf LC).size ≤ 52428800 := by have h : (strOf LC).size = LC.length := rfl; omega
  have hz2 : (strOf LD).size ≤ 52428800 := by have h : (strOf LD).size = LD.length := rfl; omega
  have hne2 : ((strOf (LC ++ LD)).toList != (strOf LC ++ strOf LD).toList) = false := by rw [strOf_append]; simp
  have hne3 : ((strOf (LC ++ LD)).toList == (strOf LC ++ strOf LD).toList) = true := by rw [strOf_append]; simp
  clear hR hR2 hLC hS hLD hS2
  go_enter Try.func14, Try.ntmps14
  go_wp2_with (first
 | (go_at_call 28; (refine (pcAwake_any _).mono ?_); intro e wc1 hr; obtain ⟨rfl, hb__⟩ := hr; have hE__ := cU HB bup hb__; replace HB := ck HB hE__; replace HV := ck HV hE__; replace HV2 := ck HV2 hE__; clear hE__; clear hb__)
 | (go_at_call 29; (with_reducible show Calls _ _ #[Value.slice ad _ _] _ _); (refine (few27_any _ ad n c vs HF.out _ (HV.out.below bup)).mono ?_); intro e wc2 hr; obtain ⟨rfl, hb__⟩ := hr; have hE__ := cU HB bup hb__; replace HB := ck HB hE__; replace HV := ck HV hE__; replace HV2 := ck HV2 hE__; clear hE__; clear hb__)
 | (go_at_call 29; (with_reducible show Calls _ _ #[Value.slice ad2 _ _] _ _); (refine (few27_any _ ad2 n2 c2 vs2 HF2.out _ (HV2.out.below bup)).mono ?_); intro e wc3 hr; obtain ⟨rfl, hb__⟩ := hr; have hE__ := cU HB bup hb__; replace HB := ck HB hE__; replace HV := ck HV hE__; replace HV2 := ck HV2 hE__; clear hE__; clear hb__)
 | (go_at_call 30; (with_reducible show Calls _ _ #[Value.slice ad _ _] _ _); (refine (pcPut_at LC S ad n c vs HLC.out HS.out HR.out _ (HV.out.below bup) (by omega) HSM.out).mono ?_); intro e wc4 hr; obtain ⟨adH5, cH5, rfl, ho__, hb__⟩ := hr; have H5 := Hd (Bs.of_own ho__); clear ho__; have hE__ := cU HB bup hb__; replace HB := ck HB hE__; replace HV := ck HV hE__; replace HV2 := ck HV2 hE__; clear hE__; clear hb__)
 | (go_at_call 30; (with_reducible show Calls _ _ #[Value.slice ad2 _ _] _ _); (refine (pcPut_at LD S2 ad2 n2 c2 vs2 HLD.out HS2.out HR2.out _ (HV2.out.below bup) (by omega) HSM2.out).mono ?_); intro e wc5 hr; obtain ⟨adH6, cH6, rfl, ho__, hb__⟩ := hr; have H6 := Hd (Bs.of_own ho__); clear ho__; have hE__ := cU HB bup hb__; replace HB := ck HB hE__; replace HV := ck HV hE__; replace HV2 := ck HV2 hE__; replace H5 := ck H5 hE__; clear hE__; clear hb__)
 | ((with_reducible refine sl 56 ?_); (refine wpL_lit0K rfl rfl ?_); intro wl56 gl56 le56 lt56 hown__ hb__; have HE := Hd hb__; have HQ := Hd hown__; clear hown__ hb__; simp only [PT])
 | ((with_reducible refine sl 58 ?_); (refine wpL_appS elK rfl (.tmp 56) (.tmp 57) rfl _ rfl (own_keep HQ.out bup) rfl (HV.out.1.below (reach HE)) (bcells_one _) (n) (by omega) (by unfold maxLen; omega) (by omega) (Nat.le_trans HE.out.size (bsz bup)) ?_); intro ad58 c58 wa58 ho__ hb__; (replace HE := cEb HE bup hb__); clear HQ; have HQ := Hd ho__; clear ho__ hb__; simp only [PT])
 | ((with_reducible refine sl 60 ?_); (refine wpL_appS elK rfl (.tmp 58) (.tmp 59) rfl _ rfl (own_keep HQ.out bup) rfl (HV2.out.1.below (reach HE)) (bcells_one _) (n + n2) (rfl) (by unfold maxLen; omega) (by omega) (Nat.le_trans HE.out.size (bsz bup)) ?_); intro ad60 c60 wa60 ho__ hb__; (replace HE := cEb HE bup hb__); clear HQ; have HQ := Hd ho__; clear ho__ hb__; have hb__ := HE.out; have hE__ := cU HB bup hb__; replace HB := ck HB hE__; replace HV := ck HV hE__; replace HV2 := ck HV2 hE__; replace H5 := ck H5 hE__; replace H6 := ck H6 hE__; clear hE__; clear hb__ HE; have HAB := Hd (show Blks _ ad60 (n + n2) c60 (vs ++ vs2) from ⟨by rw [bcells_append]; exact Sl.of_own HQ.out, fun v hv => by rcases List.mem_append.1 hv with h | h; exact HV.out.2 v h; exact HV2.out.2 v h⟩); clear HQ; simp only [PT])
 | (go_at_call 30; (with_reducible show Calls _ _ #[Value.slice ad60 _ _] _ _); (refine (pcPut_at (LC ++ LD) (S + S2) ad60 (n + n2) c60 (vs ++ vs2) HLA.out HSA.out HRA.out _ (HAB.out.below bup) (by omega) HSMA.out).mono ?_); intro e wc6 hr; obtain ⟨ad7, c7, rfl, ho__, hb__⟩ := hr; have H7 := Hd (Bs.of_own ho__); clear ho__; have hE__ := cU HB bup hb__; replace HB := ck HB hE__; replace HV := ck HV hE__; replace HV2 := ck HV2 hE__; replace H5 := ck H5 hE__; replace H6 := ck H6 hE__; replace HAB := ck HAB hE__; clear hE__; clear hb__)
 | ((with_reducible refine sl 67 ?_); (refine wpL_lit0 rfl rfl ?_); intro wl67 gl67 le67 hown__ hb__; have HE := Hd hb__; have HQ := Hd hown__; clear hown__ hb__; simp only [PT])
 | ((with_reducible refine sl 69 ?_); (refine wpL_appS elB rfl (.tmp 67) (.tmp 68) rfl _ rfl (own_keep HQ.out bup) rfl (H5.out.below (reach HE)) (BV_one _) (S) (by simp) (by unfold maxLen; omega) (by omega) (Nat.le_trans HE.out.size (bsz bup)) ?_); intro ad69 c69 wa69 ho__ hb__; (replace HE := cEb HE bup hb__); clear HQ; have HQ := Hd ho__; clear ho__ hb__; simp only [PT])
 | ((with_reducible refine sl 71 ?_); (refine wpL_appS elB rfl (.tmp 69) (.tmp 70) rfl _ rfl (own_keep HQ.out bup) rfl (H6.out.below (reach HE)) (BV_one _) (S + S2) (rfl) (by unfold maxLen; omega) (by omega) (Nat.le_trans HE.out.size (bsz bup)) ?_); intro ad71 c71 wa71 ho__ hb__; (replace HE := cEb HE bup hb__); clear HQ; have HQ := Hd ho__; clear ho__ hb__; have hb__ := HE.out; have hE__ := cU HB bup hb__; replace HB := ck HB hE__; replace HV := ck HV hE__; replace HV2 := ck HV2 hE__; replace H5 := ck H5 hE__; replace H6 := ck H6 hE__; replace HAB := ck HAB hE__; replace H7 := ck H7 hE__; clear hE__; clear hb__ HE; have H8 := Hd (show Bs _ ad71 (S + S2) c71 (LC ++ LD) from Sl.of_own (by rw [BV_append]; exact HQ.out)); clear HQ; simp only [PT])
 | (go_at_call 34; (with_reducible show Calls _ _ #[Value.slice ad71 _ _] _ _); (refine (pcRead_at (bvals (vs ++ vs2)) 0 0 (n + n2) ad71 (S + S2) c71 (LC ++ LD) HRDA.out HMA.out _ (H8.out.below bup) (by omega)).mono ?_); intro e wc7 hr; obtain ⟨adx, cx, vsx, rfl, hvx, hlx, ho__, hb__⟩ := hr; have HX := Hd (show Blks _ adx (n + n2) cx vsx from hlx ▸ ho__.blks); have HVX := Hd hvx; clear ho__ hvx hlx; have hE__ := cU HB bup hb__; replace HB := ck HB hE__; replace HV := ck HV hE__; replace HV2 := ck HV2 hE__; replace H5 := ck H5 hE__; replace H6 := ck H6 hE__; replace HAB := ck HAB hE__; replace H7 := ck H7 hE__; clear hE__; clear hb__)
 | ((with_reducible refine sl 13 ?_); (refine wpL_allocG rfl 49 rfl (.agg (spotC (0, 0)).toArray) (spotC (0, 0)).toArray 2 (by kernel_rfl) rfl ?_); intro ws13 g13 he__ le_g13 lt_g13 hg__ hb__; have HG13 := Hd hg__; have HE13 := Hd hb__; clear hg__ hb__ he__; simp only [PT])
 | ((with_reducible show wpList _ _ _ (⟨none, .store _ (.tmp 13) (.tmp 74), _, _, _, _⟩ :: _) _ _); (refine wpL_storeRow rfl 49 (.tmp 13) (.tmp 74) rfl g13 (spotC (0, 0)).toArray rfl rfl HG13.out HSI.out rfl (spot_one _) ?_); intro wt13 hs__ hr__; (have hb__ := HE13.out.grown hr__ HE13.out.size (fun k e => (by cases e; exact le_g13))); (have hE__ := cU HB bup hb__; replace HB := ck HB hE__; replace HV := ck HV hE__; replace HV2 := ck HV2 hE__; replace H5 := ck H5 hE__; replace H6 := ck H6 hE__; replace HAB := ck HAB hE__; replace H7 := ck H7 hE__; replace HX := ck HX hE__; clear hE__); clear HG13 HE13; have HG13 := Hd hs__; clear hs__ hr__ hb__; simp only [PT])
 | ((with_reducible refine sl 79 ?_); (refine wpL_str elB.1 (by kernel_rfl) (by kernel_rfl) rfl (.tmp 78) rfl rfl (H7.out.below bup) ?_); simp only [PT])
 | ((with_reducible refine sl 81 ?_); (refine wpL_str elB.1 (by kernel_rfl) (by kernel_rfl) rfl (.tmp 80) rfl rfl (H5.out.below bup) ?_); simp only [PT])
 | ((with_reducible refine sl 83 ?_); (refine wpL_str elB.1 (by kernel_rfl) (by kernel_rfl) rfl (.tmp 82) rfl rfl (H6.out.below bup) ?_); simp only [PT])
 | ((with_reducible refine sl 88 ?_); (refine wpL_load rfl 49 (.tmp 13) rfl g13 0 rfl (spotC (0, 0)) _ (range_block HG13.out) Try.underlying49 rfl HSI.out ?_); simp only [PT])
 | ((with_reducible refine sl 90 ?_); (refine wpL_neS (0, 0) (0, 0) false (by simp) rfl (.tmp 88) (.tmp 89) rfl rfl rfl ?_); simp only [PT])
 | (go_at_call 36; (refine (refSameC_true adx (n + n2) cx vsx ad60 (n + n2) c60 (vs ++ vs2) HVX.out _ (HX.out.below bup) (HAB.out.below bup) (by omega)).mono ?_); intro e wc8 hr; obtain ⟨rfl, hb__⟩ := hr; have hE__ := cU HB bup hb__; replace HB := ck HB hE__; replace HV := ck HV hE__; replace HV2 := ck HV2 hE__; replace HAB := ck HAB hE__; clear hE__; clear hb__))
  have HBp := HB
  have HVp := HV
  have HV2p := HV2
  have HABp := HAB
  clear HB HV HV2 HAB
  go_loopw [14, 15] (fun s i wr => ∃ (k T : Nat), k ≤ n ∧ T ≤ k ∧ i = .int .i64 (k : Int) ∧ s = .int .i64 (T : Int) ∧ Hid (T = secsC (bvals (vs.take k))) ∧ Hid (Below wc8.heap.size wc8 wr)) (fun _ i _ => n - (intOf i).toNat)
  case atStart => exact ⟨0, 0, by omega, by omega, rfl, rfl, Hd rfl, Hd (Below.refl _ _)⟩
  case round =>
    obtain ⟨k, T, hk, hTk, rfl, rfl, HT, HR1⟩ := hrel
    by_cases hend : k = n
    · have hk50 : T ≤ 50 := by omega
      have HTD : Hid (T = secsC (bvals vs)) := Hd (by rw [HT.out, hend, HN.out, List.take_length])
      have HB := Hd (HBp.out.trans (HR1.out.mono HBp.out.size))
      have HV := Hd (HVp.out.below HR1.out)
      have HV2 := Hd (HV2p.out.below HR1.out)
      have HAB := Hd (HABp.out.below HR1.out)
      subst hend
      clear HT HR1 HBp HVp HV2p HABp
      go_wp2_with (first
 | (go_at_call 37; (with_reducible show Calls _ _ #[Value.slice ad _ _] _ _); (refine (pcFrames_any ad k c vs _ (HV.out.below bup) (by omega) HSM.out).mono ?_); intro e wc51 hr; obtain ⟨hb__, adf, cf, fs, rfl, ho__, hof__, hfr__, hfl⟩ := hr; have HU := Hd (show Frs _ adf fs.length cf fs from ⟨Sl.of_own ho__, fun v hv => Bs.of_own (hof__ v hv)⟩); have HUV := Hd (hfr__ HR.out); clear ho__ hof__ hfr__; have hE__ := cU HB bup hb__; replace HB := ck HB hE__; replace HV := ck HV hE__; replace HV2 := ck HV2 hE__; replace HAB := ck HAB hE__; clear hE__; clear hb__)
 | (go_at_call 37; (with_reducible show Calls _ _ #[Value.slice ad2 _ _] _ _); (refine (pcFrames_any ad2 n2 c2 vs2 _ (HV2.out.below bup) (by omega) HSM2.out).mono ?_); intro e wv hr; obtain ⟨hb__, adg, cg, gs, rfl, ho__, hof__, hfr__, hgl⟩ := hr; have HE := Hd hb__; have HGO := Hd ho__; have HGF := Hd hof__; have HGV := Hd (hfr__ HR2.out); clear ho__ hof__ hfr__ hb__))
      go_loopw [18] (fun i wr => ∃ (j : Nat), j ≤ gs.length ∧ i = .int .i64 (j : Int) ∧ Hid (wr.ownsRow wc51.heap.size 59 5 (.slice adg gs.length cg) gs.length (fcells (onK (T : Int) j gs))) ∧ Hid (∀ v ∈ gs, OwnF wc51.heap.size wr v) ∧ Hid (Below wc51.heap.size wc51 wr)) (fun i _ => gs.length - (intOf i).toNat)
      case atStart => exact ⟨0, by omega, rfl, by rw [onK_zero]; exact HGO, HGF, HE⟩
      case round =>
        obtain ⟨j, hj, rfl, HGOr, HGFr, HEr⟩ := hrel
        clear HGO HGF HE
        have HGO := HGOr
        have HGF := HGFr
        have HE := HEr
        clear HGOr HGFr HEr
        by_cases hjn : j = gs.length
        · have HGW := Hd (show Frs _ adg gs.length cg (gs.map (onF (T : Int))) from Frs.onF (by have h := Sl.of_own HGO.out; rw [hjn, onK_all] at h; exact h) (fun v hv => Bs.of_own (HGF.out v hv)))
          have hjl : gs.length ≤ j := by omega
          have hb__ := HE.out
          have hE__ := cU HB bup hb__; replace HB := ck HB hE__; replace HV := ck HV hE__; replace HV2 := ck HV2 hE__; replace HAB := ck HAB hE__; replace HU := ck HU hE__; clear hE__
          clear HGO HGF HE hb__ hjn
          go_wp2_with (first
 | (go_at_call 37; (with_reducible show Calls _ _ #[Value.slice ad60 _ _] _ _); (refine (pcFrames_any ad60 (k + n2) c60 (vs ++ vs2) _ (HAB.out.below bup) (by omega) HSMA.out).mono ?_); intro e wc61 hr; obtain ⟨hb__, adh, ch, hs, rfl, ho__, hof__, hfr__, hhl⟩ := hr; have HH := Hd (show Frs _ adh hs.length ch hs from ⟨Sl.of_own ho__, fun v hv => Bs.of_own (hof__ v hv)⟩); have HHV := Hd (hfr__ HRA.out); clear ho__ hof__ hfr__; have hE__ := cU HB bup hb__; replace HB := ck HB hE__; replace HU := ck HU hE__; replace HGW := ck HGW hE__; clear hE__; clear hb__)
 | ((with_reducible refine sl 135 ?_); (refine wpL_lit0F rfl rfl ?_); intro wl135 gl135 le135 lt135 hown__ hb__; have HE := Hd hb__; have HQ := Hd hown__; clear hown__ hb__; simp only [PT])
 | ((with_reducible refine sl 137 ?_); (refine wpL_appS elF rfl (.tmp 135) (.tmp 136) rfl _ rfl (own_keep HQ.out bup) rfl (HU.out.1.below (reach HE)) (fcells_one _) (fs.length) (by omega) (by unfold maxLen; omega) (by omega) (Nat.le_trans HE.out.size (bsz bup)) ?_); intro ad137 c137 wa137 ho__ hb__; (replace HE := cEb HE bup hb__); clear HQ; have HQ := Hd ho__; clear ho__ hb__; simp only [PT])
 | ((with_reducible refine sl 139 ?_); (refine wpL_appS elF rfl (.tmp 137) (.tmp 138) rfl _ rfl (own_keep HQ.out bup) rfl (HGW.out.1.below (reach HE)) (fcells_one _) (fs.length + gs.length) (rfl) (by unfold maxLen; omega) (by omega) (Nat.le_trans HE.out.size (bsz bup)) ?_); intro ad139 c139 wa139 ho__ hb__; (replace HE := cEb HE bup hb__); clear HQ; have HQ := Hd ho__; clear ho__ hb__; have hb__ := HE.out; have hE__ := cU HB bup hb__; replace HB := ck HB hE__; replace HU := ck HU hE__; replace HGW := ck HGW hE__; replace HH := ck HH hE__; clear hE__; clear hb__ HE; have HZ := Hd (show Frs _ ad139 (fs.length + gs.length) c139 (fs ++ gs.map (onF (T : Int))) from ⟨by rw [fcells_append]; exact Sl.of_own HQ.out, fun v hv => by rcases List.mem_append.1 hv with h | h; exact HU.out.2 v h; exact HGW.out.2 v h⟩); clear HQ; simp only [PT])
 | (go_at_call 38; (refine (refSameF_true adh hs.length ch hs ad139 (fs.length + gs.length) c139 (fs ++ gs.map (onF (T : Int))) (by rw [HHV.out, HVA.out, HFA.out, List.map_append, HUV.out, ← HGV.out, List.map_map, List.map_map, ← HTD.out]; rfl) _ (HH.out.below bup) (HZ.out.below bup) (by omega)).mono ?_); intro e wc62 hr; obtain ⟨rfl, hb__⟩ := hr; have hE__ := cU HB bup hb__; replace HB := ck HB hE__; replace HU := ck HU hE__; replace HGW := ck HGW hE__; replace HH := ck HH hE__; replace HZ := ck HZ hE__; clear hE__; clear hb__))
          go_ret
          exact ⟨rfl, HB.out⟩
        · have hjlt : j < gs.length := by omega
          obtain ⟨g, rfl, _, _⟩ := own_some HGO.out (by omega)
          obtain ⟨x, hx⟩ : ∃ x, x = gs[j] := ⟨_, rfl⟩
          have hxs := frames_secs noS (bvals vs2) x.val (by rw [← HGV.out, hx]; exact List.mem_map_of_mem (List.getElem_mem _))
          rw [bvals_length, ← HN2.out] at hxs
          have hx1 : -1 ≤ x.sec := hxs.1
          have hx2 : x.sec ≤ 50 := by have h : x.sec ≤ (-1 : Int) + n2 := hxs.2; omega
          have HCL : Hid (wr.cell? ⟨g, j * 5, none⟩ = some (.int .i64 x.sec)) := Hd (by
            rw [HGO.out.cellAt (j * 5) (by omega)]
            have h := fcells_get (onK (T : Int) j gs) j 0 (by rw [onK_length]; exact hjlt) (by omega)
            rw [Nat.add_zero] at h
            rw [h]
            have h2 := onK_get (T : Int) j gs hjlt
            rw [List.getElem?_eq_getElem (by rw [onK_length]; exact hjlt)] at h2
            rw [Option.some.inj h2, ← hx]
            rfl)
          have HNX : Hid ((fcells (onK (T : Int) j gs)).set (j * 5) (.int .i64 (x.sec + (T : Int))) = fcells (onK (T : Int) (j + 1) gs)) := Hd (by
            have h2 := onK_get (T : Int) j gs hjlt
            have h3 : (onK (T : Int) j gs)[j]'(by rw [onK_length]; exact hjlt) = gs[j] := by
              rw [List.getElem?_eq_getElem (by rw [onK_length]; exact hjlt)] at h2
              exact Option.some.inj h2
            rw [onK_succ (T : Int) j gs hjlt, ← hx]
            exact fcells_set (onK (T : Int) j gs) j (onF (T : Int) x) (by rw [onK_length]; exact hjlt) (by rw [h3, ← hx]; rfl))
          have hlen : j * 5 < (fcells (onK (T : Int) j gs)).length := by rw [fcells_length, onK_length]; omega
          have HLEN := Hd hlen
          clear hx hxs hlen
          go_wp2_with (first
 | ((with_reducible refine sl 128 ?_); (refine wpL_loadC rfl 3 (.tmp 127) rfl g (j * 5) rfl (.int .i64 x.sec) HCL.out Try.underlying3 rfl ?_); simp only [PT])
 | ((with_reducible show wpList _ _ _ (⟨none, .store _ (.tmp 132) (.tmp 130), _, _, _, _⟩ :: _) _ _); (refine wpL_storeO rfl 3 (.tmp 132) (.tmp 130) rfl HGO.out (j * 5) HLEN.out (.int .i64 (x.sec + (T : Int))) rfl rfl rfl rfl (by kernel_rfl) ?_); intro w21 hs__ hr__; (replace HGF := Hd (fun v hv => own_other (HGF.out v hv) HGO.out hr__ (by decide) : ∀ v ∈ gs, OwnF wc51.heap.size w21 v)); (replace HE := Hd (HE.out.grown hr__ HE.out.size (fun k e => ownBlock_ge HGO.out k e))); (rw [HNX.out] at hs__); clear HGO; have HGO := Hd hs__; clear hs__ hr__; simp only [PT]))
          go_roundw
          case rel => exact ⟨j + 1, by omega, by go_num, HGO, HGF, HE⟩
          case measure => first | (simp [intOf]; done) | (simp [intOf]; omega)
    · have hlt : k < n := by omega
      obtain ⟨x, hx⟩ : ∃ x, x = vs[k]'(by have := HN.out; omega) := ⟨_, rfl⟩
      have HTK : Hid (bvals (vs.take (k + 1)) = bvals (vs.take k) ++ [x.val]) := Hd (by rw [hx]; exact bvals_take vs k (by have := HN.out; omega))
      obtain ⟨b, off, rfl, hbl, hat⟩ := (HVp.out.below HR1.out).at (by have := HN.out; omega)
      have HRX := Hd (show wr.rangeAt b (off + k * 11) x.cells by rw [hx]; exact hat k (by have := HN.out; omega))
      clear hx hat
      by_cases hk1 : x.kind = 1
      · have HC := Hd (show wr.cell? ⟨b, off + k * 11 + 0, none⟩ = some (.int .i64 1) by rw [← hk1]; exact HRX.out 0 _ rfl)
        have HSX : Hid (T + 1 = secsC (bvals (vs.take (k + 1)))) := Hd (by rw [HTK.out, secsC_snoc, if_pos (show x.val.kind = 1 from hk1), HT.out])
        clear hk1
        go_wp2_with (first
 | ((with_reducible refine sl 108 ?_); (refine wpL_loadC rfl 3 (.tmp 107) rfl b (off + k * 11 + 0) rfl (.int .i64 1) HC.out Try.underlying3 rfl ?_); simp only [PT]))
        go_roundw
        case rel => exact ⟨k + 1, T + 1, by omega, by omega, by go_num, by go_num, HSX, HR1⟩
        case measure => first | (simp [intOf]; done) | (simp [intOf]; omega)
      · have HC := Hd (show wr.cell? ⟨b, off + k * 11 + 0, none⟩ = some (.int .i64 x.kind) from HRX.out 0 _ rfl)
        have HSX : Hid (T = secsC (bvals (vs.take (k + 1)))) := Hd (by rw [HTK.out, secsC_snoc, if_neg (show ¬ x.val.kind = 1 from hk1), HT.out]; rfl)
        go_wp2_with (first
 | ((with_reducible refine sl 108 ?_); (refine wpL_loadC rfl 3 (.tmp 107) rfl b (off + k * 11 + 0) rfl (.int .i64 x.kind) HC.out Try.underlying3 rfl ?_); simp only [PT]))
        go_roundw
        case rel => exact ⟨k + 1, T, by omega, by omega, by go_num, rfl, HSX, HR1⟩
        case measure => first | (simp [intOf]; done) | (simp [intOf]; omega)
end Go.Proofs.Ytmfplinbbcoahaa
