/-
  Chapter 25: lists compared, walked.
-/
import Derived.Test.YtmigbcoobbcahaaOpt11
namespace Go.Proofs.Ytmigbcoobbcahaa
open Go.RowKit Go.Sort
set_option linter.unusedVariables false
set_option linter.unusedSimpArgs false

theorem same1_any (o p : OptV) (w : World) (hs : Bs w o.ad o.n o.c o.l) (hs2 : Bs w p.ad p.n p.c p.l) :
    Calls Try.prog 29 #[.agg o.cells.toArray, .agg p.cells.toArray] w fun e w' => e = .returned (.bool (o.code == p.code && sameB o.l p.l)) ∧ Below w.heap.size w w' := by
  have hb : Below w.heap.size w ((w.alloc (.cells o.cells.toArray 43)).alloc (.cells p.cells.toArray 43)) := (by repeat (first | exact Below.refl _ _ | refine Below.drew ?_ | refine Below.trans ?_ (below_drewN _ _ _) | refine Below.alloc ?_ (by first | exact Nat.le_refl _ | (simp; done) | (simp; omega)) _))
  have HB := Lib.hid hb
  have q0 : ((w.alloc (.cells o.cells.toArray 43)).alloc (.cells p.cells.toArray 43)).cell? ⟨w.heap.size, 0, none⟩ = some (.int .i64 o.code) := by simp [OptV.cells]
  have q1 : ((w.alloc (.cells o.cells.toArray 43)).alloc (.cells p.cells.toArray 43)).cell? ⟨w.heap.size, 1, none⟩ = some (.slice o.ad o.n o.c) := by simp [OptV.cells]
  have q2 : ((w.alloc (.cells o.cells.toArray 43)).alloc (.cells p.cells.toArray 43)).cell? ⟨w.heap.size + 1, 0, none⟩ = some (.int .i64 p.code) := by simp [OptV.cells]
  have q3 : ((w.alloc (.cells o.cells.toArray 43)).alloc (.cells p.cells.toArray 43)).cell? ⟨w.heap.size + 1, 1, none⟩ = some (.slice p.ad p.n p.c) := by simp [OptV.cells]
  have HS := Lib.hid (hs.below hb)
  have HS2 := Lib.hid (hs2.below hb)
  clear hb hs hs2
  by_cases hc : o.code = p.code
  · have hne : (o.code == p.code) = true := by simpa using hc
    have HH := Lib.hid hne
    clear hc
    go_enter Try.func29, Try.ntmps29
    go_wp2_with (first
      | (go_at_call 30; go_must (refine (bytesEqual_any o.ad o.n o.c o.l p.ad p.n p.c p.l _ HS.out HS2.out).mono ?_); rintro e w' ⟨rfl, rfl⟩))
    go_ret
    exact ⟨by rw [HH.out]; rfl, HB.out⟩
  · have hne : (o.code == p.code) = false := by simpa using hc
    have HH := Lib.hid hne
    clear hc
    go_enter Try.func29, Try.ntmps29
    go_wp2_with fail
    go_ret
    exact ⟨by rw [HH.out]; rfl, HB.out⟩

theorem wpL_storeC {P : Program} {ops : Array Oper} {rest : List Oper} {o : Oper} {a : Act} {w : World} {Q : Exit → Act → World → Prop} (hgd : o.guard = none) (ty : TypeId) (x y : Operand) (ho : o.op = .store ty x y)
    (g : Nat) (cs : Array Value) (hx : a.eval x = .pointer (some ⟨g, 0, none⟩)) (hy : a.eval y = .agg cs) {T : TypeId} {old : Array Value} (hg : w.heap[g]? = some (.cells old T (0, 0))) (hi : (P.info? ty).map (·.size) = some cs.size) (hl : old.size = cs.size) (h1 : cs.all (·.oneCell') = true)
    (h : ∀ w1, w1.heap[g]? = some (.cells cs T (0, 0)) → w.grownBy w1 (some g) → wpList P ops Q rest (a.put o.dst undef) w1) : wpList P ops Q (o :: rest) a w :=
  wpList_store_row hgd ty x y ho g cs hx hy T _ hg hi hl h1 (h _ (setRow_heap w g _ _ T _ hg) ⟨rfl, rfl, rfl, by simp [World.setRow], fun k _ hk => setRow_other w g k _ (fun e => hk (by rw [e]))⟩)

set_option maxRecDepth 100000 in
set_option maxHeartbeats 2000000 in
theorem equalFunc_any (ad : Option Addr) (n c : Nat) (os : List OptV) (ad2 : Option Addr) (n2 c2 : Nat) (ps : List OptV) (w : World) (hs : Ops w ad n c os) (hs2 : Ops w ad2 n2 c2 ps) :
    Calls Try.prog 28 #[.slice ad n c, .slice ad2 n2 c2, .func (.func 29) #[] #[]] w fun e w' => e = .returned (.bool (decide (vals os = vals ps))) ∧ Below w.heap.size w w' := by
  have hn := hs.len
  have hn2 := hs2.len
  have hle := hs.le
  have HS := Lib.hid hs
  have HS2 := Lib.hid hs2
  have HN := Lib.hid hn
  have HN2 := Lib.hid hn2
  have HI : Hid ((Try.prog.info? 43).map (·.size) = some 2) := Lib.hid (by kernel_rfl)
  by_cases hlen : n = n2
  · clear hs hs2 hn hn2
    subst hlen
    go_enter Try.func28, Try.ntmps28
    go_wp2_with fail
    go_loopw [17] (fun i wr => ∃ k : Nat, k ≤ n ∧ i = .int .i64 k ∧ Hid ((vals os).take k = (vals ps).take k) ∧ Below w.heap.size w wr) (fun i _ => n - (intOf i).toNat)
    case atStart => exact ⟨0, by omega, rfl, Lib.hid rfl, Below.refl _ _⟩
    case round =>
      obtain ⟨k, hk, rfl, HT, hb⟩ := hrel
      have HB := Lib.hid hb
      by_cases hlt : k < n
      · have hko : k < os.length := by have := HN.out; omega
        have hkp : k < ps.length := by have := HN2.out; omega
        obtain ⟨b, off, rfl, hbl, hat⟩ := (HS.out.below hb).at (j := k) hko
        obtain ⟨b2, off2, rfl, hbl2, hat2⟩ := (HS2.out.below hb).at (j := k) hkp
        obtain ⟨q1, q2, hbs⟩ := hat k hko
        obtain ⟨q3, q4, hbs2⟩ := hat2 k hkp
        obtain ⟨o, ho⟩ : ∃ o, o = os[k] := ⟨_, rfl⟩
        obtain ⟨p, hp⟩ : ∃ p, p = ps[k] := ⟨_, rfl⟩
        rw [← ho] at q1 q2 hbs
        rw [← hp] at q3 q4 hbs2
        have hk1 : k < (vals os).length := by rw [vals_length]; omega
        have hk2 : k < (vals ps).length := by rw [vals_length]; omega
        have HVo := Lib.hid (show (vals os)[k] = (o.code, o.l) by rw [vals_get _ _ hko, ← ho]; rfl)
        have HVp := Lib.hid (show (vals ps)[k] = (p.code, p.l) by rw [vals_get _ _ hkp, ← hp]; rfl)
        have HBS := Lib.hid hbs
        have HBS2 := Lib.hid hbs2
        have HR := Lib.hid (ocell_range q1 q2)
        have HR2 := Lib.hid (ocell_range q3 q4)
        clear hat hat2 ho hp hbs hbs2 q1 q2 q3 q4 hb
        by_cases hq : (o.code = p.code ∧ o.l = p.l)
        · have HD := Lib.hid (show (o.code == p.code && sameB o.l p.l) = true by rw [hq.1, hq.2, sameB_self]; simp)
          have HT2 : Hid ((vals os).take (k + 1) = (vals ps).take (k + 1)) := Lib.hid (by
            rw [List.take_add_one, List.take_add_one, HT.out, List.getElem?_eq_getElem hk1, List.getElem?_eq_getElem hk2, HVo.out, HVp.out, hq.1, hq.2])
          clear hq
          go_wp2_with (first
          | ((with_reducible show wpList _ _ _ (⟨some 21, _, _, _, _, _⟩ :: _) _ _); go_must (refine wpL_load rfl 43 (.tmp 20) rfl b (off + k * 2) rfl o.cells _ HR.out Try.underlying43 rfl HI.out ?_); simp only [Act.put, List.setIfInBounds_toArray, List.set_cons_zero, List.set_cons_succ])
          | ((with_reducible show wpList _ _ _ (⟨none, .store _ _ (.tmp 21), _, _, _, _⟩ :: _) _ _); go_must (refine wpL_storeC (T := 43) (old := #[.int .i64 0, .slice none 0 0]) rfl 43 (.tmp 8) (.tmp 21) rfl wr.heap.size o.cells.toArray rfl rfl (heap_alloc_last wr _) HI.out rfl (ocell_all o) ?_); intro w1 hg1 hgr1; have hb1 : Below wr.heap.size wr w1 := ((Below.refl wr.heap.size wr).alloc (Nat.le_refl _) _).grown hgr1 (by simp) (fun k e => by cases e; exact Nat.le_refl _); have HG1 := Lib.hid hg1; have HB1 := Lib.hid hb1; have hE__ := cU HB (by repeat (first | exact Below.refl _ _ | refine Below.drew ?_ | refine Below.trans ?_ (below_drewN _ _ _) | refine Below.alloc ?_ (by first | exact Nat.le_refl _ | (simp; done) | (simp; omega)) _)) hb1; (first | replace HB := cK1 HB hE__); clear hE__; clear hg1 hgr1 hb1; simp only [Act.put, List.setIfInBounds_toArray, List.set_cons_zero, List.set_cons_succ])
          | ((with_reducible show wpList _ _ _ (⟨some 25, _, _, _, _, _⟩ :: _) _ _); go_must (refine wpL_load rfl 43 (.tmp 24) rfl b2 (off2 + k * 2) rfl p.cells _ (range_below HR2.out hbl2 HB1.out) Try.underlying43 rfl HI.out ?_); simp only [Act.put, List.setIfInBounds_toArray, List.set_cons_zero, List.set_cons_succ])
          | ((with_reducible show wpList _ _ _ (⟨some 9, _, _, _, _, _⟩ :: _) _ _); go_must (refine wpL_newO p rfl rfl 43 rfl (.tmp 9) (.tmp 25) rfl #[.int .i64 0, .slice none 0 0] (by kernel_rfl) rfl (fun _ => rfl) (fun _ => rfl) ?_); intro w2 hg2 hb2; have HG2 : Hid (w2.heap[w1.heap.size]? = some (.cells p.cells.toArray 43 (0, 0))) := Lib.hid hg2; have hE__ := cU HB (by repeat (first | exact Below.refl _ _ | refine Below.drew ?_ | refine Below.trans ?_ (below_drewN _ _ _) | refine Below.alloc ?_ (by first | exact Nat.le_refl _ | (simp; done) | (simp; omega)) _)) hb2; (first | replace HB := cK1 HB hE__); (first | replace HG1 := cB1 HG1 hE__ | replace HG1 := cO1 HG1 hE__ | replace HG1 := cG1 HG1 hE__ | replace HG1 := cW1 HG1 hE__ | replace HG1 := cV1 HG1 hE__ | replace HG1 := cP1 HG1 hE__ | replace HG1 := cK1 HG1 hE__); (first | replace HB1 := cK1 HB1 hE__ | replace HB1 := cB1 HB1 hE__ | replace HB1 := cO1 HB1 hE__ | replace HB1 := cG1 HB1 hE__ | replace HB1 := cW1 HB1 hE__ | replace HB1 := cV1 HB1 hE__ | replace HB1 := cP1 HB1 hE__); clear hE__; clear hg2 hb2; simp only [Act.put, List.setIfInBounds_toArray, List.set_cons_zero, List.set_cons_succ])
          | ((with_reducible show wpList _ _ _ (⟨some 27, _, _, _, _, _⟩ :: _) _ _); go_must (refine wpL_load rfl 43 (.tmp 8) rfl wr.heap.size 0 rfl o.cells _ (range_block HG1.out) Try.underlying43 rfl HI.out ?_); simp only [Act.put, List.setIfInBounds_toArray, List.set_cons_zero, List.set_cons_succ])
          | ((with_reducible show wpList _ _ _ (⟨some 28, _, _, _, _, _⟩ :: _) _ _); go_must (refine wpL_load rfl 43 (.tmp 9) rfl w1.heap.size 0 rfl p.cells _ (range_block HG2.out) Try.underlying43 rfl HI.out ?_); simp only [Act.put, List.setIfInBounds_toArray, List.set_cons_zero, List.set_cons_succ])
          | (go_at_call 29; go_must (refine (same1_any o p _ (HBS.out.below HB1.out) (HBS2.out.below HB1.out)).mono ?_); intro e w5 hr5; rw [HD.out] at hr5; obtain ⟨rfl, hb5⟩ := hr5; have hE__ := cU HB (by repeat (first | exact Below.refl _ _ | refine Below.drew ?_ | refine Below.trans ?_ (below_drewN _ _ _) | refine Below.alloc ?_ (by first | exact Nat.le_refl _ | (simp; done) | (simp; omega)) _)) hb5; (first | replace HB := cK1 HB hE__); clear hE__; clear hb5))
          go_roundw
          case rel => exact ⟨k + 1, by omega, by go_num, HT2, HB.out⟩
          case measure => simp [intOf]; omega
        · have HD := Lib.hid (show (o.code == p.code && sameB o.l p.l) = false by
            by_cases e : o.code = p.code
            · have e2 : ¬ o.l = p.l := fun h => hq ⟨e, h⟩
              simp [sameB, e2]
            · simp [e])
          have HF : Hid (decide (vals os = vals ps) = false) := Lib.hid (by
            have hnx : vals os ≠ vals ps := fun e => by
              have h1 := HVo.out
              have h2 := HVp.out
              simp only [e] at h1
              rw [h1] at h2
              exact hq ⟨congrArg Prod.fst h2, congrArg Prod.snd h2⟩
            simpa using hnx)
          clear hq
          go_wp2_with (first
          | ((with_reducible show wpList _ _ _ (⟨some 21, _, _, _, _, _⟩ :: _) _ _); go_must (refine wpL_load rfl 43 (.tmp 20) rfl b (off + k * 2) rfl o.cells _ HR.out Try.underlying43 rfl HI.out ?_); simp only [Act.put, List.setIfInBounds_toArray, List.set_cons_zero, List.set_cons_succ])
          | ((with_reducible show wpList _ _ _ (⟨none, .store _ _ (.tmp 21), _, _, _, _⟩ :: _) _ _); go_must (refine wpL_storeC (T := 43) (old := #[.int .i64 0, .slice none 0 0]) rfl 43 (.tmp 8) (.tmp 21) rfl wr.heap.size o.cells.toArray rfl rfl (heap_alloc_last wr _) HI.out rfl (ocell_all o) ?_); intro w1 hg1 hgr1; have hb1 : Below wr.heap.size wr w1 := ((Below.refl wr.heap.size wr).alloc (Nat.le_refl _) _).grown hgr1 (by simp) (fun k e => by cases e; exact Nat.le_refl _); have HG1 := Lib.hid hg1; have HB1 := Lib.hid hb1; have hE__ := cU HB (by repeat (first | exact Below.refl _ _ | refine Below.drew ?_ | refine Below.trans ?_ (below_drewN _ _ _) | refine Below.alloc ?_ (by first | exact Nat.le_refl _ | (simp; done) | (simp; omega)) _)) hb1; (first | replace HB := cK1 HB hE__); clear hE__; clear hg1 hgr1 hb1; simp only [Act.put, List.setIfInBounds_toArray, List.set_cons_zero, List.set_cons_succ])
          | ((with_reducible show wpList _ _ _ (⟨some 25, _, _, _, _, _⟩ :: _) _ _); go_must (refine wpL_load rfl 43 (.tmp 24) rfl b2 (off2 + k * 2) rfl p.cells _ (range_below HR2.out hbl2 HB1.out) Try.underlying43 rfl HI.out ?_); simp only [Act.put, List.setIfInBounds_toArray, List.set_cons_zero, List.set_cons_succ])
          | ((with_reducible show wpList _ _ _ (⟨some 9, _, _, _, _, _⟩ :: _) _ _); go_must (refine wpL_newO p rfl rfl 43 rfl (.tmp 9) (.tmp 25) rfl #[.int .i64 0, .slice none 0 0] (by kernel_rfl) rfl (fun _ => rfl) (fun _ => rfl) ?_); intro w2 hg2 hb2; have HG2 : Hid (w2.heap[w1.heap.size]? = some (.cells p.cells.toArray 43 (0, 0))) := Lib.hid hg2; have hE__ := cU HB (by repeat (first | exact Below.refl _ _ | refine Below.drew ?_ | refine Below.trans ?_ (below_drewN _ _ _) | refine Below.alloc ?_ (by first | exact Nat.le_refl _ | (simp; done) | (simp; omega)) _)) hb2; (first | replace HB := cK1 HB hE__); (first | replace HG1 := cB1 HG1 hE__ | replace HG1 := cO1 HG1 hE__ | replace HG1 := cG1 HG1 hE__ | replace HG1 := cW1 HG1 hE__ | replace HG1 := cV1 HG1 hE__ | replace HG1 := cP1 HG1 hE__ | replace HG1 := cK1 HG1 hE__); (first | replace HB1 := cK1 HB1 hE__ | replace HB1 := cB1 HB1 hE__ | replace HB1 := cO1 HB1 hE__ | replace HB1 := cG1 HB1 hE__ | replace HB1 := cW1 HB1 hE__ | replace HB1 := cV1 HB1 hE__ | replace HB1 := cP1 HB1 hE__); clear hE__; clear hg2 hb2; simp only [Act.put, List.setIfInBounds_toArray, List.set_cons_zero, List.set_cons_succ])
          | ((with_reducible show wpList _ _ _ (⟨some 27, _, _, _, _, _⟩ :: _) _ _); go_must (refine wpL_load rfl 43 (.tmp 8) rfl wr.heap.size 0 rfl o.cells _ (range_block HG1.out) Try.underlying43 rfl HI.out ?_); simp only [Act.put, List.setIfInBounds_toArray, List.set_cons_zero, List.set_cons_succ])
          | ((with_reducible show wpList _ _ _ (⟨some 28, _, _, _, _, _⟩ :: _) _ _); go_must (refine wpL_load rfl 43 (.tmp 9) rfl w1.heap.size 0 rfl p.cells _ (range_block HG2.out) Try.underlying43 rfl HI.out ?_); simp only [Act.put, List.setIfInBounds_toArray, List.set_cons_zero, List.set_cons_succ])
          | (go_at_call 29; go_must (refine (same1_any o p _ (HBS.out.below HB1.out) (HBS2.out.below HB1.out)).mono ?_); intro e w5 hr5; rw [HD.out] at hr5; obtain ⟨rfl, hb5⟩ := hr5; have hE__ := cU HB (by repeat (first | exact Below.refl _ _ | refine Below.drew ?_ | refine Below.trans ?_ (below_drewN _ _ _) | refine Below.alloc ?_ (by first | exact Nat.le_refl _ | (simp; done) | (simp; omega)) _)) hb5; (first | replace HB := cK1 HB hE__); clear hE__; clear hb5))
          go_ret
          exact ⟨by rw [HF.out]; rfl, HB.out⟩
      · have HF : Hid (decide (vals os = vals ps) = true) := Lib.hid (by
          have h := HT.out
          have e1 := HN.out
          have e2 := HN2.out
          rw [List.take_of_length_le (by rw [vals_length]; omega), List.take_of_length_le (by rw [vals_length]; omega)] at h
          simpa using h)
        go_wp2_with fail
        go_ret
        exact ⟨by rw [HF.out]; rfl, HB.out⟩
  · have HF : Hid (decide (vals os = vals ps) = false) := Lib.hid (by
      have hnx : vals os ≠ vals ps := fun e => hlen (by
        have := congrArg List.length e
        rw [vals_length, vals_length] at this
        omega)
      simpa using hnx)
    clear hs hs2 hn hn2
    go_enter Try.func28, Try.ntmps28
    go_wp2_with fail
    go_ret
    exact ⟨by rw [HF.out]; rfl, Below.refl _ _⟩

theorem optSame_any (ad : Option Addr) (n c : Nat) (os : List OptV) (ad2 : Option Addr) (n2 c2 : Nat) (ps : List OptV) (w : World) (hs : Ops w ad n c os) (hs2 : Ops w ad2 n2 c2 ps) :
    Calls Try.prog 20 #[.slice ad n c, .slice ad2 n2 c2] w fun e w' => e = .returned (.bool (decide (vals os = vals ps))) ∧ Below w.heap.size w w' := by
  have HS := Lib.hid hs
  have HS2 := Lib.hid hs2
  have HB := Lib.hid (Below.refl w.heap.size w)
  clear hs hs2
  go_enter Try.func20, Try.ntmps20
  go_wp2_with (first
    | (go_at_call 28; go_must (refine (equalFunc_any ad n c os ad2 n2 c2 ps _ HS.out HS2.out).mono ?_); rintro e w5 ⟨rfl, hb5⟩; have hE__ := cU HB (by repeat (first | exact Below.refl _ _ | refine Below.drew ?_ | refine Below.trans ?_ (below_drewN _ _ _) | refine Below.alloc ?_ (by first | exact Nat.le_refl _ | (simp; done) | (simp; omega)) _)) hb5; (first | replace HB := cK1 HB hE__); clear hE__; clear hb5))
  go_ret
  exact ⟨rfl, HB.out⟩
end Go.Proofs.Ytmigbcoobbcahaa
