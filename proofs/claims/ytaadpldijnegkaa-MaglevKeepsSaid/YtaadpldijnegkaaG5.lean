/-
  Joined by program (merge.py): Mg13, MgS, Mg14, Mg15, Mg16.
-/
import Derived.Test.YtaadpldijnegkaaG4
/-
  Chapter 17: the document's Few and May: walked. How names compare in the document's code.
-/
namespace Go.Proofs.Ytaadpldijnegkaa
open Go.RowKit Go.Sort
set_option linter.unusedVariables false
set_option linter.unusedSimpArgs false
set_option maxRecDepth 100000
set_option maxHeartbeats 8000000

theorem bl_cb : ∀ a b : List UInt8, Op.bytesLess a b = decide (Lib.compareBytes a b < 0)
  | [], [] => by simp [Op.bytesLess, Lib.compareBytes]
  | [], _ :: _ => by simp [Op.bytesLess, Lib.compareBytes]
  | _ :: _, [] => by simp [Op.bytesLess, Lib.compareBytes]
  | a :: x, b :: y => by
    have ih := bl_cb x y
    simp only [Op.bytesLess, Lib.compareBytes]
    by_cases h1 : a < b
    · simp [h1]
    · by_cases h2 : b < a
      · have : (a == b) = false := by rw [beq_eq_false_iff_ne]; intro e; subst e; exact h1 h2
        simp [h1, h2, this]
      · have : a = b := by
          apply UInt8.toNat_inj.1
          rw [UInt8.lt_iff_toNat_lt] at h1 h2
          omega
        simp [h1, h2, this, ih]
theorem nmL_less (a b : ByteArray) : Op.bytesLess a.toList b.toList = nmL a b := by
  rw [toL_eq, toL_eq, bl_cb]
  rfl
/-- what Few says -/
def few17R (xs : List ShV) (e : Ending) : Prop := ∃ b, e = .returned (.bool b) ∧ (b = true → xs.length ≤ 30 ∧ ∀ x ∈ xs, x.name.size ≤ 60)
theorem few17_any (ad : Option Addr) (n c : Nat) (xs : List ShV) (w : World) (hv : Shs w ad n c xs) :
    Calls Try.prog 11 #[.slice ad n c] w fun e w' => few17R xs e ∧ Below w.heap.size w w' := by
  have HV := Lib.hid hv
  have hle := hv.le
  have HLN := Lib.hid hv.len
  clear hv
  go_enter Try.func11, Try.ntmps11
  go_wp2_with fail
  go_loop [3] (fun i => ∃ k : Nat, k ≤ n ∧ k ≤ 50 ∧ i = .int .i64 (k : Int) ∧ Hid (∀ x ∈ xs.take k, x.name.size ≤ 60)) (fun i => 1000 - (intOf i).toNat)
  case atStart => exact ⟨0, by omega, by omega, rfl, Lib.hid (by simp)⟩
  case round =>
    obtain ⟨k, hk, hk2, rfl, HA⟩ := hrel
    by_cases hend : k = n
    · subst hend
      have HT : Hid (xs.take k = xs) := Lib.hid (by rw [HLN.out, List.take_length])
      by_cases h1 : k ≤ 30
      · go_wp2_with fail
        go_ret
        exact ⟨⟨_, rfl, fun _ => ⟨by rw [← HLN.out]; exact h1, by rw [← HT.out]; exact HA.out⟩⟩, Below.refl _ _⟩
      · go_wp2_with fail
        go_ret
        exact ⟨⟨_, rfl, fun h => by simp at h; omega⟩, Below.refl _ _⟩
    by_cases hbig : k = 50
    · subst hbig
      have h80 : ¬ n ≤ 30 := by omega
      go_wp2_with fail
      go_ret
      exact ⟨⟨_, rfl, fun h => by simp at h; omega⟩, Below.refl _ _⟩
    have hlt : k < n := by omega
    have hlt2 : k < 50 := by omega
    obtain ⟨x, hx⟩ : ∃ x, x = xs[k]'(by have := HLN.out; omega) := ⟨_, rfl⟩
    obtain ⟨b, off, rfl, hbl, hat⟩ := HV.out.at (by have := HLN.out; omega)
    have HR := Lib.hid (show w.rangeAt b (off + k * 2) x.cells by rw [hx]; exact hat k (by have := HLN.out; omega))
    have HX : Hid (∀ y ∈ xs.take (k + 1), y = x ∨ y ∈ xs.take k) := Lib.hid (by
      intro y hy
      rw [List.take_succ_eq_append_getElem (by have := HLN.out; omega), List.mem_append, List.mem_singleton] at hy
      rcases hy with h | h
      · exact .inr h
      · exact .inl (by rw [h, hx]))
    clear hat
    have HCN := Lib.hid (sh_name HR.out)
    rcases Nat.lt_or_ge 60 x.name.size with h60 | h60
    · have HBAD : Hid (x ∈ xs) := Lib.hid (by rw [hx]; exact List.getElem_mem _)
      clear hx HR HX
      go_wp2_with ((with_reducible refine sl 18 ?_); go_must (refine wpL_loadC rfl 9 (.tmp 17) rfl b _ rfl (.string x.name) HCN.out Try.underlying9 rfl ?_); simp only [PT])
      go_ret
      exact ⟨⟨_, rfl, fun h => by cases h⟩, Below.refl _ _⟩
    · clear hx HR
      go_wp2_with ((with_reducible refine sl 18 ?_); go_must (refine wpL_loadC rfl 9 (.tmp 17) rfl b _ rfl (.string x.name) HCN.out Try.underlying9 rfl ?_); simp only [PT])
      go_round
      case rel => exact ⟨k + 1, by omega, by omega, by go_num, Lib.hid (by
        intro y hy
        rcases HX.out y hy with rfl | h
        · exact h60
        · exact HA.out y h)⟩
      case measure => simp [intOf]; omega

/-- may shares be, by the document -/
def okS (xs : List ShV) (i : Nat) : Prop := 0 ≤ (xs.getD i zeroS).q ∧ (xs.getD i zeroS).q ≤ 1024000 ∧ ∀ k, k < i → (xs.getD k zeroS).name ≠ (xs.getD i zeroS).name
def mayR (xs : List ShV) : Prop := xs.length ≤ 1024 ∧ ∀ i, i < xs.length → okS xs i
noncomputable instance (xs : List ShV) : Decidable (mayR xs) := Classical.propDecidable _
theorem refMay_any (ad : Option Addr) (n c : Nat) (xs : List ShV) (w : World) (hv : Shs w ad n c xs) :
    Calls Try.prog 14 #[.slice ad n c] w fun e w' => e = .returned (.bool (decide (mayR xs))) ∧ Below w.heap.size w w' := by
  have HV := Lib.hid hv
  have hle := hv.le
  have hln := hv.len
  subst hln
  have HAT : Hid (∀ i (hi : i < xs.length), ∃ b off, ad = some ⟨b, off, none⟩ ∧ b < w.heap.size ∧ w.rangeAt b (off + i * 2) xs[i].cells) := Lib.hid (fun i hi => by
    obtain ⟨b, off, h1, h2, h3⟩ := hv.at (by omega)
    exact ⟨b, off, h1, h2, h3 i hi⟩)
  have HG : Hid (∀ i (hi : i < xs.length), xs.getD i zeroS = xs[i]) := Lib.hid (fun i hi => by rw [List.getD_eq_getElem?_getD, List.getElem?_eq_getElem hi]; rfl)
  clear hv
  by_cases hbig : 1024 < xs.length
  · have HN : Hid (decide (mayR xs) = false) := Lib.hid (decide_eq_false (fun h => by have := h.1; omega))
    have hbi : (1024 : Int) < (xs.length : Int) := by omega
    go_enter Try.func14, Try.ntmps14
    go_wp2_with fail
    go_ret
    rw [HN.out]
    exact ⟨rfl, Below.refl _ _⟩
  have hnb : ¬ (1024 : Int) < (xs.length : Int) := by omega
  go_enter Try.func14, Try.ntmps14
  go_wp2_with fail
  go_loopw [3] (fun i wr => ∃ k : Nat, k ≤ xs.length ∧ i = .int .i64 (k : Int) ∧ Hid (∀ j, j < k → okS xs j) ∧ Hid (Below w.heap.size w wr)) (fun i _ => xs.length - (intOf i).toNat)
  case atStart => exact ⟨0, by omega, rfl, Lib.hid (fun j hj => by omega), Lib.hid (Below.refl _ _)⟩
  case round =>
    obtain ⟨k, hk, rfl, HOK, HB⟩ := hrel
    by_cases hend : k = xs.length
    · subst hend
      have HY : Hid (decide (mayR xs) = true) := Lib.hid (decide_eq_true ⟨by omega, HOK.out⟩)
      go_wp2_with fail
      go_ret
      rw [HY.out]
      exact ⟨rfl, HB.out⟩
    have hlt : k < xs.length := by omega
    have hlt' : (k : Int) < (xs.length : Int) := by omega
    obtain ⟨b, off, rfl, hbl, hat⟩ := HAT.out k hlt
    obtain ⟨x, hx⟩ : ∃ x, x = xs[k] := ⟨_, rfl⟩
    rw [← hx] at hat
    have HX : Hid (xs.getD k zeroS = x) := Lib.hid (by rw [HG.out k hlt, hx])
    have hr := range_below hat hbl HB.out
    obtain ⟨q, hq⟩ : ∃ q, q = x.q := ⟨_, rfl⟩
    obtain ⟨nm, hnm⟩ : ∃ nm, nm = x.name := ⟨_, rfl⟩
    have cq : wr.cell? ⟨b, off + k * 2 + 1, none⟩ = some (.int .i64 q) := by rw [hq]; exact sh_q hr
    have HQ := Lib.hid hq
    have HNM := Lib.hid hnm
    have HCN : Hid (w.cell? ⟨b, off + k * 2, none⟩ = some (.string nm)) := Lib.hid (by rw [hnm]; exact sh_name hat)
    have HNO : Hid (¬ okS xs k → decide (mayR xs) = false) := Lib.hid (fun h => decide_eq_false (fun hm => h (hm.2 k hlt)))
    clear hat hx hr hq hnm
    by_cases hq0 : q < 0
    · go_wp2_with fail
      go_ret
      rw [HNO.out (fun h => by have := h.1; rw [HX.out, ← HQ.out] at this; omega)]
      exact ⟨rfl, HB.out⟩
    by_cases hq1 : 1024000 < q
    · go_wp2_with fail
      go_ret
      rw [HNO.out (fun h => by have := h.2.1; rw [HX.out, ← HQ.out] at this; omega)]
      exact ⟨rfl, HB.out⟩
    have hq0' : 0 ≤ q := by omega
    have hq1' : q ≤ 1024000 := by omega
    obtain ⟨wv, hwv⟩ : ∃ wv, wv = wr := ⟨_, rfl⟩
    subst hwv
    go_wp2_with fail
    go_loopw [4] (fun j wr => ∃ m : Nat, m ≤ k ∧ j = .int .i64 (m : Int) ∧ Hid (∀ i, i < m → (xs.getD i zeroS).name ≠ nm) ∧ Hid (Below w.heap.size w wr)) (fun j _ => k - (intOf j).toNat)
    case atStart => exact ⟨0, by omega, rfl, Lib.hid (fun i hi => by omega), HB⟩
    case round =>
      clear cq HB
      obtain ⟨m, hm, rfl, HNE, HB⟩ := hrel
      by_cases hmk : m = k
      · subst hmk
        go_wp2_with fail
        go_roundw
        case rel => exact ⟨m + 1, by omega, by go_num, Lib.hid (fun j hj => by
          rcases Nat.lt_or_ge j m with g | g
          · exact HOK.out j g
          · obtain rfl : j = m := by omega
            exact ⟨by rw [HX.out, ← HQ.out]; exact hq0', by rw [HX.out, ← HQ.out]; exact hq1', fun i hi => by rw [HX.out, ← HNM.out]; exact HNE.out i hi⟩), HB⟩
        case measure => simp [intOf]; omega
      · have hmlt : m < k := by omega
        have hmlt' : (m : Int) < (k : Int) := by omega
        have hmx : m < xs.length := by omega
        obtain ⟨b2, off2, e2, hb2, hat2⟩ := HAT.out m hmx
        cases e2
        obtain ⟨nm2, hnm2⟩ : ∃ nm2, nm2 = xs[m].name := ⟨_, rfl⟩
        have c1 : wr.cell? ⟨b, off + m * 2, none⟩ = some (.string nm2) := by rw [hnm2]; exact (HB.out.cell (p := ⟨b, off + m * 2, none⟩) hbl).trans (sh_name hat2)
        have c2 : wr.cell? ⟨b, off + k * 2, none⟩ = some (.string nm) := (HB.out.cell (p := ⟨b, off + k * 2, none⟩) hbl).trans HCN.out
        have HN2 : Hid ((xs.getD m zeroS).name = nm2) := Lib.hid (by rw [HG.out m hmx, hnm2])
        have hm0 : (m : Int) < (xs.length : Int) := by omega
        clear hat2 hnm2
        by_cases hee : nm2 = nm
        · go_wp2_with fail
          go_quiet (fail)
          go_wp2_with fail
          go_ret
          rw [HNO.out (fun h => h.2.2 m hmlt (by rw [HX.out, HN2.out, ← HNM.out]; exact hee))]
          exact ⟨rfl, by first | exact HB.out | exact HB.out.trans (below_drewN _ _ _) | exact HB.out.drew⟩
        · have hbe : (nm2.toList == nm.toList) = false := nm_ne hee
          go_wp2_with fail
          go_quiet (fail)
          go_wp2_with fail
          go_roundw
          case rel => exact ⟨m + 1, by omega, by go_num, Lib.hid (fun i hi => by
            rcases Nat.lt_or_ge i m with g | g
            · exact HNE.out i g
            · obtain rfl : i = m := by omega
              rw [HN2.out]
              exact hee), Lib.hid (by first | exact HB.out | exact HB.out.trans (below_drewN _ _ _) | exact HB.out.drew)⟩
          case measure => simp [intOf]; omega
end Go.Proofs.Ytaadpldijnegkaa
/-
  Chapter 17: laws of single operations as steps of a region that draws its order.
-/
namespace Go.Proofs.Ytaadpldijnegkaa
open Go.RowKit Go.Sort
set_option linter.unusedVariables false
set_option linter.unusedSimpArgs false

theorem run_lit0G {P : Program} {t e : TypeId} {size bytes : Nat} {z : Value} (el : Elem P t e size bytes z) {o : Oper} {a : Act} {w : World} (ho : o.op = .buildSlice t 0 #[]) : (execOp a.eval o).run P w = .ok (.value (.slice (some ⟨w.heap.size, 0, none⟩) 0 0)) (w.alloc (.cells #[] e)) := by
  obtain ⟨i, hi, hz, hsize, hby⟩ := info_parts el.info
  have e : (Array.range 0).map (fun _ : Nat => (default : Value)) = #[] := by simp
  simp [execOp, ho, Instr.buildSlice, run_underlying el.ht, sizeOf, typeInfo, hi, newRow, Instr.fill, e, hz, hsize]
/-- '[]T{}' in a drawn region -/
theorem step_lit0G {P : Program} {t e : TypeId} {size bytes : Nat} {z : Value} (el : Elem P t e size bytes z) {ops : Array Oper} {o : Oper} {a : Act} {w : World} {K : Act → World → Prop} {Q : Exit → Act → World → Prop} {E : Prop} (hgd : o.guard = none) (ho : o.op = .buildSlice t 0 #[])
    (h : ∀ w1 g, w.heap.size ≤ g → g < w1.heap.size → w1.ownsRow w.heap.size e size (.slice (some ⟨g, 0, none⟩) 0 0) 0 [] → Below w.heap.size w w1 → K (a.put o.dst (.slice (some ⟨g, 0, none⟩) 0 0)) w1) :
    if Region.wanted o (yielded ops a.tmps) = true then Oper.wp P o a w K Q else E := by
  refine step_run2 (by simp [Region.wanted, hgd]) (run_lit0G el ho) ?_
  refine h _ _ (Nat.le_refl _) (by simp) ?_ ((Below.refl _ _).alloc (Nat.le_refl _) _)
  exact World.ownsRow_lit (size := size) (base := w.heap.size) (e := e) w #[] 0 (Nat.le_refl _) (by simp [maxLen]) (by simp)
theorem step_lit1 {P : Program} {ops : Array Oper} {Q : Exit → Act → World → Prop} {a : Act} {w : World} {K : Act → World → Prop} {E : Prop} {o : Oper} (hgd : o.guard = none) (t e : TypeId) (x : Operand) (ho : o.op = .buildSlice t 1 #[(0, x)]) (cs zs : Array Value) (hx : a.eval x = .agg cs) (k : Nat) (hu : P.underlying t = some (.slice e))
    (hi : (P.info? e).map (fun i => (i.zero, i.size)) = some (some (.agg zs), k)) (hk : 0 < k) (hk2 : k ≤ 16777216)
    (hf : Instr.fill (fun i => some (i * k, k)) ((Array.range (1 * k)).map (zs[· % zs.size]!)) [(0, .agg cs)] = some cs)
    (h : ∀ w1 g, w.heap.size ≤ g → g < w1.heap.size → w1.heap[g]? = some (.cells cs e (0, 0)) → Below w.heap.size w w1 → K (a.put o.dst (.slice (some ⟨g, 0, none⟩) 1 1)) w1) :
    if Region.wanted o (yielded ops a.tmps) = true then Oper.wp P o a w K Q else E :=
  step_run2 (by simp [Region.wanted, hgd]) (run_lit1 t e x ho cs zs hx k hu hi hk hk2 hf)
    (h _ _ (Nat.le_refl _) (by simp) (heap_alloc_last w _) ((Below.refl _ _).alloc (Nat.le_refl _) _))
theorem step_appG {P : Program} {w : World} {ops : Array Oper} {o : Oper} {a : Act} {Q : Exit → Act → World → Prop} {K : Act → World → Prop} {E : Prop} {t e : TypeId} {size bytes : Nat} {z : Value} (el : Elem P t e size bytes z)
    (hgd : Region.wanted o (yielded ops a.tmps) = true) (s x : Operand) (ho : o.op = .call { callee := .builtin .append, args := #[s, x], argTypes := #[t, t] })
    (base : Nat) {ad : Option Addr} {n c : Nat} {xs : List Value} (hs : a.eval s = .slice ad n c) (hown : w.ownsRow base e size (.slice ad n c) n xs)
    {ad2 : Option Addr} {m c2 : Nat} {news : List Value} (hx : a.eval x = .slice ad2 m c2) (hsl : Sl w ad2 m c2 size news) (h1 : ∀ u ∈ news, u.oneCell' = true) (r : Nat) (hr : n + m = r)
    (h63 : r ≤ maxLen) (hbytes : r * bytes ≤ 140737488355328) (hbase : base ≤ w.heap.size)
    (h : ∀ ad' c' w', w'.ownsRow base e size (.slice ad' r c') r (xs ++ news) → w.grownBy w' (Value.ownBlock (.slice ad n c)) → K (a.put o.dst (.slice ad' r c')) w') :
    if Region.wanted o (yielded ops a.tmps) = true then Oper.wp P o a w K Q else E := by
  subst hr
  obtain ⟨ad', c', w', hrun, h2, h3, h4, h5⟩ := run_append (P := P) (ty := o.type) el base hown hsl h1 h63 hbytes hbase
  refine step_run2 hgd (v := .slice ad' (n + m) c') (w' := w') ?_ (h ad' c' w' h2 h3)
  unfold execOp
  simp only [ho, resolve, invoke, builtin, Sem.run_bind, Sem.run_pure, Result.andThen_ok, List.map_toArray, List.map_cons, List.map_nil, hs, hx, hrun]
theorem keep_other {w w' : World} {k g n c : Nat} {ob : Obj} (h : w.heap[k]? = some ob) (hg : w.grownBy w' (Value.ownBlock (.slice (some ⟨g, 0, none⟩) n c))) (hne : k ≠ g) : w'.heap[k]? = some ob :=
  (hg.block k (lt_of_block h) (fun e => hne (by cases e; rfl))).trans h
end Go.Proofs.Ytaadpldijnegkaa
/-
  Chapter 17: the document's Rising: walked.
-/
namespace Go.Proofs.Ytaadpldijnegkaa
open Go.RowKit Go.Sort
set_option linter.unusedVariables false
set_option linter.unusedSimpArgs false
set_option maxRecDepth 100000
set_option maxHeartbeats 8000000

/-- a share put where it belongs -/
def insN (x : ShV) : List ShV → List ShV
  | [] => [x]
  | a :: l => if nmL a.name x.name = true then a :: insN x l else x :: a :: l
def risL (xs : List ShV) : List ShV := xs.foldl (fun o x => if x.q = 0 then o else insN x o) []
theorem risL_snoc (xs : List ShV) (x : ShV) : risL (xs ++ [x]) = if x.q = 0 then risL xs else insN x (risL xs) := by simp [risL, List.foldl_append]
theorem insN_len (x : ShV) : ∀ l : List ShV, (insN x l).length = l.length + 1
  | [] => rfl
  | a :: l => by
    unfold insN
    split
    · simp [insN_len x l]
    · rfl
theorem insN_split (x : ShV) : ∀ (l : List ShV) (k : Nat), k ≤ l.length → (∀ j, j < k → nmL (l.getD j zeroS).name x.name = true) → (k = l.length ∨ nmL (l.getD k zeroS).name x.name = false) → insN x l = l.take k ++ [x] ++ l.drop k
  | [], k, hk, _, _ => by
    simp only [List.length_nil] at hk
    obtain rfl : k = 0 := by omega
    rfl
  | a :: l, 0, _, _, h2 => by
    rcases h2 with h2 | h2
    · simp at h2
    · unfold insN
      rw [if_neg (by rw [show (a :: l).getD 0 zeroS = a from rfl] at h2; rw [h2]; simp)]
      rfl
  | a :: l, k + 1, hk, h1, h2 => by
    have ih := insN_split x l k (by simpa using hk) (fun j hj => by have := h1 (j + 1) (by omega); simpa using this) (by
      rcases h2 with h2 | h2
      · exact .inl (by simpa using h2)
      · exact .inr (by simpa using h2))
    unfold insN
    rw [if_pos (by have := h1 0 (by omega); simpa using this), ih]
    rfl
theorem ris_fold_le : ∀ (xs o : List ShV), (xs.foldl (fun o x => if x.q = 0 then o else insN x o) o).length ≤ o.length + xs.length
  | [], o => by simp
  | x :: xs, o => by
    rw [List.foldl_cons]
    have := ris_fold_le xs (if x.q = 0 then o else insN x o)
    have h2 : (if x.q = 0 then o else insN x o).length ≤ o.length + 1 := by
      split
      · omega
      · rw [insN_len]; omega
    simp only [List.length_cons]
    omega
theorem risL_le (xs : List ShV) : (risL xs).length ≤ xs.length := by
  have := ris_fold_le xs []
  simpa [risL] using this
theorem shC_take (l : List ShV) (m : Nat) : (shC l).take (m * 2) = shC (l.take m) := by
  induction l generalizing m with
  | nil => simp [shC]
  | cons a l ih =>
    cases m with
    | zero => simp [shC]
    | succ m =>
      have e : shC (a :: l) = a.cells ++ shC l := rfl
      have e2 : shC ((a :: l).take (m + 1)) = a.cells ++ shC (l.take m) := rfl
      rw [e, e2, ← ih m, List.take_append, ShV.length]
      congr 1
      · exact List.take_of_length_le (by rw [ShV.length]; omega)
      · congr 1; omega
theorem shC_drop (l : List ShV) (m : Nat) : (shC l).drop (m * 2) = shC (l.drop m) := by
  induction l generalizing m with
  | nil => simp [shC]
  | cons a l ih =>
    cases m with
    | zero => simp [shC]
    | succ m =>
      have e : shC (a :: l) = a.cells ++ shC l := rfl
      rw [e, List.drop_succ_cons, ← ih m, List.drop_append, ShV.length, List.drop_of_length_le (by rw [ShV.length]; omega), List.nil_append]
      congr 1; omega
theorem Shs.pre {w : World} {ad : Option Addr} {n c : Nat} {l : List ShV} (h : Shs w ad n c l) (m : Nat) (hm : m ≤ n) : Sl w (subAd ad c 0 2) (m - 0) (c - 0) 2 (shC (l.take m)) := by
  have h2 := Sl.sub h (Nat.zero_le m) hm
  rw [Nat.zero_mul, List.drop_zero, Nat.sub_zero, shC_take] at h2
  exact h2
theorem Shs.suf {w : World} {ad : Option Addr} {n c : Nat} {l : List ShV} (h : Shs w ad n c l) (m : Nat) (hm : m ≤ n) : Sl w (subAd ad c m 2) (n - m) (c - m) 2 (shC (l.drop m)) := by
  have h2 := Sl.sub h hm (Nat.le_refl n)
  rw [shC_drop] at h2
  have hl := h.len
  rwa [List.take_of_length_le (by rw [shC_length, List.length_drop]; omega)] at h2
theorem sl_sh {w : World} {g : Nat} {x : ShV} {ty : TypeId} {fz : Nat × Nat} (h : w.heap[g]? = some (.cells x.cells.toArray ty fz)) : Sl w (some ⟨g, 0, none⟩) 1 1 2 x.cells := sl_block h
theorem ins_cells {x : ShV} {L : List ShV} {m : Nat} (h : insN x L = L.take m ++ [x] ++ L.drop m) : shC (insN x L) = shC (L.take m) ++ x.cells ++ shC (L.drop m) := by rw [h, shC_append, shC_append]; simp [shC]
theorem refRising_any (ad : Option Addr) (n c : Nat) (xs : List ShV) (hn : n ≤ 1024) (w : World) (hv : Shs w ad n c xs) :
    Calls Try.prog 20 #[.slice ad n c] w fun e w' => ∃ ad' c', e = .returned (.slice ad' (risL xs).length c') ∧ w'.ownsRow w.heap.size 48 2 (.slice ad' (risL xs).length c') (risL xs).length (shC (risL xs)) ∧ Below w.heap.size w w' := by
  have hle := hv.le
  have hln := hv.len
  subst hln
  have HAT : Hid (∀ i (hi : i < xs.length), ∃ b off, ad = some ⟨b, off, none⟩ ∧ b < w.heap.size ∧ w.rangeAt b (off + i * 2) xs[i].cells) := Lib.hid (fun i hi => by
    obtain ⟨b, off, h1, h2, h3⟩ := hv.at (by omega)
    exact ⟨b, off, h1, h2, h3 i hi⟩)
  clear hv
  go_enter Try.func20, Try.ntmps20
  go_wp2_with fail
  go_loopw [3, 4] (fun o i wr => ∃ (k N : Nat) (L : List ShV) (ad2 : Option Addr) (c2 : Nat), k ≤ xs.length ∧ N ≤ k ∧ o = .slice ad2 N c2 ∧ i = .int .i64 (k : Int) ∧ Hid (N = L.length) ∧ Hid (L = risL (xs.take k)) ∧ Hid (wr.ownsRow w.heap.size 48 2 (.slice ad2 N c2) N (shC L)) ∧ Hid (Below w.heap.size w wr)) (fun _ i _ => xs.length - (intOf i).toNat)
  case atStart => exact ⟨0, 0, [], none, 0, by omega, by omega, rfl, rfl, Lib.hid rfl, Lib.hid rfl, Lib.hid (World.ownsRow_nil _ _ _ _), Lib.hid (Below.refl _ _)⟩
  case round =>
    obtain ⟨k, N, L, ad2, c2, hk, hN, rfl, rfl, HN, HL, HO, HB⟩ := hrel
    by_cases hend : k = xs.length
    · subst hend
      have HE : Hid (L = risL xs) := Lib.hid (by rw [HL.out, List.take_length])
      go_wp2_with fail
      go_ret
      exact ⟨ad2, c2, by rw [← HE.out, ← HN.out]; rfl, by rw [← HE.out, ← HN.out]; exact HO.out, HB.out⟩
    have hlt : k < xs.length := by omega
    have hlt' : (k : Int) < (xs.length : Int) := by omega
    obtain ⟨b, off, rfl, hbl, hat⟩ := HAT.out k hlt
    obtain ⟨x, hx⟩ : ∃ x, x = xs[k] := ⟨_, rfl⟩
    rw [← hx] at hat
    have HTK : Hid (risL (xs.take (k + 1)) = if x.q = 0 then L else insN x L) := Lib.hid (by rw [List.take_succ_eq_append_getElem hlt, risL_snoc, ← HL.out, hx])
    have HR := Lib.hid (range_below hat hbl HB.out)
    obtain ⟨q, hq⟩ : ∃ q, q = x.q := ⟨_, rfl⟩
    have cq : wr.cell? ⟨b, off + k * 2 + 1, none⟩ = some (.int .i64 q) := by rw [hq]; exact sh_q HR.out
    have HQ := Lib.hid hq
    clear hat hx hq
    by_cases hq0 : q = 0
    · have hqb : (q == 0) = true := by rw [hq0]; rfl
      have HT2 : Hid (risL (xs.take (k + 1)) = L) := Lib.hid (by rw [HTK.out, if_pos (by rw [← HQ.out]; exact hq0)])
      clear hq0
      go_wp2_with fail
      go_roundw
      case rel => exact ⟨k + 1, N, L, ad2, c2, by omega, by omega, rfl, by go_num, HN, Lib.hid HT2.out.symm, HO, HB⟩
      case measure => simp [intOf]; omega
    have hqb : (q == 0) = false := by rw [beq_eq_false_iff_ne]; exact hq0
    have HT2 : Hid (risL (xs.take (k + 1)) = insN x L) := Lib.hid (by rw [HTK.out, if_neg (by rw [← HQ.out]; exact hq0)])
    clear hq0
    obtain ⟨nm, hnm⟩ : ∃ nm, nm = x.name := ⟨_, rfl⟩
    have HNM := Lib.hid hnm
    have HCN : Hid (wr.cell? ⟨b, off + k * 2, none⟩ = some (.string nm)) := Lib.hid (by rw [hnm]; exact sh_name HR.out)
    have hbw : b < wr.heap.size := Nat.lt_of_lt_of_le hbl HB.out.size
    clear hnm
    have HSO : Hid (Shs wr ad2 N c2 L) := Lib.hid (Sl.of_own HO.out)
    have hcN := HSO.out.le
    obtain ⟨wv, hwv⟩ : ∃ wv, wv = wr := ⟨_, rfl⟩
    subst hwv
    go_wp2_with fail
    go_loopw [5] (fun j wr => ∃ m : Nat, m ≤ N ∧ j = .int .i64 (m : Int) ∧ Hid (∀ i, i < m → nmL (L.getD i zeroS).name nm = true) ∧ Hid (Below wv.heap.size wv wr)) (fun j _ => N - (intOf j).toNat)
    case atStart => exact ⟨0, by omega, rfl, Lib.hid (fun i hi => by omega), Lib.hid (Below.refl _ _)⟩
    case round =>
      clear cq
      obtain ⟨m, hm, rfl, HNE, HE⟩ := hrel
      have cn : wr.cell? ⟨b, off + k * 2, none⟩ = some (.string nm) := (HE.out.cell (p := ⟨b, off + k * 2, none⟩) hbw).trans HCN.out
      by_cases hmN : m < N
      · have hmi : (m : Int) < (N : Int) := by omega
        obtain ⟨bO, oO, rfl, hbO, hatO⟩ := HSO.out.at (by have := HN.out; omega)
        have hmL : m < L.length := by have := HN.out; omega
        obtain ⟨nm2, hnm2⟩ : ∃ nm2, nm2 = L[m].name := ⟨_, rfl⟩
        have cm : wr.cell? ⟨bO, oO + m * 2, none⟩ = some (.string nm2) := by rw [hnm2]; exact (HE.out.cell (p := ⟨bO, oO + m * 2, none⟩) hbO).trans (sh_name (hatO m hmL))
        have HN2 : Hid ((L.getD m zeroS).name = nm2) := Lib.hid (by rw [List.getD_eq_getElem?_getD, List.getElem?_eq_getElem hmL, hnm2]; rfl)
        clear hatO hnm2 hmL
        cases hless : nmL nm2 nm with
        | true =>
          have hbl2 : Op.bytesLess nm2.toList nm.toList = true := by rw [nmL_less]; exact hless
          have HLS := Lib.hid hless
          clear hless
          go_wp2_with fail
          go_quiet (fail)
          go_wp2_with fail
          go_roundw
          case rel => exact ⟨m + 1, by omega, by go_num, Lib.hid (fun i hi => by
            rcases Nat.lt_or_ge i m with g | g
            · exact HNE.out i g
            · obtain rfl : i = m := by omega
              rw [HN2.out]
              exact HLS.out), Lib.hid (by first | exact HE.out | exact HE.out.trans (below_drewN _ _ _) | exact HE.out.drew)⟩
          case measure => simp [intOf]; omega
        | false =>
          have hbl2 : Op.bytesLess nm2.toList nm.toList = false := by rw [nmL_less]; exact hless
          have HSP : Hid (insN x L = L.take m ++ [x] ++ L.drop m) := Lib.hid (insN_split x L m (by have := HN.out; omega) (fun j hj => by rw [← HNM.out]; exact HNE.out j hj) (.inr (by rw [HN2.out, ← HNM.out]; exact hless)))
          clear hless
          go_wp2_with fail
          go_quiet (fail)
          go_wp2_with fail
          have HRX : Hid (wr.rangeAt b (off + k * 2) x.cells) := Lib.hid (range_below HR.out hbw HE.out)
          have HPRE : Hid (∀ wz, Below wr.heap.size wr wz → Sl wz (subAd (some ⟨bO, oO, none⟩) c2 0 2) (m - 0) (c2 - 0) 2 (shC (L.take m))) := Lib.hid (fun wz hz => Shs.pre ((HSO.out.below HE.out).below hz) m hm)
          have HSUF : Hid (∀ wz, Below wr.heap.size wr wz → Sl wz (subAd (some ⟨bO, oO, none⟩) c2 m 2) (N - m) (c2 - m) 2 (shC (L.drop m))) := Lib.hid (fun wz hz => Shs.suf ((HSO.out.below HE.out).below hz) m hm)
          have hbw2 : b < wr.heap.size := Nat.lt_of_lt_of_le hbw HE.out.size
          obtain ⟨wq, hwq⟩ : ∃ wq, wq = wr := ⟨_, rfl⟩
          subst hwq
          have HF := Lib.hid (Below.refl wq.heap.size wq)
          go_wp2_with fail
          refine wp_region_held_drew (S := fun u__ => u__.rangeAt b (off + k * 2) x.cells) (by kernel_rfl) ?_ (fun hHeld => ?_)
          focus (exact range_below HRX.out hbw2 (HF.out.trans (Below.mono bup HF.out.size)))
          refine tk 1 (oi := ⟨some 38, _, _, _, _, _⟩) (v := ?_) rfl (by kernel_rfl) (.inl ⟨by rfl, ?_⟩) hHeld ?_; rotate_left; focus (intro w hSw; (try dsimp only at hSw); go_simp; try with_reducible rfl)
          simp only [PT]
          refine tk 2 (oi := ⟨some 39, _, _, _, _, _⟩) (v := ?_) rfl (by kernel_rfl) (.inl ⟨by rfl, ?_⟩) hHeld ?_; rotate_left; focus (intro w hSw; (try dsimp only at hSw); go_simp; try with_reducible rfl)
          simp only [PT]
          refine' tk 3 (oi := ⟨some 40, _, _, _, _, _⟩) (v := _) rfl (by kernel_rfl) (yields_slice elSh (by rfl) (.tmp 38) none (some (.tmp 39)) rfl rfl 0 m (.inl ⟨rfl, rfl⟩) (.inr ⟨_, rfl⟩) (by omega) (by omega)) hHeld ?_
          simp only [PT]
          refine tk 5 (oi := ⟨some 42, _, _, _, _, _⟩) (v := ?_) rfl (by kernel_rfl) (.inl ⟨by rfl, ?_⟩) hHeld ?_; rotate_left; focus (intro w hSw; (try dsimp only at hSw); go_simp; try with_reducible rfl)
          simp only [PT]
          refine tk 6 (oi := ⟨some 43, _, _, _, _, _⟩) (v := ?_) rfl (by kernel_rfl) (.inl ⟨by rfl, ?_⟩) hHeld ?_; rotate_left; focus (intro w hSw; (try dsimp only at hSw); go_simp; try with_reducible rfl)
          simp only [PT]
          refine tk 7 (oi := ⟨some 44, _, _, _, _, _⟩) (v := ?_) rfl (by kernel_rfl) (.inl ⟨by rfl, ?_⟩) hHeld ?_; rotate_left; focus (intro w hSw; (try dsimp only at hSw); go_simp; try with_reducible rfl)
          simp only [PT]
          refine' tk 8 (oi := ⟨some 45, _, _, _, _, _⟩) (v := _) rfl (by kernel_rfl) (yieldsIf_load_mid (by rfl) _ _ rfl _ _ rfl (x.cells) _ (fun _ h => h) (Try.underlying48) rfl (sh_one x)) hHeld ?_
          simp only [PT]
          refine tk 11 (oi := ⟨some 48, _, _, _, _, _⟩) (v := ?_) rfl (by kernel_rfl) (.inl ⟨by rfl, ?_⟩) hHeld ?_; rotate_left; focus (intro w hSw; (try dsimp only at hSw); go_simp; try with_reducible rfl)
          simp only [PT]
          refine tk 12 (oi := ⟨some 49, _, _, _, _, _⟩) (v := ?_) rfl (by kernel_rfl) (.inl ⟨by rfl, ?_⟩) hHeld ?_; rotate_left; focus (intro w hSw; (try dsimp only at hSw); go_simp; try with_reducible rfl)
          simp only [PT]
          refine' tk 13 (oi := ⟨some 50, _, _, _, _, _⟩) (v := _) rfl (by kernel_rfl) (yields_slice elSh (by rfl) (.tmp 48) (some (.tmp 49)) none rfl rfl m N (.inr ⟨_, rfl⟩) (.inl ⟨rfl, rfl⟩) (by omega) (by omega)) hHeld ?_
          simp only [PT]
          refine wpAnyH_ready (rs := [0, 9]) (by kernel_rfl) (by simp) ?_
          refine (AllReadyH.cons (o := ⟨some 37, _, _, _, _, _⟩) rfl (fun K hK => ?_) (AllReadyH.cons (o := ⟨some 46, _, _, _, _, _⟩) rfl (fun K hK => ?_) AllReadyH.nil))
          (go_must (refine step_lit0G elSh rfl rfl ?_); intro w37 g37 le37 lt37 ho__ hb__; (try (have hx46 : g46 ≠ g37 := Nat.ne_of_lt (Nat.lt_of_lt_of_le lt46 (Nat.le_trans (bsz (w := w46) bup) le37)))); go_must (have HQ := Lib.hid (own_base ho__ (Nat.le_trans HF.out.size (bsz bup)))); (try (replace H46 := ckk H46 bup hb__)); go_must (replace HF := cE0 HF bup hb__); clear ho__ hb__)
          refine hK.out _ _ ?_ (fun hHeld => ?_)
          focus (exact range_below HRX.out hbw2 (HF.out.trans (Below.mono bup HF.out.size)))
          clear hK K
          try simp only [PT]
          refine wpAnyH_ready (rs := [4, 9]) (by kernel_rfl) (by simp) ?_
          refine (AllReadyH.cons (o := ⟨some 41, _, _, _, _, _⟩) rfl (fun K hK => ?_) (AllReadyH.cons (o := ⟨some 46, _, _, _, _, _⟩) rfl (fun K hK => ?_) AllReadyH.nil))
          (go_must (refine step_appG elSh rfl (.tmp 37) (.tmp 40) rfl wq.heap.size rfl (own_keep HQ.out bup) rfl (HPRE.out _ (HF.out.trans (Below.mono bup HF.out.size))) (shC_one _) m (by omega) (by unfold maxLen; omega) (by omega) (Nat.le_trans HF.out.size (bsz bup)) ?_); intro ad41 c41 w41 ho__ hg__; (try (replace H46 := Lib.hid (keep_other (hatB H46 bup) hg__ hx46))); go_must (replace HF := cEa HF bup hg__ (ownBlock_ge HQ.out)); clear HQ; have HQ := Lib.hid (show World.ownsRow _ _ _ _ _ _ (shC (L.take m)) from ho__); clear ho__ hg__; (try clear lt37))
          refine hK.out _ _ ?_ (fun hHeld => ?_)
          focus (exact range_below HRX.out hbw2 (HF.out.trans (Below.mono bup HF.out.size)))
          clear hK K
          try simp only [PT]
          refine wpAnyH_ready (rs := [9]) (by kernel_rfl) (by simp) ?_
          refine (AllReadyH.cons (o := ⟨some 46, _, _, _, _, _⟩) rfl (fun K hK => ?_) AllReadyH.nil)
          (go_must (refine step_lit1 rfl 23 48 (.tmp 45) rfl x.cells.toArray zeroS.cells.toArray rfl 2 Try.underlying23 sh_info (by omega) (by omega) (fill_sh x) ?_); intro w46 g46 le46 lt46 hg__ hb__; (try (have hx46 : g46 ≠ g37 := Nat.ne_of_gt (Nat.lt_of_lt_of_le lt37 (Nat.le_trans (bsz (w := w37) bup) le46)))); go_must (have H46 := Lib.hid hg__); (try (replace HQ := Lib.hid (own_keep (own_keep HQ.out bup) hb__))); go_must (replace HF := cE0 HF bup hb__); clear hg__ hb__)
          refine hK.out _ _ ?_ (fun hHeld => ?_)
          focus (exact range_below HRX.out hbw2 (HF.out.trans (Below.mono bup HF.out.size)))
          clear hK K
          try simp only [PT]
          refine wpAnyH_ready (rs := [10]) (by kernel_rfl) (by simp) ?_
          refine (AllReadyH.cons (o := ⟨some 47, _, _, _, _, _⟩) rfl (fun K hK => ?_) AllReadyH.nil)
          (go_must (refine step_appG elSh rfl (.tmp 41) (.tmp 46) rfl wq.heap.size rfl (own_keep HQ.out bup) rfl (sl_sh (hatB H46 bup)) (ShV.one x) (m + 1) rfl (by unfold maxLen; omega) (by omega) (Nat.le_trans HF.out.size (bsz bup)) ?_); intro ad47 c47 w47 ho__ hg__; go_must (replace HF := cEa HF bup hg__ (ownBlock_ge HQ.out)); clear HQ H46; have HQ := Lib.hid ho__; clear ho__ hg__)
          refine hK.out _ _ ?_ (fun hHeld => ?_)
          focus (exact range_below HRX.out hbw2 (HF.out.trans (Below.mono bup HF.out.size)))
          clear hK K
          try simp only [PT]
          refine wpAnyH_ready (rs := [14]) (by kernel_rfl) (by simp) ?_
          refine (AllReadyH.cons (o := ⟨some 51, _, _, _, _, _⟩) rfl (fun K hK => ?_) AllReadyH.nil)
          (go_must (refine step_appG elSh rfl (.tmp 47) (.tmp 50) rfl wq.heap.size rfl (own_keep HQ.out bup) rfl (HSUF.out _ (HF.out.trans (Below.mono bup HF.out.size))) (shC_one _) (N + 1) (by omega) (by unfold maxLen; omega) (by omega) (Nat.le_trans HF.out.size (bsz bup)) ?_); intro ad51 c51 w51 ho__ hg__; go_must (replace HF := cEa HF bup hg__ (ownBlock_ge HQ.out)); clear HQ; have HQ := Lib.hid ho__; clear ho__ hg__)
          refine hK.out _ _ ?_ (fun hHeld => ?_)
          focus (exact range_below HRX.out hbw2 (HF.out.trans (Below.mono bup HF.out.size)))
          clear hK K
          try simp only [PT]
          refine tk 15 (oi := ⟨some 3, _, _, _, _, _⟩) (v := ?_) rfl (by kernel_rfl) (.inl ⟨by rfl, ?_⟩) hHeld ?_; rotate_left; focus (intro w hSw; (try dsimp only at hSw); go_simp; try with_reducible rfl)
          simp only [PT]
          refine wpAnyH_done (by kernel_rfl) ?_ _
          rotate_left
          (go_must (refine step_lit1 rfl 23 48 (.tmp 45) rfl x.cells.toArray zeroS.cells.toArray rfl 2 Try.underlying23 sh_info (by omega) (by omega) (fill_sh x) ?_); intro w46 g46 le46 lt46 hg__ hb__; (try (have hx46 : g46 ≠ g37 := Nat.ne_of_gt (Nat.lt_of_lt_of_le lt37 (Nat.le_trans (bsz (w := w37) bup) le46)))); go_must (have H46 := Lib.hid hg__); (try (replace HQ := Lib.hid (own_keep (own_keep HQ.out bup) hb__))); go_must (replace HF := cE0 HF bup hb__); clear hg__ hb__)
          refine hK.out _ _ ?_ (fun hHeld => ?_)
          focus (exact range_below HRX.out hbw2 (HF.out.trans (Below.mono bup HF.out.size)))
          clear hK K
          try simp only [PT]
          refine wpAnyH_ready (rs := [4]) (by kernel_rfl) (by simp) ?_
          refine (AllReadyH.cons (o := ⟨some 41, _, _, _, _, _⟩) rfl (fun K hK => ?_) AllReadyH.nil)
          (go_must (refine step_appG elSh rfl (.tmp 37) (.tmp 40) rfl wq.heap.size rfl (own_keep HQ.out bup) rfl (HPRE.out _ (HF.out.trans (Below.mono bup HF.out.size))) (shC_one _) m (by omega) (by unfold maxLen; omega) (by omega) (Nat.le_trans HF.out.size (bsz bup)) ?_); intro ad41 c41 w41 ho__ hg__; (try (replace H46 := Lib.hid (keep_other (hatB H46 bup) hg__ hx46))); go_must (replace HF := cEa HF bup hg__ (ownBlock_ge HQ.out)); clear HQ; have HQ := Lib.hid (show World.ownsRow _ _ _ _ _ _ (shC (L.take m)) from ho__); clear ho__ hg__; (try clear lt37))
          refine hK.out _ _ ?_ (fun hHeld => ?_)
          focus (exact range_below HRX.out hbw2 (HF.out.trans (Below.mono bup HF.out.size)))
          clear hK K
          try simp only [PT]
          refine wpAnyH_ready (rs := [10]) (by kernel_rfl) (by simp) ?_
          refine (AllReadyH.cons (o := ⟨some 47, _, _, _, _, _⟩) rfl (fun K hK => ?_) AllReadyH.nil)
          (go_must (refine step_appG elSh rfl (.tmp 41) (.tmp 46) rfl wq.heap.size rfl (own_keep HQ.out bup) rfl (sl_sh (hatB H46 bup)) (ShV.one x) (m + 1) rfl (by unfold maxLen; omega) (by omega) (Nat.le_trans HF.out.size (bsz bup)) ?_); intro ad47 c47 w47 ho__ hg__; go_must (replace HF := cEa HF bup hg__ (ownBlock_ge HQ.out)); clear HQ H46; have HQ := Lib.hid ho__; clear ho__ hg__)
          refine hK.out _ _ ?_ (fun hHeld => ?_)
          focus (exact range_below HRX.out hbw2 (HF.out.trans (Below.mono bup HF.out.size)))
          clear hK K
          try simp only [PT]
          refine wpAnyH_ready (rs := [14]) (by kernel_rfl) (by simp) ?_
          refine (AllReadyH.cons (o := ⟨some 51, _, _, _, _, _⟩) rfl (fun K hK => ?_) AllReadyH.nil)
          (go_must (refine step_appG elSh rfl (.tmp 47) (.tmp 50) rfl wq.heap.size rfl (own_keep HQ.out bup) rfl (HSUF.out _ (HF.out.trans (Below.mono bup HF.out.size))) (shC_one _) (N + 1) (by omega) (by unfold maxLen; omega) (by omega) (Nat.le_trans HF.out.size (bsz bup)) ?_); intro ad51 c51 w51 ho__ hg__; go_must (replace HF := cEa HF bup hg__ (ownBlock_ge HQ.out)); clear HQ; have HQ := Lib.hid ho__; clear ho__ hg__)
          refine hK.out _ _ ?_ (fun hHeld => ?_)
          focus (exact range_below HRX.out hbw2 (HF.out.trans (Below.mono bup HF.out.size)))
          clear hK K
          try simp only [PT]
          refine tk 15 (oi := ⟨some 3, _, _, _, _, _⟩) (v := ?_) rfl (by kernel_rfl) (.inl ⟨by rfl, ?_⟩) hHeld ?_; rotate_left; focus (intro w hSw; (try dsimp only at hSw); go_simp; try with_reducible rfl)
          simp only [PT]
          refine wpAnyH_done (by kernel_rfl) ?_ _
          rotate_left
          (go_must (refine step_lit1 rfl 23 48 (.tmp 45) rfl x.cells.toArray zeroS.cells.toArray rfl 2 Try.underlying23 sh_info (by omega) (by omega) (fill_sh x) ?_); intro w46 g46 le46 lt46 hg__ hb__; (try (have hx46 : g46 ≠ g37 := Nat.ne_of_gt (Nat.lt_of_lt_of_le lt37 (Nat.le_trans (bsz (w := w37) bup) le46)))); go_must (have H46 := Lib.hid hg__); (try (replace HQ := Lib.hid (own_keep (own_keep HQ.out bup) hb__))); go_must (replace HF := cE0 HF bup hb__); clear hg__ hb__)
          refine hK.out _ _ ?_ (fun hHeld => ?_)
          focus (exact range_below HRX.out hbw2 (HF.out.trans (Below.mono bup HF.out.size)))
          clear hK K
          try simp only [PT]
          refine wpAnyH_ready (rs := [0]) (by kernel_rfl) (by simp) ?_
          refine (AllReadyH.cons (o := ⟨some 37, _, _, _, _, _⟩) rfl (fun K hK => ?_) AllReadyH.nil)
          (go_must (refine step_lit0G elSh rfl rfl ?_); intro w37 g37 le37 lt37 ho__ hb__; (try (have hx46 : g46 ≠ g37 := Nat.ne_of_lt (Nat.lt_of_lt_of_le lt46 (Nat.le_trans (bsz (w := w46) bup) le37)))); go_must (have HQ := Lib.hid (own_base ho__ (Nat.le_trans HF.out.size (bsz bup)))); (try (replace H46 := ckk H46 bup hb__)); go_must (replace HF := cE0 HF bup hb__); clear ho__ hb__)
          refine hK.out _ _ ?_ (fun hHeld => ?_)
          focus (exact range_below HRX.out hbw2 (HF.out.trans (Below.mono bup HF.out.size)))
          clear hK K
          try simp only [PT]
          refine wpAnyH_ready (rs := [4]) (by kernel_rfl) (by simp) ?_
          refine (AllReadyH.cons (o := ⟨some 41, _, _, _, _, _⟩) rfl (fun K hK => ?_) AllReadyH.nil)
          (go_must (refine step_appG elSh rfl (.tmp 37) (.tmp 40) rfl wq.heap.size rfl (own_keep HQ.out bup) rfl (HPRE.out _ (HF.out.trans (Below.mono bup HF.out.size))) (shC_one _) m (by omega) (by unfold maxLen; omega) (by omega) (Nat.le_trans HF.out.size (bsz bup)) ?_); intro ad41 c41 w41 ho__ hg__; (try (replace H46 := Lib.hid (keep_other (hatB H46 bup) hg__ hx46))); go_must (replace HF := cEa HF bup hg__ (ownBlock_ge HQ.out)); clear HQ; have HQ := Lib.hid (show World.ownsRow _ _ _ _ _ _ (shC (L.take m)) from ho__); clear ho__ hg__; (try clear lt37))
          refine hK.out _ _ ?_ (fun hHeld => ?_)
          focus (exact range_below HRX.out hbw2 (HF.out.trans (Below.mono bup HF.out.size)))
          clear hK K
          try simp only [PT]
          refine wpAnyH_ready (rs := [10]) (by kernel_rfl) (by simp) ?_
          refine (AllReadyH.cons (o := ⟨some 47, _, _, _, _, _⟩) rfl (fun K hK => ?_) AllReadyH.nil)
          (go_must (refine step_appG elSh rfl (.tmp 41) (.tmp 46) rfl wq.heap.size rfl (own_keep HQ.out bup) rfl (sl_sh (hatB H46 bup)) (ShV.one x) (m + 1) rfl (by unfold maxLen; omega) (by omega) (Nat.le_trans HF.out.size (bsz bup)) ?_); intro ad47 c47 w47 ho__ hg__; go_must (replace HF := cEa HF bup hg__ (ownBlock_ge HQ.out)); clear HQ H46; have HQ := Lib.hid ho__; clear ho__ hg__)
          refine hK.out _ _ ?_ (fun hHeld => ?_)
          focus (exact range_below HRX.out hbw2 (HF.out.trans (Below.mono bup HF.out.size)))
          clear hK K
          try simp only [PT]
          refine wpAnyH_ready (rs := [14]) (by kernel_rfl) (by simp) ?_
          refine (AllReadyH.cons (o := ⟨some 51, _, _, _, _, _⟩) rfl (fun K hK => ?_) AllReadyH.nil)
          (go_must (refine step_appG elSh rfl (.tmp 47) (.tmp 50) rfl wq.heap.size rfl (own_keep HQ.out bup) rfl (HSUF.out _ (HF.out.trans (Below.mono bup HF.out.size))) (shC_one _) (N + 1) (by omega) (by unfold maxLen; omega) (by omega) (Nat.le_trans HF.out.size (bsz bup)) ?_); intro ad51 c51 w51 ho__ hg__; go_must (replace HF := cEa HF bup hg__ (ownBlock_ge HQ.out)); clear HQ; have HQ := Lib.hid ho__; clear ho__ hg__)
          refine hK.out _ _ ?_ (fun hHeld => ?_)
          focus (exact range_below HRX.out hbw2 (HF.out.trans (Below.mono bup HF.out.size)))
          clear hK K
          try simp only [PT]
          refine tk 15 (oi := ⟨some 3, _, _, _, _, _⟩) (v := ?_) rfl (by kernel_rfl) (.inl ⟨by rfl, ?_⟩) hHeld ?_; rotate_left; focus (intro w hSw; (try dsimp only at hSw); go_simp; try with_reducible rfl)
          simp only [PT]
          refine wpAnyH_done (by kernel_rfl) ?_ _
          rotate_left
          all_goals
            go_wp2_with fail
            go_roundw
            case rel => exact ⟨k + 1, N + 1, insN x L, ad51, c51, by omega, by omega, rfl, by go_num, Lib.hid (by rw [insN_len, ← HN.out]), Lib.hid HT2.out.symm, Lib.hid (by rw [ins_cells HSP.out]; exact own_base (own_keep HQ.out bup) (Nat.le_trans HB.out.size HE.out.size)), Lib.hid ((HB.out.trans (HE.out.mono HB.out.size)).trans ((HF.out.trans (Below.mono bup HF.out.size)).mono (Nat.le_trans HB.out.size HE.out.size)))⟩
            case measure => simp [intOf]; omega
      · obtain rfl : m = N := by omega
        have hge : decide ((m : Int) < (m : Int)) = false := decide_eq_false (by omega)
        have HSP : Hid (insN x L = L.take m ++ [x] ++ L.drop m) := Lib.hid (insN_split x L m (by have := HN.out; omega) (fun j hj => by rw [← HNM.out]; exact HNE.out j hj) (.inl HN.out))
        go_wp2_with fail
        go_quiet (fail)
        go_wp2_with fail
        have HRX : Hid (wr.rangeAt b (off + k * 2) x.cells) := Lib.hid (range_below HR.out hbw HE.out)
        have HPRE : Hid (∀ wz, Below wr.heap.size wr wz → Sl wz (subAd ad2 c2 0 2) (m - 0) (c2 - 0) 2 (shC (L.take m))) := Lib.hid (fun wz hz => Shs.pre ((HSO.out.below HE.out).below hz) m hm)
        have HSUF : Hid (∀ wz, Below wr.heap.size wr wz → Sl wz (subAd ad2 c2 m 2) (m - m) (c2 - m) 2 (shC (L.drop m))) := Lib.hid (fun wz hz => Shs.suf ((HSO.out.below HE.out).below hz) m hm)
        have hbw2 : b < wr.heap.size := Nat.lt_of_lt_of_le hbw HE.out.size
        obtain ⟨wq, hwq⟩ : ∃ wq, wq = wr := ⟨_, rfl⟩
        subst hwq
        have HF := Lib.hid (Below.refl wq.heap.size wq)
        go_wp2_with fail
        refine wp_region_held_drew (S := fun u__ => u__.rangeAt b (off + k * 2) x.cells) (by kernel_rfl) ?_ (fun hHeld => ?_)
        focus (exact range_below HRX.out hbw2 (HF.out.trans (Below.mono bup HF.out.size)))
        refine tk 1 (oi := ⟨some 38, _, _, _, _, _⟩) (v := ?_) rfl (by kernel_rfl) (.inl ⟨by rfl, ?_⟩) hHeld ?_; rotate_left; focus (intro w hSw; (try dsimp only at hSw); go_simp; try with_reducible rfl)
        simp only [PT]
        refine tk 2 (oi := ⟨some 39, _, _, _, _, _⟩) (v := ?_) rfl (by kernel_rfl) (.inl ⟨by rfl, ?_⟩) hHeld ?_; rotate_left; focus (intro w hSw; (try dsimp only at hSw); go_simp; try with_reducible rfl)
        simp only [PT]
        refine' tk 3 (oi := ⟨some 40, _, _, _, _, _⟩) (v := _) rfl (by kernel_rfl) (yields_slice elSh (by rfl) (.tmp 38) none (some (.tmp 39)) rfl rfl 0 m (.inl ⟨rfl, rfl⟩) (.inr ⟨_, rfl⟩) (by omega) (by omega)) hHeld ?_
        simp only [PT]
        refine tk 5 (oi := ⟨some 42, _, _, _, _, _⟩) (v := ?_) rfl (by kernel_rfl) (.inl ⟨by rfl, ?_⟩) hHeld ?_; rotate_left; focus (intro w hSw; (try dsimp only at hSw); go_simp; try with_reducible rfl)
        simp only [PT]
        refine tk 6 (oi := ⟨some 43, _, _, _, _, _⟩) (v := ?_) rfl (by kernel_rfl) (.inl ⟨by rfl, ?_⟩) hHeld ?_; rotate_left; focus (intro w hSw; (try dsimp only at hSw); go_simp; try with_reducible rfl)
        simp only [PT]
        refine tk 7 (oi := ⟨some 44, _, _, _, _, _⟩) (v := ?_) rfl (by kernel_rfl) (.inl ⟨by rfl, ?_⟩) hHeld ?_; rotate_left; focus (intro w hSw; (try dsimp only at hSw); go_simp; try with_reducible rfl)
        simp only [PT]
        refine' tk 8 (oi := ⟨some 45, _, _, _, _, _⟩) (v := _) rfl (by kernel_rfl) (yieldsIf_load_mid (by rfl) _ _ rfl _ _ rfl (x.cells) _ (fun _ h => h) (Try.underlying48) rfl (sh_one x)) hHeld ?_
        simp only [PT]
        refine tk 11 (oi := ⟨some 48, _, _, _, _, _⟩) (v := ?_) rfl (by kernel_rfl) (.inl ⟨by rfl, ?_⟩) hHeld ?_; rotate_left; focus (intro w hSw; (try dsimp only at hSw); go_simp; try with_reducible rfl)
        simp only [PT]
        refine tk 12 (oi := ⟨some 49, _, _, _, _, _⟩) (v := ?_) rfl (by kernel_rfl) (.inl ⟨by rfl, ?_⟩) hHeld ?_; rotate_left; focus (intro w hSw; (try dsimp only at hSw); go_simp; try with_reducible rfl)
        simp only [PT]
        refine' tk 13 (oi := ⟨some 50, _, _, _, _, _⟩) (v := _) rfl (by kernel_rfl) (yields_slice elSh (by rfl) (.tmp 48) (some (.tmp 49)) none rfl rfl m m (.inr ⟨_, rfl⟩) (.inl ⟨rfl, rfl⟩) (by omega) (by omega)) hHeld ?_
        simp only [PT]
        refine wpAnyH_ready (rs := [0, 9]) (by kernel_rfl) (by simp) ?_
        refine (AllReadyH.cons (o := ⟨some 37, _, _, _, _, _⟩) rfl (fun K hK => ?_) (AllReadyH.cons (o := ⟨some 46, _, _, _, _, _⟩) rfl (fun K hK => ?_) AllReadyH.nil))
        (go_must (refine step_lit0G elSh rfl rfl ?_); intro w37 g37 le37 lt37 ho__ hb__; (try (have hx46 : g46 ≠ g37 := Nat.ne_of_lt (Nat.lt_of_lt_of_le lt46 (Nat.le_trans (bsz (w := w46) bup) le37)))); go_must (have HQ := Lib.hid (own_base ho__ (Nat.le_trans HF.out.size (bsz bup)))); (try (replace H46 := ckk H46 bup hb__)); go_must (replace HF := cE0 HF bup hb__); clear ho__ hb__)
        refine hK.out _ _ ?_ (fun hHeld => ?_)
        focus (exact range_below HRX.out hbw2 (HF.out.trans (Below.mono bup HF.out.size)))
        clear hK K
        try simp only [PT]
        refine wpAnyH_ready (rs := [4, 9]) (by kernel_rfl) (by simp) ?_
        refine (AllReadyH.cons (o := ⟨some 41, _, _, _, _, _⟩) rfl (fun K hK => ?_) (AllReadyH.cons (o := ⟨some 46, _, _, _, _, _⟩) rfl (fun K hK => ?_) AllReadyH.nil))
        (go_must (refine step_appG elSh rfl (.tmp 37) (.tmp 40) rfl wq.heap.size rfl (own_keep HQ.out bup) rfl (HPRE.out _ (HF.out.trans (Below.mono bup HF.out.size))) (shC_one _) m (by omega) (by unfold maxLen; omega) (by omega) (Nat.le_trans HF.out.size (bsz bup)) ?_); intro ad41 c41 w41 ho__ hg__; (try (replace H46 := Lib.hid (keep_other (hatB H46 bup) hg__ hx46))); go_must (replace HF := cEa HF bup hg__ (ownBlock_ge HQ.out)); clear HQ; have HQ := Lib.hid (show World.ownsRow _ _ _ _ _ _ (shC (L.take m)) from ho__); clear ho__ hg__; (try clear lt37))
        refine hK.out _ _ ?_ (fun hHeld => ?_)
        focus (exact range_below HRX.out hbw2 (HF.out.trans (Below.mono bup HF.out.size)))
        clear hK K
        try simp only [PT]
        refine wpAnyH_ready (rs := [9]) (by kernel_rfl) (by simp) ?_
        refine (AllReadyH.cons (o := ⟨some 46, _, _, _, _, _⟩) rfl (fun K hK => ?_) AllReadyH.nil)
        (go_must (refine step_lit1 rfl 23 48 (.tmp 45) rfl x.cells.toArray zeroS.cells.toArray rfl 2 Try.underlying23 sh_info (by omega) (by omega) (fill_sh x) ?_); intro w46 g46 le46 lt46 hg__ hb__; (try (have hx46 : g46 ≠ g37 := Nat.ne_of_gt (Nat.lt_of_lt_of_le lt37 (Nat.le_trans (bsz (w := w37) bup) le46)))); go_must (have H46 := Lib.hid hg__); (try (replace HQ := Lib.hid (own_keep (own_keep HQ.out bup) hb__))); go_must (replace HF := cE0 HF bup hb__); clear hg__ hb__)
        refine hK.out _ _ ?_ (fun hHeld => ?_)
        focus (exact range_below HRX.out hbw2 (HF.out.trans (Below.mono bup HF.out.size)))
        clear hK K
        try simp only [PT]
        refine wpAnyH_ready (rs := [10]) (by kernel_rfl) (by simp) ?_
        refine (AllReadyH.cons (o := ⟨some 47, _, _, _, _, _⟩) rfl (fun K hK => ?_) AllReadyH.nil)
        (go_must (refine step_appG elSh rfl (.tmp 41) (.tmp 46) rfl wq.heap.size rfl (own_keep HQ.out bup) rfl (sl_sh (hatB H46 bup)) (ShV.one x) (m + 1) rfl (by unfold maxLen; omega) (by omega) (Nat.le_trans HF.out.size (bsz bup)) ?_); intro ad47 c47 w47 ho__ hg__; go_must (replace HF := cEa HF bup hg__ (ownBlock_ge HQ.out)); clear HQ H46; have HQ := Lib.hid ho__; clear ho__ hg__)
        refine hK.out _ _ ?_ (fun hHeld => ?_)
        focus (exact range_below HRX.out hbw2 (HF.out.trans (Below.mono bup HF.out.size)))
        clear hK K
        try simp only [PT]
        refine wpAnyH_ready (rs := [14]) (by kernel_rfl) (by simp) ?_
        refine (AllReadyH.cons (o := ⟨some 51, _, _, _, _, _⟩) rfl (fun K hK => ?_) AllReadyH.nil)
        (go_must (refine step_appG elSh rfl (.tmp 47) (.tmp 50) rfl wq.heap.size rfl (own_keep HQ.out bup) rfl (HSUF.out _ (HF.out.trans (Below.mono bup HF.out.size))) (shC_one _) (m + 1) (by omega) (by unfold maxLen; omega) (by omega) (Nat.le_trans HF.out.size (bsz bup)) ?_); intro ad51 c51 w51 ho__ hg__; go_must (replace HF := cEa HF bup hg__ (ownBlock_ge HQ.out)); clear HQ; have HQ := Lib.hid ho__; clear ho__ hg__)
        refine hK.out _ _ ?_ (fun hHeld => ?_)
        focus (exact range_below HRX.out hbw2 (HF.out.trans (Below.mono bup HF.out.size)))
        clear hK K
        try simp only [PT]
        refine tk 15 (oi := ⟨some 3, _, _, _, _, _⟩) (v := ?_) rfl (by kernel_rfl) (.inl ⟨by rfl, ?_⟩) hHeld ?_; rotate_left; focus (intro w hSw; (try dsimp only at hSw); go_simp; try with_reducible rfl)
        simp only [PT]
        refine wpAnyH_done (by kernel_rfl) ?_ _
        rotate_left
        (go_must (refine step_lit1 rfl 23 48 (.tmp 45) rfl x.cells.toArray zeroS.cells.toArray rfl 2 Try.underlying23 sh_info (by omega) (by omega) (fill_sh x) ?_); intro w46 g46 le46 lt46 hg__ hb__; (try (have hx46 : g46 ≠ g37 := Nat.ne_of_gt (Nat.lt_of_lt_of_le lt37 (Nat.le_trans (bsz (w := w37) bup) le46)))); go_must (have H46 := Lib.hid hg__); (try (replace HQ := Lib.hid (own_keep (own_keep HQ.out bup) hb__))); go_must (replace HF := cE0 HF bup hb__); clear hg__ hb__)
        refine hK.out _ _ ?_ (fun hHeld => ?_)
        focus (exact range_below HRX.out hbw2 (HF.out.trans (Below.mono bup HF.out.size)))
        clear hK K
        try simp only [PT]
        refine wpAnyH_ready (rs := [4]) (by kernel_rfl) (by simp) ?_
        refine (AllReadyH.cons (o := ⟨some 41, _, _, _, _, _⟩) rfl (fun K hK => ?_) AllReadyH.nil)
        (go_must (refine step_appG elSh rfl (.tmp 37) (.tmp 40) rfl wq.heap.size rfl (own_keep HQ.out bup) rfl (HPRE.out _ (HF.out.trans (Below.mono bup HF.out.size))) (shC_one _) m (by omega) (by unfold maxLen; omega) (by omega) (Nat.le_trans HF.out.size (bsz bup)) ?_); intro ad41 c41 w41 ho__ hg__; (try (replace H46 := Lib.hid (keep_other (hatB H46 bup) hg__ hx46))); go_must (replace HF := cEa HF bup hg__ (ownBlock_ge HQ.out)); clear HQ; have HQ := Lib.hid (show World.ownsRow _ _ _ _ _ _ (shC (L.take m)) from ho__); clear ho__ hg__; (try clear lt37))
        refine hK.out _ _ ?_ (fun hHeld => ?_)
        focus (exact range_below HRX.out hbw2 (HF.out.trans (Below.mono bup HF.out.size)))
        clear hK K
        try simp only [PT]
        refine wpAnyH_ready (rs := [10]) (by kernel_rfl) (by simp) ?_
        refine (AllReadyH.cons (o := ⟨some 47, _, _, _, _, _⟩) rfl (fun K hK => ?_) AllReadyH.nil)
        (go_must (refine step_appG elSh rfl (.tmp 41) (.tmp 46) rfl wq.heap.size rfl (own_keep HQ.out bup) rfl (sl_sh (hatB H46 bup)) (ShV.one x) (m + 1) rfl (by unfold maxLen; omega) (by omega) (Nat.le_trans HF.out.size (bsz bup)) ?_); intro ad47 c47 w47 ho__ hg__; go_must (replace HF := cEa HF bup hg__ (ownBlock_ge HQ.out)); clear HQ H46; have HQ := Lib.hid ho__; clear ho__ hg__)
        refine hK.out _ _ ?_ (fun hHeld => ?_)
        focus (exact range_below HRX.out hbw2 (HF.out.trans (Below.mono bup HF.out.size)))
        clear hK K
        try simp only [PT]
        refine wpAnyH_ready (rs := [14]) (by kernel_rfl) (by simp) ?_
        refine (AllReadyH.cons (o := ⟨some 51, _, _, _, _, _⟩) rfl (fun K hK => ?_) AllReadyH.nil)
        (go_must (refine step_appG elSh rfl (.tmp 47) (.tmp 50) rfl wq.heap.size rfl (own_keep HQ.out bup) rfl (HSUF.out _ (HF.out.trans (Below.mono bup HF.out.size))) (shC_one _) (m + 1) (by omega) (by unfold maxLen; omega) (by omega) (Nat.le_trans HF.out.size (bsz bup)) ?_); intro ad51 c51 w51 ho__ hg__; go_must (replace HF := cEa HF bup hg__ (ownBlock_ge HQ.out)); clear HQ; have HQ := Lib.hid ho__; clear ho__ hg__)
        refine hK.out _ _ ?_ (fun hHeld => ?_)
        focus (exact range_below HRX.out hbw2 (HF.out.trans (Below.mono bup HF.out.size)))
        clear hK K
        try simp only [PT]
        refine tk 15 (oi := ⟨some 3, _, _, _, _, _⟩) (v := ?_) rfl (by kernel_rfl) (.inl ⟨by rfl, ?_⟩) hHeld ?_; rotate_left; focus (intro w hSw; (try dsimp only at hSw); go_simp; try with_reducible rfl)
        simp only [PT]
        refine wpAnyH_done (by kernel_rfl) ?_ _
        rotate_left
        (go_must (refine step_lit1 rfl 23 48 (.tmp 45) rfl x.cells.toArray zeroS.cells.toArray rfl 2 Try.underlying23 sh_info (by omega) (by omega) (fill_sh x) ?_); intro w46 g46 le46 lt46 hg__ hb__; (try (have hx46 : g46 ≠ g37 := Nat.ne_of_gt (Nat.lt_of_lt_of_le lt37 (Nat.le_trans (bsz (w := w37) bup) le46)))); go_must (have H46 := Lib.hid hg__); (try (replace HQ := Lib.hid (own_keep (own_keep HQ.out bup) hb__))); go_must (replace HF := cE0 HF bup hb__); clear hg__ hb__)
        refine hK.out _ _ ?_ (fun hHeld => ?_)
        focus (exact range_below HRX.out hbw2 (HF.out.trans (Below.mono bup HF.out.size)))
        clear hK K
        try simp only [PT]
        refine wpAnyH_ready (rs := [0]) (by kernel_rfl) (by simp) ?_
        refine (AllReadyH.cons (o := ⟨some 37, _, _, _, _, _⟩) rfl (fun K hK => ?_) AllReadyH.nil)
        (go_must (refine step_lit0G elSh rfl rfl ?_); intro w37 g37 le37 lt37 ho__ hb__; (try (have hx46 : g46 ≠ g37 := Nat.ne_of_lt (Nat.lt_of_lt_of_le lt46 (Nat.le_trans (bsz (w := w46) bup) le37)))); go_must (have HQ := Lib.hid (own_base ho__ (Nat.le_trans HF.out.size (bsz bup)))); (try (replace H46 := ckk H46 bup hb__)); go_must (replace HF := cE0 HF bup hb__); clear ho__ hb__)
        refine hK.out _ _ ?_ (fun hHeld => ?_)
        focus (exact range_below HRX.out hbw2 (HF.out.trans (Below.mono bup HF.out.size)))
        clear hK K
        try simp only [PT]
        refine wpAnyH_ready (rs := [4]) (by kernel_rfl) (by simp) ?_
        refine (AllReadyH.cons (o := ⟨some 41, _, _, _, _, _⟩) rfl (fun K hK => ?_) AllReadyH.nil)
        (go_must (refine step_appG elSh rfl (.tmp 37) (.tmp 40) rfl wq.heap.size rfl (own_keep HQ.out bup) rfl (HPRE.out _ (HF.out.trans (Below.mono bup HF.out.size))) (shC_one _) m (by omega) (by unfold maxLen; omega) (by omega) (Nat.le_trans HF.out.size (bsz bup)) ?_); intro ad41 c41 w41 ho__ hg__; (try (replace H46 := Lib.hid (keep_other (hatB H46 bup) hg__ hx46))); go_must (replace HF := cEa HF bup hg__ (ownBlock_ge HQ.out)); clear HQ; have HQ := Lib.hid (show World.ownsRow _ _ _ _ _ _ (shC (L.take m)) from ho__); clear ho__ hg__; (try clear lt37))
        refine hK.out _ _ ?_ (fun hHeld => ?_)
        focus (exact range_below HRX.out hbw2 (HF.out.trans (Below.mono bup HF.out.size)))
        clear hK K
        try simp only [PT]
        refine wpAnyH_ready (rs := [10]) (by kernel_rfl) (by simp) ?_
        refine (AllReadyH.cons (o := ⟨some 47, _, _, _, _, _⟩) rfl (fun K hK => ?_) AllReadyH.nil)
        (go_must (refine step_appG elSh rfl (.tmp 41) (.tmp 46) rfl wq.heap.size rfl (own_keep HQ.out bup) rfl (sl_sh (hatB H46 bup)) (ShV.one x) (m + 1) rfl (by unfold maxLen; omega) (by omega) (Nat.le_trans HF.out.size (bsz bup)) ?_); intro ad47 c47 w47 ho__ hg__; go_must (replace HF := cEa HF bup hg__ (ownBlock_ge HQ.out)); clear HQ H46; have HQ := Lib.hid ho__; clear ho__ hg__)
        refine hK.out _ _ ?_ (fun hHeld => ?_)
        focus (exact range_below HRX.out hbw2 (HF.out.trans (Below.mono bup HF.out.size)))
        clear hK K
        try simp only [PT]
        refine wpAnyH_ready (rs := [14]) (by kernel_rfl) (by simp) ?_
        refine (AllReadyH.cons (o := ⟨some 51, _, _, _, _, _⟩) rfl (fun K hK => ?_) AllReadyH.nil)
        (go_must (refine step_appG elSh rfl (.tmp 47) (.tmp 50) rfl wq.heap.size rfl (own_keep HQ.out bup) rfl (HSUF.out _ (HF.out.trans (Below.mono bup HF.out.size))) (shC_one _) (m + 1) (by omega) (by unfold maxLen; omega) (by omega) (Nat.le_trans HF.out.size (bsz bup)) ?_); intro ad51 c51 w51 ho__ hg__; go_must (replace HF := cEa HF bup hg__ (ownBlock_ge HQ.out)); clear HQ; have HQ := Lib.hid ho__; clear ho__ hg__)
        refine hK.out _ _ ?_ (fun hHeld => ?_)
        focus (exact range_below HRX.out hbw2 (HF.out.trans (Below.mono bup HF.out.size)))
        clear hK K
        try simp only [PT]
        refine tk 15 (oi := ⟨some 3, _, _, _, _, _⟩) (v := ?_) rfl (by kernel_rfl) (.inl ⟨by rfl, ?_⟩) hHeld ?_; rotate_left; focus (intro w hSw; (try dsimp only at hSw); go_simp; try with_reducible rfl)
        simp only [PT]
        refine wpAnyH_done (by kernel_rfl) ?_ _
        rotate_left
        all_goals
          go_wp2_with fail
          go_roundw
          case rel => exact ⟨k + 1, m + 1, insN x L, ad51, c51, by omega, by omega, rfl, by go_num, Lib.hid (by rw [insN_len, ← HN.out]), Lib.hid HT2.out.symm, Lib.hid (by rw [ins_cells HSP.out]; exact own_base (own_keep HQ.out bup) (Nat.le_trans HB.out.size HE.out.size)), Lib.hid ((HB.out.trans (HE.out.mono HB.out.size)).trans ((HF.out.trans (Below.mono bup HF.out.size)).mono (Nat.le_trans HB.out.size HE.out.size)))⟩
          case measure => simp [intOf]; omega
end Go.Proofs.Ytaadpldijnegkaa
/-
  Chapter 17: what the document's Build has in memory while it gathers; that filling ends.
-/
namespace Go.Proofs.Ytaadpldijnegkaa
open Go.RowKit Go.Sort
set_option linter.unusedVariables false
set_option linter.unusedSimpArgs false
set_option maxRecDepth 100000
set_option maxHeartbeats 4000000

/-! ### filling ends -/
theorem least_ex {P : Nat → Prop} [DecidablePred P] : ∀ b, P b → ∃ N, P N ∧ ∀ v, v < N → ¬ P v := by
  intro b
  induction b using Nat.strongRecOn with
  | ind b ih =>
    intro hb
    by_cases h : ∃ v, v < b ∧ P v
    · obtain ⟨v, hv, hp⟩ := h
      exact ih v hv hp
    · exact ⟨b, hb, fun v hv hp => h ⟨v, hv, hp⟩⟩
theorem left_le {G n m : Nat} {qs : List Nat} {ch : Nat → Nat → Nat} (v : Nat) : ∀ d, (runS G n m qs ch (v + d)).left ≤ (runS G n m qs ch v).left
  | 0 => Nat.le_refl _
  | d + 1 => by
    have ih := left_le (G := G) (n := n) (m := m) (qs := qs) (ch := ch) v d
    have e : (runS G n m qs ch (v + d + 1)).left = _ := step_left (G := G) (n := n) (qs := qs) (ch := ch) (i := (v + d) % m) (s := runS G n m qs ch (v + d))
    show (runS G n m qs ch (v + d + 1)).left ≤ _
    rw [e]
    split <;> omega
theorem done_ex {G n m : Nat} {qs : List Nat} {ch : Nat → Nat → Nat} {gi : Nat} (hgi : gi < m) (hq : qs.getD gi 0 = G) : ∃ N, Done G n m qs ch N := by
  have hb : ∀ t, (runS G n m qs ch (t * m)).left ≤ n - t := by
    intro t
    induction t with
    | zero => rw [Nat.zero_mul]; exact Nat.le_refl n
    | succ t ih =>
      have h1 : (runS G n m qs ch (t * m + (gi + 1))).left = (runS G n m qs ch (t * m + gi)).left - 1 := by
        rw [fil_round t gi hgi, step_left, hq, if_neg (by omega)]
      have h2 := left_le (G := G) (n := n) (m := m) (qs := qs) (ch := ch) (t * m) gi
      have h3 := left_le (G := G) (n := n) (m := m) (qs := qs) (ch := ch) (t * m + (gi + 1)) (m - (gi + 1))
      rw [show t * m + (gi + 1) + (m - (gi + 1)) = (t + 1) * m by rw [Nat.add_mul]; omega] at h3
      omega
  have h0 : (runS G n m qs ch (n * m)).left = 0 := by have := hb n; omega
  obtain ⟨N, h1, h2⟩ := least_ex (P := fun v => (runS G n m qs ch v).left = 0) (n * m) h0
  exact ⟨N, h1, fun v hv => Nat.pos_of_ne_zero (h2 v hv)⟩
/-! ### the turns of the shares that have quanta -/
def usOf (kb : List UInt8) (n : Nat) (zs : List ShV) : List TurnV := zs.map (turnOf kb n)
def namesOf (zs : List ShV) : List ByteArray := zs.map ShV.name
theorem usOf_length (kb : List UInt8) (n : Nat) (zs : List ShV) : (usOf kb n zs).length = zs.length := by simp [usOf]
theorem namesOf_length (zs : List ShV) : (namesOf zs).length = zs.length := by simp [namesOf]
/-- the slots of them -/
def slotsZ (kb : List UInt8) (n : Nat) (zs : List ShV) (sl : List Int) : Prop :=
  (zs = [] ∧ sl = []) ∨ (zs ≠ [] ∧ ∃ N, Done (maxQ (usOf kb n zs)) n (usOf kb n zs).length (qsU (usOf kb n zs)) (chU (usOf kb n zs) n) N ∧ sl = (runS (maxQ (usOf kb n zs)) n (usOf kb n zs).length (qsU (usOf kb n zs)) (chU (usOf kb n zs) n) N).sl)
theorem slotsZ_of {kb : List UInt8} {n : Nat} {ys : List ShV} {sl : List Int} (h : slotsOf kb n ys sl) : slotsZ kb n (hasQ ys) sl := h
theorem slotsZ_unique {kb : List UInt8} {n : Nat} {zs : List ShV} {sl sl' : List Int} (h : slotsZ kb n zs sl) (k : slotsZ kb n zs sl') : sl = sl' := by
  rcases h with ⟨h1, h2⟩ | ⟨h1, N, h2, h3⟩
  · rcases k with ⟨k1, k2⟩ | ⟨k1, _⟩
    · rw [h2, k2]
    · exact absurd h1 k1
  · rcases k with ⟨k1, k2⟩ | ⟨k1, M, k2, k3⟩
    · exact absurd k1 h1
    · rw [h3, k3, h2.unique k2]
/-! ### rows of rows -/
structure RowV where
  ad : Option Addr
  c : Nat
  l : List Nat
def RowV.v (n : Nat) (r : RowV) : Value := .slice r.ad n r.c
theorem elII : Elem Try.prog 59 28 1 24 (.slice none 0 0) := ⟨Try.underlying59, by kernel_rfl, rfl, by omega⟩
theorem rows_one (n : Nat) (rs : List RowV) : ∀ u ∈ rs.map (RowV.v n), u.oneCell' = true := by
  intro u hu
  obtain ⟨r, _, rfl⟩ := List.mem_map.1 hu
  rfl
theorem stV_one (l : List ByteArray) : ∀ u ∈ stV l, u.oneCell' = true := by
  intro u hu
  obtain ⟨r, _, rfl⟩ := List.mem_map.1 hu
  rfl
structure Cst (W w : World) (kb : List UInt8) (g3 g6 g8 n : Nat) (sv : Value) (a1 : Option Addr) (c1 : Nat) (nms : List ByteArray) (a2 : Option Addr) (c2 : Nat) (rs : List RowV) : Prop where
  b3 : w.heap[g3]? = some (.cells (BV kb).toArray 22 (0, 0))
  b6 : w.heap[g6]? = some (.cells #[.slice none 0 0, .slice none 0 0] 30 (0, 0))
  b8 : w.heap[g8]? = some (.cells #[sv, .slice none 0 0] 30 (0, 0))
  nm : w.ownsRow W.heap.size 9 1 (.slice a1 nms.length c1) nms.length (stV nms)
  ch : w.ownsRow W.heap.size 28 1 (.slice a2 rs.length c2) rs.length (rs.map (RowV.v n))
  rw : ∀ r ∈ rs, w.ownsRow W.heap.size 3 1 (.slice r.ad n r.c) n (NV r.l)
  bel : Below W.heap.size W w
  l8 : W.heap.size ≤ g8
  ne : g6 ≠ g8
section
variable {W w w' : World} {kb : List UInt8} {g3 g6 g8 n : Nat} {sv : Value} {a1 : Option Addr} {c1 : Nat} {nms : List ByteArray} {a2 : Option Addr} {c2 : Nat} {rs : List RowV}
theorem Cst.below (h : Cst W w kb g3 g6 g8 n sv a1 c1 nms a2 c2 rs) (hb : Below w.heap.size w w') : Cst W w' kb g3 g6 g8 n sv a1 c1 nms a2 c2 rs :=
  ⟨(hb.block g3 (lt_of_block h.b3)).trans h.b3, (hb.block g6 (lt_of_block h.b6)).trans h.b6, (hb.block g8 (lt_of_block h.b8)).trans h.b8, own_keep h.nm hb, own_keep h.ch hb, fun r hr => own_keep (h.rw r hr) hb, h.bel.trans (hb.mono h.bel.size), h.l8, h.ne⟩
theorem Cst.pushN (h : Cst W w kb g3 g6 g8 n sv a1 c1 nms a2 c2 rs) {a' : Option Addr} {c' : Nat} {s : ByteArray} (ho : w'.ownsRow W.heap.size 9 1 (.slice a' (nms.length + 1) c') (nms.length + 1) (stV nms ++ [.string s])) (hg : w.grownBy w' (Value.ownBlock (.slice a1 nms.length c1))) :
    Cst W w' kb g3 g6 g8 n sv a' c' (nms ++ [s]) a2 c2 rs :=
  ⟨(hg.block g3 (lt_of_block h.b3) (own_farB h.nm h.b3 (by decide)).symm).trans h.b3, (hg.block g6 (lt_of_block h.b6) (own_farB h.nm h.b6 (by decide)).symm).trans h.b6, (hg.block g8 (lt_of_block h.b8) (own_farB h.nm h.b8 (by decide)).symm).trans h.b8,
    by rw [List.length_append, List.length_singleton, stV_snoc]; exact ho, h.ch.kept hg (own_farR h.ch h.nm (by decide)), fun r hr => (h.rw r hr).kept hg (own_farR (h.rw r hr) h.nm (by decide)), h.bel.grown hg h.bel.size (fun k hk => ownBlock_ge h.nm k hk), h.l8, h.ne⟩
theorem Cst.pushC (h : Cst W w kb g3 g6 g8 n sv a1 c1 nms a2 c2 rs) {a' : Option Addr} {c' : Nat} {r : RowV} (hr : w.ownsRow W.heap.size 3 1 (.slice r.ad n r.c) n (NV r.l)) (ho : w'.ownsRow W.heap.size 28 1 (.slice a' (rs.length + 1) c') (rs.length + 1) (rs.map (RowV.v n) ++ [r.v n])) (hg : w.grownBy w' (Value.ownBlock (.slice a2 rs.length c2))) :
    Cst W w' kb g3 g6 g8 n sv a1 c1 nms a' c' (rs ++ [r]) :=
  ⟨(hg.block g3 (lt_of_block h.b3) (own_farB h.ch h.b3 (by decide)).symm).trans h.b3, (hg.block g6 (lt_of_block h.b6) (own_farB h.ch h.b6 (by decide)).symm).trans h.b6, (hg.block g8 (lt_of_block h.b8) (own_farB h.ch h.b8 (by decide)).symm).trans h.b8,
    h.nm.kept hg (own_farR h.nm h.ch (by decide)), by rw [List.length_append, List.length_singleton, List.map_append]; exact ho, fun r' hr' => by
      rcases List.mem_append.1 hr' with h' | h'
      · exact (h.rw r' h').kept hg (own_farR (h.rw r' h') h.ch (by decide))
      · rw [List.mem_singleton] at h'
        subst h'
        exact hr.kept hg (own_farR hr h.ch (by decide)), h.bel.grown hg h.bel.size (fun k hk => ownBlock_ge h.ch k hk), h.l8, h.ne⟩
theorem Cst.far6 (h : Cst W w kb g3 g6 g8 n sv a1 c1 nms a2 c2 rs) : Value.ownBlock (.slice a1 nms.length c1) ≠ some g6 := own_farB h.nm h.b6 (by decide)
theorem Cst.far8 (h : Cst W w kb g3 g6 g8 n sv a1 c1 nms a2 c2 rs) : Value.ownBlock (.slice a1 nms.length c1) ≠ some g8 := own_farB h.nm h.b8 (by decide)
theorem Cst.farC8 (h : Cst W w kb g3 g6 g8 n sv a1 c1 nms a2 c2 rs) : Value.ownBlock (.slice a2 rs.length c2) ≠ some g8 := own_farB h.ch h.b8 (by decide)
theorem Cst.st8 (h : Cst W w kb g3 g6 g8 n sv a1 c1 nms a2 c2 rs) {sv' : Value} (hs : w'.heap[g8]? = some (.cells #[sv', .slice none 0 0] 30 (0, 0))) (hg : w.grownBy w' (some g8)) :
    Cst W w' kb g3 g6 g8 n sv' a1 c1 nms a2 c2 rs :=
  ⟨(hg.block g3 (lt_of_block h.b3) (fun e => by
      obtain rfl : g3 = g8 := Option.some.inj e
      have := h.b3.symm.trans h.b8
      simp at this)).trans h.b3, (hg.block g6 (lt_of_block h.b6) (fun e => h.ne (Option.some.inj e))).trans h.b6, hs,
    h.nm.kept hg (.inr (own_farB h.nm h.b8 (by decide))), h.ch.kept hg (.inr (own_farB h.ch h.b8 (by decide))), fun r hr => (h.rw r hr).kept hg (.inr (own_farB (h.rw r hr) h.b8 (by decide))), h.bel.grown hg h.bel.size (fun k hk => by cases hk; exact h.l8), h.l8, h.ne⟩
end
instance {W w w' : World} {kb : List UInt8} {g3 g6 g8 n : Nat} {sv : Value} {a1 : Option Addr} {c1 : Nat} {nms : List ByteArray} {a2 : Option Addr} {c2 : Nat} {rs : List RowV} : Ck (Cst W w kb g3 g6 g8 n sv a1 c1 nms a2 c2 rs) w' w (Cst W w' kb g3 g6 g8 n sv a1 c1 nms a2 c2 rs) := ⟨fun h hE => h.below hE⟩
/-! ### slots and credits in memory -/
structure Flr (w : World) (b gs cs gc M : Nat) (n : Nat) (sl : List Int) (cr : List Nat) : Prop where
  s : w.ownsRow b 3 1 (.slice (some ⟨gs, 0, none⟩) n cs) n (iV sl)
  c : w.ownsRow b 3 1 (.slice (some ⟨gc, 0, none⟩) M M) M (NV cr)
  ne : gs ≠ gc
theorem Flr.keep {w w' : World} {b gs cs gc M n : Nat} {sl : List Int} {cr : List Nat} (h : Flr w b gs cs gc M n sl cr) (hb : Below w.heap.size w w') : Flr w' b gs cs gc M n sl cr := ⟨own_keep h.s hb, own_keep h.c hb, h.ne⟩
instance {w w' : World} {b gs cs gc M n : Nat} {sl : List Int} {cr : List Nat} : Ck (Flr w b gs cs gc M n sl cr) w' w (Flr w' b gs cs gc M n sl cr) := ⟨fun h hE => h.keep hE⟩
theorem Flr.cc {w : World} {b gs cs gc M n : Nat} {sl : List Int} {cr : List Nat} (h : Flr w b gs cs gc M n sl cr) {i : Nat} (hi : i < cr.length) : w.cell? ⟨gc, i, none⟩ = some (.int .i64 ((cr.getD i 0 : Nat) : Int)) := by
  have hl : M = cr.length := by have := h.c.1; rw [NV_length] at this; omega
  rw [h.c.cellAt i (by omega)]
  simp [NV, List.getD_eq_getElem?_getD, List.getElem?_eq_getElem hi]
theorem Flr.sc {w : World} {b gs cs gc M n : Nat} {sl : List Int} {cr : List Nat} (h : Flr w b gs cs gc M n sl cr) {i : Nat} {z : Int} (hz : sl[i]? = some z) : w.cell? ⟨gs, i, none⟩ = some (.int .i64 z) := by
  have hl : n = sl.length := by have := h.s.1; rw [iV_length] at this; omega
  have hi : i < sl.length := (List.getElem?_eq_some_iff.1 hz).1
  rw [h.s.cellAt i (by omega), iV_at, hz]
  rfl
theorem Flr.setS {w w' : World} {b gs cs gc M n : Nat} {sl sl' : List Int} {cr : List Nat} (h : Flr w b gs cs gc M n sl cr) (ho : w'.ownsRow b 3 1 (.slice (some ⟨gs, 0, none⟩) n cs) n (iV sl')) (hg : w.grownBy w' (some gs)) : Flr w' b gs cs gc M n sl' cr :=
  ⟨ho, h.c.kept hg (.inr (fun e => h.ne (by cases e; rfl))), h.ne⟩
theorem Flr.setC {w w' : World} {b gs cs gc M n : Nat} {sl : List Int} {cr cr' : List Nat} (h : Flr w b gs cs gc M n sl cr) (ho : w'.ownsRow b 3 1 (.slice (some ⟨gc, 0, none⟩) M M) M (NV cr')) (hg : w.grownBy w' (some gc)) : Flr w' b gs cs gc M n sl cr' :=
  ⟨h.s.kept hg (.inr (fun e => h.ne (by cases e; rfl))), ho, h.ne⟩
/-! ### the greatest quanta -/
def maxZ (zs : List ShV) : Int := zs.foldl (fun g x => max g x.q) 0
theorem maxZ_snoc (zs : List ShV) (x : ShV) : maxZ (zs ++ [x]) = max (maxZ zs) x.q := by simp [maxZ, List.foldl_append]
theorem maxZ_from (kb : List UInt8) (n : Nat) : ∀ (zs : List ShV) (g : Nat), (∀ x ∈ zs, 0 < x.q) → zs.foldl (fun g x => max g x.q) (g : Int) = (((usOf kb n zs).foldl (fun g u => max g u.q) g : Nat) : Int)
  | [], g, _ => rfl
  | x :: zs, g, h => by
    have hx := h x List.mem_cons_self
    have e : max (g : Int) x.q = ((max g x.q.toNat : Nat) : Int) := by omega
    show zs.foldl (fun g x => max g x.q) (max (g : Int) x.q) = _
    rw [e, maxZ_from kb n zs _ (fun y hy => h y (List.mem_cons_of_mem _ hy))]
    rfl
theorem maxZ_maxQ (kb : List UInt8) (n : Nat) {zs : List ShV} (h : ∀ x ∈ zs, 0 < x.q) : maxZ zs = ((maxQ (usOf kb n zs) : Nat) : Int) := maxZ_from kb n zs 0 h
theorem us_us {kb : List UInt8} {n : Nat} {zs : List ShV} (h2 : 2 ≤ n) (h3 : n ≤ 65537) (hp : pr n = true) (hq : ∀ x ∈ zs, 0 < x.q ∧ x.q ≤ 1024000) (h0 : 0 < zs.length) : Us (usOf kb n zs) n := by
  refine ⟨by rw [usOf_length]; exact h0, h2, h3, hp, fun u hu => ?_⟩
  obtain ⟨x, hx, rfl⟩ := List.mem_map.1 hu
  obtain ⟨q1, q2⟩ := hq x hx
  have hm1 : tagN kb x.name 1 % (n - 1) < n - 1 := Nat.mod_lt _ (by omega)
  refine ⟨rfl, rfl, ?_, ?_, Nat.mod_lt _ (by omega), ?_, ?_⟩
  · show 0 < x.q.toNat; omega
  · show x.q.toNat ≤ 1024000; omega
  · show 0 < skipN kb x.name n; unfold skipN; omega
  · show skipN kb x.name n < n; unfold skipN; omega
theorem chU_us {kb : List UInt8} {n : Nat} {zs : List ShV} {i : Nat} (hi : i < zs.length) (j : Nat) : chU (usOf kb n zs) n i j = choiceN (offN kb zs[i].name n) (skipN kb zs[i].name n) n j := by
  unfold chU
  have e : (usOf kb n zs).getD i zeroU = turnOf kb n zs[i] := by
    rw [List.getD_eq_getElem?_getD, List.getElem?_eq_getElem (by rw [usOf_length]; exact hi)]
    simp [usOf]
  rw [e]
  rfl
theorem qs_us {kb : List UInt8} {n : Nat} {zs : List ShV} {i : Nat} (hi : i < zs.length) : (qsU (usOf kb n zs)).getD i 0 = zs[i].q.toNat := by
  unfold qsU usOf
  rw [List.map_map, List.getD_eq_getElem?_getD, List.getElem?_map, List.getElem?_eq_getElem hi]
  rfl
theorem allN_at (o s n k : Nat) (hk : k < n) : (allN o s n)[k]? = some (choiceN o s n k) := by simp [allN, hk]
/-! ### '[]T{v}', v of one cell, in a drawn region -/
theorem step_litV {P : Program} {ops : Array Oper} {Q : Exit → Act → World → Prop} {a : Act} {w : World} {K : Act → World → Prop} {E : Prop} {o : Oper} {t e : TypeId} {bytes : Nat} {z : Value} (el : Elem P t e 1 bytes z) (hgd : o.guard = none) (x : Operand) (ho : o.op = .buildSlice t 1 #[(0, x)]) (v : Value) (hx : a.eval x = v) (hv : v.cells = #[v]) 
    (h : ∀ w1 g, w.heap.size ≤ g → g < w1.heap.size → w1.heap[g]? = some (.cells #[v] e (0, 0)) → Below w.heap.size w w1 → K (a.put o.dst (.slice (some ⟨g, 0, none⟩) 1 1)) w1) :
    if Region.wanted o (yielded ops a.tmps) = true then Oper.wp P o a w K Q else E := by
  refine step_run2 (by simp [Region.wanted, hgd]) (v := .slice (some ⟨w.heap.size, 0, none⟩) 1 1) (w' := w.alloc (.cells #[v] e)) ?_ (h _ _ (Nat.le_refl _) (by simp) (heap_alloc_last w _) ((Below.refl _ _).alloc (Nat.le_refl _) _))
  obtain ⟨ie, hie, hz, hs, _⟩ := info_parts el.info
  have hrun := run_buildSlice (P := P) w t e 1 #[(0, v)] #[v] ie z el.ht hie hz (by rw [hs]; omega) (by rw [hs]; omega) (by
    rw [hs]
    exact fill_whole1 1 _ v [v] (by simp) hv rfl)
  unfold execOp
  simp only [ho, List.map_toArray, List.map_cons, List.map_nil, hx, Sem.run_bind, hrun, Result.andThen_ok, Sem.run_pure]
end Go.Proofs.Ytaadpldijnegkaa
/-
  Chapter 17: the document's Build: walked.
-/
namespace Go.Proofs.Ytaadpldijnegkaa
open Go.RowKit Go.Sort
set_option linter.unusedVariables false
set_option linter.unusedSimpArgs false
set_option maxRecDepth 100000
set_option maxHeartbeats 16000000

/-- what the document's Build answers, of the shares that have quanta -/
def RetR17 (kb : List UInt8) (n : Nat) (zs : List ShV) (w : World) (e : Ending) (w' : World) : Prop :=
  ∃ a1 c1 a2 c2 sl, e = .returned (.agg #[.slice a1 zs.length c1, .slice a2 sl.length c2]) ∧ w'.ownsRow w.heap.size 9 1 (.slice a1 zs.length c1) zs.length (stV (namesOf zs)) ∧ w'.ownsRow w.heap.size 3 1 (.slice a2 sl.length c2) sl.length (iV sl) ∧ slotsZ kb n zs sl ∧ Below w.heap.size w w'
def rsOk (kb : List UInt8) (n : Nat) (zs : List ShV) (rs : List RowV) : Prop := rs.length = zs.length ∧ ∀ i (hi : i < zs.length), (rs.getD i ⟨none, 0, []⟩).l = allN (offN kb zs[i].name n) (skipN kb zs[i].name n) n
theorem sl_str {w : World} {g : Nat} {s : ByteArray} {ty : TypeId} {fz : Nat × Nat} (h : w.heap[g]? = some (.cells #[.string s] ty fz)) : Sl w (some ⟨g, 0, none⟩) 1 1 1 [.string s] := sl_block (cs := [.string s]) h
theorem one_str (s : ByteArray) : ∀ u ∈ [Value.string s], u.oneCell' = true := by
  intro u hu
  rw [List.mem_singleton] at hu
  subst hu
  rfl
theorem sl_slc {w : World} {g n c : Nat} {ad : Option Addr} {ty : TypeId} {fz : Nat × Nat} (h : w.heap[g]? = some (.cells #[.slice ad n c] ty fz)) : Sl w (some ⟨g, 0, none⟩) 1 1 1 [.slice ad n c] := sl_block (cs := [.slice ad n c]) h
theorem one_slc (ad : Option Addr) (n c : Nat) : ∀ u ∈ [Value.slice ad n c], u.oneCell' = true := by
  intro u hu
  rw [List.mem_singleton] at hu
  subst hu
  rfl
theorem sl_int {w : World} {g : Nat} {z : Int} {ty : TypeId} {fz : Nat × Nat} (h : w.heap[g]? = some (.cells #[.int .i64 z] ty fz)) : Sl w (some ⟨g, 0, none⟩) 1 1 1 [.int .i64 z] := sl_block (cs := [.int .i64 z]) h
theorem one_int (z : Int) : ∀ u ∈ [Value.int .i64 z], u.oneCell' = true := by
  intro u hu
  rw [List.mem_singleton] at hu
  subst hu
  rfl
theorem Cst.look {W wL w3 : World} {kb : List UInt8} {g3 g6 g8 n : Nat} {sv : Value} {a1 : Option Addr} {c1 : Nat} {nms : List ByteArray} {a2 : Option Addr} {c2 : Nat} {rs : List RowV} (h : Cst W wL kb g3 g6 g8 n sv a1 c1 nms a2 c2 rs) (hb : But g8 g8 wL w3) {gs gc : Nat} (hgs : wL.heap.size ≤ gs) (hgc : wL.heap.size ≤ gc) (h0 : 0 < n) {i : Nat} (hi : i < rs.length) :
    ∃ gch, a2 = some ⟨gch, 0, none⟩ ∧ ∃ gr cr, ∀ wz, But gs gc w3 wz → wz.cell? ⟨gch, i, none⟩ = some (.slice (some ⟨gr, 0, none⟩) n cr) ∧ ∀ k (z : Nat), rs[i].l[k]? = some z → k < n → wz.cell? ⟨gr, k, none⟩ = some (.int .i64 (z : Int)) := by
  obtain ⟨gch, rfl⟩ := own_some h.ch (by omega)
  have hr := h.rw rs[i] (List.getElem_mem hi)
  obtain ⟨gr, hgr⟩ := own_some hr (by omega)
  rw [hgr] at hr
  have l1 := (World.ownsRow.lt h.ch gch rfl).2
  have l2 := (World.ownsRow.lt hr gr rfl).2
  have f1 : gch ≠ g8 := fun e => own_farB h.ch h.b8 (by decide) (by rw [e]; rfl)
  have f2 : gr ≠ g8 := fun e => own_farB hr h.b8 (by decide) (by rw [e]; rfl)
  refine ⟨gch, rfl, gr, rs[i].c, fun wz hz => ⟨?_, fun k z hk hkn => ?_⟩⟩
  · have e := h.ch.cellAt i (by omega)
    rw [List.getElem?_map, List.getElem?_eq_getElem hi, Option.map_some] at e
    unfold RowV.v at e
    rw [hgr] at e
    exact hz.cell (hb.cell e f1 f1) (show gch ≠ gs by omega) (show gch ≠ gc by omega)
  · have e := hr.cellAt k (by omega)
    rw [NV, List.getElem?_map, hk, Option.map_some] at e
    exact hz.cell (hb.cell e f2 f2) (show gr ≠ gs by omega) (show gr ≠ gc by omega)
theorem zs_look {wS wL w3 : World} {g8 : Nat} {ad : Option Addr} {M c : Nat} {zs : List ShV} (h : Shs wS ad M c zs) (hS : Below wS.heap.size wS wL) (h8 : wS.heap.size ≤ g8) (hb : But g8 g8 wL w3) {gs gc : Nat} (hgs : wL.heap.size ≤ gs) (hgc : wL.heap.size ≤ gc) (h0 : 0 < zs.length) :
    ∃ b off, ad = some ⟨b, off, none⟩ ∧ ∀ i (hi : i < zs.length) wz, But gs gc w3 wz → wz.cell? ⟨b, off + i * 2 + 1, none⟩ = some (.int .i64 zs[i].q) := by
  obtain ⟨b, off, ha, hbl, hat⟩ := h.at h0
  have l := hS.size
  refine ⟨b, off, ha, fun i hi wz hz => ?_⟩
  have e := sh_q (range_below (hat i hi) hbl hS)
  exact hz.cell (hb.cell e (show b ≠ g8 by omega) (show b ≠ g8 by omega)) (show b ≠ gs by omega) (show b ≠ gc by omega)
theorem refBuild_any (kb : List UInt8) (hkb : kb.length = 16) (n : Nat) (h2n : 2 ≤ n) (h3n : n ≤ 65537) (hpr : pr n = true) (ad : Option Addr) (m c : Nat) (xs : List ShV) (hm : m ≤ 1024) (hnm : ∀ x ∈ risL xs, x.name.size ≤ 999999) (hq : ∀ x ∈ risL xs, 0 < x.q ∧ x.q ≤ 1024000) (w : World) (h : Shs w ad m c xs) :
    Calls Try.prog 16 #[.agg (BV kb).toArray, .int .i64 (n : Int), .slice ad m c] w (RetR17 kb n (risL xs) w) := by
  have HXS := Lib.hid h
  have HNM := Lib.hid hnm
  have HQQ := Lib.hid hq
  have HB := Lib.hid (Below.refl w.heap.size w)
  have hml := h.len
  have hzl : (risL xs).length ≤ 1024 := by have := risL_le xs; omega
  have HML := Lib.hid hml
  have HPR := Lib.hid hpr
  obtain ⟨zs, hzs⟩ : ∃ zs, zs = risL xs := ⟨_, rfl⟩
  rw [← hzs] at hzl HNM HQQ ⊢
  have HZS := Lib.hid hzs
  have HKS : Hid ((Try.prog.info? 22).map (·.size) = some (BV kb).length) := Lib.hid (by rw [BV_length, hkb]; exact key_size)
  have HSS : Hid ((Try.prog.info? 27).map (·.size) = some 1) := Lib.hid (by kernel_rfl)
  have HSI : Hid ((Try.prog.info? 28).map (·.size) = some 1) := Lib.hid (by kernel_rfl)
  clear h hnm hq hml hpr hzs
  go_enter Try.func16, Try.ntmps16
  go_wp2_with (first
    | ((with_reducible refine sl 3 ?_); go_must (refine wpL_boxG rfl 22 (.tmp 0) rfl (BV kb).toArray rfl ?_); intro w1 g3 he__ le_g3 lt_g3 hg__ hb__; have HG3 := Lib.hid hg__; have hE__ := cU HB bup hb__; replace HB := ck HB hE__; replace HXS := ck HXS hE__; clear hE__; clear hg__ hb__ he__; simp only [PT])
    | ((with_reducible refine sl 6 ?_); go_must (refine wpL_allocG rfl 30 rfl (.agg #[.slice none 0 0, .slice none 0 0]) #[.slice none 0 0, .slice none 0 0] 2 tb_info rfl ?_); intro w2 g6 he__ le_g6 lt_g6 hg__ hb__; have le_g6W : w.heap.size ≤ g6 := Nat.le_trans HB.out.size le_g6; have HG6 := Lib.hid hg__; have hE__ := cU HB bup hb__; replace HB := ck HB hE__; replace HXS := ck HXS hE__; replace HG3 := ck HG3 hE__; clear hE__; clear hg__ hb__ he__; simp only [PT])
    | (go_at_call 20; go_must (refine (refRising_any ad m c xs hm _ HXS.out).mono ?_); rintro e wS ⟨adz, cz, rfl, hown, hb__⟩; rw [← HZS.out] at hown ⊢; have hszS := HB.out.size; have hE__ := cU HB bup hb__; replace HB := ck HB hE__; replace HG3 := ck HG3 hE__; replace HG6 := ck HG6 hE__; clear hE__; have lt_g3S := lt_of_block HG3.out; have lt_g6S := lt_of_block HG6.out; have HYS := Lib.hid (Shs.of_own hown); clear hb__ hown)
    | ((with_reducible refine sl 8 ?_); go_must (refine wpL_allocG rfl 30 rfl (.agg #[.slice none 0 0, .slice none 0 0]) #[.slice none 0 0, .slice none 0 0] 2 tb_info rfl ?_); intro w8 g8 he__ le_g8 lt_g8 hg__ hb__; have hb8 := Lib.hid hb__; replace HG3 := ckk HG3 bup hb__; replace HG6 := ckk HG6 bup hb__; have HG8 := Lib.hid hg__; clear hg__ hb__ he__; simp only [PT]))
  obtain ⟨wl, hwl⟩ : ∃ wl, wl = w8 := ⟨_, rfl⟩
  have hne68 : g6 ≠ g8 := by omega
  have HCS : Hid (Cst wS w8 kb g3 g6 g8 n (.slice none 0 0) none 0 [] none 0 []) := Lib.hid ⟨HG3.out, HG6.out, HG8.out, World.ownsRow_nil _ _ _ _, World.ownsRow_nil _ _ _ _, fun r hr => (by cases hr), hb8.out, le_g8, hne68⟩
  rw [← hwl] at HCS
  go_loopw [9, 10, 11] (fun v g i wr => ∃ (k : Nat) (a1 : Option Addr) (c1 : Nat) (a2 : Option Addr) (c2 : Nat) (rs : List RowV), k ≤ zs.length ∧ i = .int .i64 (k : Int) ∧ g = .int .i64 (maxZ (zs.take k)) ∧ v = .slice a2 rs.length c2 ∧ Hid (rsOk kb n (zs.take k) rs) ∧ Hid (Cst wS wr kb g3 g6 g8 n (.slice a1 (namesOf (zs.take k)).length c1) a1 c1 (namesOf (zs.take k)) a2 c2 rs)) (fun _ _ i _ => zs.length - (intOf i).toNat)
  case atStart => exact ⟨0, none, 0, none, 0, [], by omega, rfl, rfl, rfl, Lib.hid ⟨rfl, fun i hi => by simp at hi⟩, by rw [hwl] at HCS; exact HCS⟩
  case round =>
    clear HCS hwl wl HG3 HG6 HG8
    obtain ⟨k, a1, c1, a2, c2, rs, hk, rfl, rfl, rfl, HRS, HCS⟩ := hrel
    by_cases hlt : k < zs.length
    · have hlt' : (k : Int) < (zs.length : Int) := by omega
      obtain ⟨b, off, rfl, hbl, hat⟩ := HYS.out.at (by omega)
      obtain ⟨x, hx⟩ : ∃ x, x = zs[k] := ⟨_, rfl⟩
      obtain ⟨nm, hnm⟩ : ∃ nm, nm = x.name := ⟨_, rfl⟩
      obtain ⟨q, hqx⟩ : ∃ q, q = x.q := ⟨_, rfl⟩
      have hr : wS.rangeAt b (off + k * 2) x.cells := by rw [hx]; exact hat k hlt
      have HCN : Hid (wS.cell? ⟨b, off + k * 2, none⟩ = some (.string nm)) := Lib.hid (by rw [hnm]; exact sh_name hr)
      have HCQ : Hid (wS.cell? ⟨b, off + k * 2 + 1, none⟩ = some (.int .i64 q)) := Lib.hid (by rw [hqx]; exact sh_q hr)
      have hnl : nm.size ≤ 999999 := by rw [hnm, hx]; exact HNM.out _ (List.getElem_mem hlt)
      have HTK : Hid (zs.take (k + 1) = zs.take k ++ [x]) := Lib.hid (by rw [hx]; exact List.take_succ_eq_append_getElem hlt)
      have hNS : Hid (namesOf (zs.take (k + 1)) = namesOf (zs.take k) ++ [nm]) := Lib.hid (by unfold namesOf; rw [HTK.out, List.map_append, hnm]; rfl)
      have hMS : Hid (maxZ (zs.take (k + 1)) = max (maxZ (zs.take k)) q) := Lib.hid (by rw [HTK.out, maxZ_snoc, hqx])
      have hnml : (namesOf (zs.take k)).length ≤ 1024 := by rw [namesOf_length, List.length_take]; omega
      have hrsl : rs.length ≤ 1024 := by rw [HRS.out.1, List.length_take]; omega
      have HRN : Hid (∀ r : RowV, r.l = allN (offN kb nm n) (skipN kb nm n) n → rsOk kb n (zs.take (k + 1)) (rs ++ [r])) := Lib.hid (fun r hr => by
        rw [HTK.out]
        refine ⟨by rw [List.length_append, List.length_append, HRS.out.1]; rfl, fun i hi => ?_⟩
        rw [List.length_append, List.length_singleton] at hi
        by_cases e : i < (zs.take k).length
        · have := HRS.out.2 i e
          rw [List.getD_eq_getElem?_getD, List.getElem?_append_left (by rw [HRS.out.1]; exact e), ← List.getD_eq_getElem?_getD, this, List.getElem_append_left e]
        · obtain rfl : i = (zs.take k).length := by omega
          rw [List.getD_eq_getElem?_getD, List.getElem?_append_right (by rw [HRS.out.1]; exact Nat.le_refl _), HRS.out.1, Nat.sub_self, List.getElem_append_right (Nat.le_refl _)]
          simp only [List.getElem?_cons_zero, Option.getD_some, hr, Nat.sub_self, List.getElem_cons_zero, hnm])
      clear hat hr hnm hqx hx
      go_wp2_with fail
      refine wp_region_T (S := fun u__ => u__.cell? ⟨g8, 0, none⟩ = some (.slice a1 (namesOf (zs.take k)).length c1) ∧ u__.cell? ⟨b, off + k * 2, none⟩ = some (.string nm)) 10 (by kernel_rfl) ?_ (fun hHeld => ?_)
      focus (exact ⟨cellV (HCS.out.below bup).b8 rfl, ((HCS.out.below bup).bel.cell (p := ⟨b, off + k * 2, none⟩) hbl).trans HCN.out⟩)
      refine tkT 10 0 (oi := ⟨some 25, _, _, _, _, _⟩) (v := ?_) rfl (by kernel_rfl) (.inl ⟨by rfl, ?_⟩) hHeld ?_; rotate_left; focus (intro w hSw; (try dsimp only at hSw); go_simp; try with_reducible rfl)
      simp only [PT]
      refine' tkT 10 1 (oi := ⟨some 26, _, _, _, _, _⟩) (v := _) rfl (by kernel_rfl) (yields_loadC (by rfl) 27 (.tmp 25) rfl g8 0 rfl (.slice a1 (namesOf (zs.take k)).length c1) (fun _ h => h.1) Try.underlying27 rfl) hHeld ?_
      simp only [PT]
      refine tkT 10 2 (oi := ⟨some 27, _, _, _, _, _⟩) (v := ?_) rfl (by kernel_rfl) (.inl ⟨by rfl, ?_⟩) hHeld ?_; rotate_left; focus (intro w hSw; (try dsimp only at hSw); go_simp; try with_reducible rfl)
      simp only [PT]
      refine tkT 10 3 (oi := ⟨some 28, _, _, _, _, _⟩) (v := ?_) rfl (by kernel_rfl) (.inl ⟨by rfl, ?_⟩) hHeld ?_; rotate_left; focus (intro w hSw; (try dsimp only at hSw); go_simp; try with_reducible rfl)
      simp only [PT]
      refine tkT 10 4 (oi := ⟨some 29, _, _, _, _, _⟩) (v := ?_) rfl (by kernel_rfl) (.inl ⟨by rfl, ?_⟩) hHeld ?_; rotate_left; focus (intro w hSw; (try dsimp only at hSw); go_simp; try with_reducible rfl)
      simp only [PT]
      refine tkT 10 5 (oi := ⟨some 30, _, _, _, _, _⟩) (v := ?_) rfl (by kernel_rfl) (.inl ⟨by rfl, ?_⟩) hHeld ?_; rotate_left; focus (intro w hSw; (try dsimp only at hSw); go_simp; try with_reducible rfl)
      simp only [PT]
      refine' tkT 10 6 (oi := ⟨some 31, _, _, _, _, _⟩) (v := _) rfl (by kernel_rfl) (yields_loadC (by rfl) 9 (.tmp 30) rfl b (off + k * 2) rfl (.string nm) (fun _ h => h.2) Try.underlying9 rfl) hHeld ?_
      simp only [PT]
      refine wpAnyT_ready (rs := [7]) (by kernel_rfl) (by simp) ?_
      refine (AllReadyT.cons (o := ⟨some 32, _, _, _, _, _⟩) rfl (fun K hK => ?_) AllReadyT.nil)
      (go_must (refine step_litV elStr rfl (.tmp 31) rfl (.string nm) rfl rfl ?_); intro w32 g32 le32 lt32 hg__ hb__; go_must (have HL32 := Lib.hid hg__); go_must (replace HCS := ckk HCS bup hb__); clear hg__ hb__)
      refine hK.out _ _ (fun _ => ?_) (fun hHeld => ?_)
      focus (exact ⟨cellV (HCS.out.below bup).b8 rfl, ((HCS.out.below bup).bel.cell (p := ⟨b, off + k * 2, none⟩) hbl).trans HCN.out⟩)
      replace hHeld := hHeld (by decide)
      clear hK K
      try simp only [PT]
      refine wpAnyT_ready (rs := [8]) (by kernel_rfl) (by simp) ?_
      refine (AllReadyT.cons (o := ⟨some 33, _, _, _, _, _⟩) rfl (fun K hK => ?_) AllReadyT.nil)
      (go_must (refine step_appG elStr rfl (.tmp 26) (.tmp 32) rfl wS.heap.size rfl (HCS.out.below bup).nm rfl (sl_str (hatB HL32 bup)) (one_str nm) ((namesOf (zs.take k)).length + 1) rfl (by unfold maxLen; omega) (by omega) (HCS.out.below bup).bel.size ?_); intro a3 c3 w33 ho__ hg__; go_must (replace HCS := Lib.hid ((HCS.out.below bup).pushN ho__ hg__)); clear ho__ hg__ HL32)
      refine hK.out _ _ (fun _ => ?_) (fun hHeld => ?_)
      focus (exact ⟨cellV (HCS.out.below bup).b8 rfl, ((HCS.out.below bup).bel.cell (p := ⟨b, off + k * 2, none⟩) hbl).trans HCN.out⟩)
      replace hHeld := hHeld (by decide)
      clear hK K
      try simp only [PT]
      refine tkT 10 9 (oi := ⟨some 34, _, _, _, _, _⟩) (v := ?_) rfl (by kernel_rfl) (.inl ⟨by rfl, ?_⟩) hHeld ?_; rotate_left; focus (intro w hSw; (try dsimp only at hSw); go_simp; try with_reducible rfl)
      simp only [PT]
      refine wpAnyT_ready (rs := [10]) (by kernel_rfl) (by simp) ?_
      refine (AllReadyT.cons (o := ⟨none, _, _, _, _, _⟩) rfl (fun K hK => ?_) AllReadyT.nil)
      (go_must (refine step_storeF rfl 27 (.tmp 34) (.tmp 33) rfl g8 0 (.slice a3 ((namesOf (zs.take k)).length + 1) c3) rfl rfl rfl (HCS.out.below bup).b8 (by simp) HSS.out _ rfl ?_); intro w34 hs__ hr__; go_must (replace HCS := Lib.hid ((HCS.out.below bup).st8 hs__ hr__)); clear hs__ hr__)
      refine hK.out _ _ (fun h => absurd rfl h) (fun hHeld => ?_)
      clear hK K
      try simp only [PT]
      refine wpAnyT_done (by kernel_rfl) ?_ _
      go_wp2_with fail
      refine wp_region_held_drew (S := fun u__ => u__.heap[g3]? = some (.cells (BV kb).toArray 22 (0, 0)) ∧ u__.cell? ⟨b, off + k * 2, none⟩ = some (.string nm)) (by kernel_rfl) ?_ (fun hHeld => ?_)
      focus (exact ⟨(HCS.out.below bup).b3, ((HCS.out.below bup).bel.cell (p := ⟨b, off + k * 2, none⟩) hbl).trans HCN.out⟩)
      refine tk 0 (oi := ⟨some 35, _, _, _, _, _⟩) (v := ?_) rfl (by kernel_rfl) (.inl ⟨by rfl, ?_⟩) hHeld ?_; rotate_left; focus (intro w hSw; (try dsimp only at hSw); go_simp; try with_reducible rfl)
      simp only [PT]
      refine' tk 1 (oi := ⟨some 36, _, _, _, _, _⟩) (v := _) rfl (by kernel_rfl) (yieldsIf_load_mid (by rfl) _ _ rfl _ _ rfl (BV kb) _ (fun _ h => range_block h.1) (Try.underlying22) rfl (HKS.out)) hHeld ?_
      simp only [PT]
      refine tk 2 (oi := ⟨some 37, _, _, _, _, _⟩) (v := ?_) rfl (by kernel_rfl) (.inl ⟨by rfl, ?_⟩) hHeld ?_; rotate_left; focus (intro w hSw; (try dsimp only at hSw); go_simp; try with_reducible rfl)
      simp only [PT]
      refine tk 3 (oi := ⟨some 38, _, _, _, _, _⟩) (v := ?_) rfl (by kernel_rfl) (.inl ⟨by rfl, ?_⟩) hHeld ?_; rotate_left; focus (intro w hSw; (try dsimp only at hSw); go_simp; try with_reducible rfl)
      simp only [PT]
      refine tk 4 (oi := ⟨some 39, _, _, _, _, _⟩) (v := ?_) rfl (by kernel_rfl) (.inl ⟨by rfl, ?_⟩) hHeld ?_; rotate_left; focus (intro w hSw; (try dsimp only at hSw); go_simp; try with_reducible rfl)
      simp only [PT]
      refine tk 5 (oi := ⟨some 40, _, _, _, _, _⟩) (v := ?_) rfl (by kernel_rfl) (.inl ⟨by rfl, ?_⟩) hHeld ?_; rotate_left; focus (intro w hSw; (try dsimp only at hSw); go_simp; try with_reducible rfl)
      simp only [PT]
      refine' tk 6 (oi := ⟨some 41, _, _, _, _, _⟩) (v := _) rfl (by kernel_rfl) (yields_loadC (by rfl) 9 (.tmp 40) rfl b (off + k * 2) rfl (.string nm) (fun _ h => h.2) Try.underlying9 rfl) hHeld ?_
      simp only [PT]
      refine tk 7 (oi := ⟨some 42, _, _, _, _, _⟩) (v := ?_) rfl (by kernel_rfl) (.inl ⟨by rfl, ?_⟩) hHeld ?_; rotate_left; focus (intro w hSw; (try dsimp only at hSw); go_simp; try with_reducible rfl)
      simp only [PT]
      refine wpAnyH_ready (rs := [8]) (by kernel_rfl) (by simp) ?_
      refine (AllReadyH.cons (o := ⟨some 43, _, _, _, _, _⟩) rfl (fun K hK => ?_) AllReadyH.nil)
      focus (go_simp; go_must (refine (refAll_any kb hkb nm hnl n h2n h3n _).mono ?_); intro e wA hr; unfold RetI at hr; obtain ⟨adA, cA, rfl, ho__, hb__⟩ := hr; go_must (have HAR := Lib.hid (own_base ho__ (HCS.out.below bup).bel.size)); go_must (replace HCS := ckk HCS bup hb__); clear ho__ hb__; go_wp2_with fail)
      refine hK.out _ _ ?_ (fun hHeld => ?_)
      focus (exact ⟨(HCS.out.below bup).b3, ((HCS.out.below bup).bel.cell (p := ⟨b, off + k * 2, none⟩) hbl).trans HCN.out⟩)
      clear hK K
      try simp only [PT]
      refine wpAnyH_ready (rs := [9]) (by kernel_rfl) (by simp) ?_
      refine (AllReadyH.cons (o := ⟨some 44, _, _, _, _, _⟩) rfl (fun K hK => ?_) AllReadyH.nil)
      (go_must (refine step_litV elII rfl (.tmp 43) rfl (.slice adA n cA) rfl rfl ?_); intro w44 g44 le44 lt44 hg__ hb__; go_must (have HL44 := Lib.hid hg__); go_must (replace HAR := cOa HAR bup hb__); go_must (replace HCS := ckk HCS bup hb__); clear hg__ hb__)
      refine hK.out _ _ ?_ (fun hHeld => ?_)
      focus (exact ⟨(HCS.out.below bup).b3, ((HCS.out.below bup).bel.cell (p := ⟨b, off + k * 2, none⟩) hbl).trans HCN.out⟩)
      clear hK K
      try simp only [PT]
      refine wpAnyH_ready (rs := [10]) (by kernel_rfl) (by simp) ?_
      refine (AllReadyH.cons (o := ⟨some 45, _, _, _, _, _⟩) rfl (fun K hK => ?_) AllReadyH.nil)
      (go_must (refine step_appG elII rfl (.tmp 35) (.tmp 44) rfl wS.heap.size rfl (HCS.out.below bup).ch rfl (sl_slc (hatB HL44 bup)) (one_slc adA n cA) (rs.length + 1) rfl (by unfold maxLen; omega) (by omega) (HCS.out.below bup).bel.size ?_); intro a4 c4 w45 ho__ hg__; go_must (replace HCS := Lib.hid ((HCS.out.below bup).pushC (r := ⟨adA, cA, allN (offN kb nm n) (skipN kb nm n) n⟩) (own_keep HAR.out bup) ho__ hg__)); clear ho__ hg__ HL44)
      refine hK.out _ _ ?_ (fun hHeld => ?_)
      focus (exact ⟨(HCS.out.below bup).b3, ((HCS.out.below bup).bel.cell (p := ⟨b, off + k * 2, none⟩) hbl).trans HCN.out⟩)
      clear hK K
      try simp only [PT]
      refine tk 11 (oi := ⟨some 9, _, _, _, _, _⟩) (v := ?_) rfl (by kernel_rfl) (.inl ⟨by rfl, ?_⟩) hHeld ?_; rotate_left; focus (intro w hSw; (try dsimp only at hSw); go_simp; try with_reducible rfl)
      simp only [PT]
      refine wpAnyH_done (by kernel_rfl) ?_ _
      by_cases hgq : maxZ (zs.take k) < q
      · go_wp2_with (first
          | ((with_reducible refine sl 50 ?_); go_must (refine wpL_loadC rfl 3 (.tmp 49) rfl b (off + k * 2 + 1) rfl (.int .i64 q) (((HCS.out.below bup).bel.cell (p := ⟨b, off + k * 2 + 1, none⟩) hbl).trans HCQ.out) Try.underlying3 rfl ?_); simp only [PT])
          | ((with_reducible refine sl 57 ?_); go_must (refine wpL_loadC rfl 3 (.tmp 56) rfl b (off + k * 2 + 1) rfl (.int .i64 q) (((HCS.out.below bup).bel.cell (p := ⟨b, off + k * 2 + 1, none⟩) hbl).trans HCQ.out) Try.underlying3 rfl ?_); simp only [PT]))
        go_roundw
        case rel => exact ⟨k + 1, a3, c3, a4, c4, _, by omega, by go_num, by rw [hMS.out]; congr 1; omega, by rw [List.length_append]; rfl, Lib.hid (HRN.out _ rfl), by rw [hNS.out, List.length_append]; exact Lib.hid (HCS.out.below bup)⟩
        case measure => simp [intOf]; omega
      · go_wp2_with (first
          | ((with_reducible refine sl 50 ?_); go_must (refine wpL_loadC rfl 3 (.tmp 49) rfl b (off + k * 2 + 1) rfl (.int .i64 q) (((HCS.out.below bup).bel.cell (p := ⟨b, off + k * 2 + 1, none⟩) hbl).trans HCQ.out) Try.underlying3 rfl ?_); simp only [PT]))
        go_roundw
        case rel => exact ⟨k + 1, a3, c3, a4, c4, _, by omega, by go_num, by rw [hMS.out]; congr 1; omega, by rw [List.length_append]; rfl, Lib.hid (HRN.out _ rfl), by rw [hNS.out, List.length_append]; exact Lib.hid (HCS.out.below bup)⟩
        case measure => simp [intOf]; omega
    · have hge : ¬ (k : Int) < (zs.length : Int) := by omega
      obtain rfl : k = zs.length := by omega
      rw [List.take_length] at HRS HCS ⊢
      have hnln : (namesOf zs).length = zs.length := namesOf_length zs
      have HNL := Lib.hid hnln
      have HMX : Hid (maxZ zs = ((maxQ (usOf kb n zs) : Nat) : Int)) := Lib.hid (maxZ_maxQ kb n (fun x hx => (HQQ.out x hx).1))
      by_cases hz : zs.length = 0
      · have HZN : Hid (zs = []) := Lib.hid (List.eq_nil_of_length_eq_zero hz)
        have hmz : (maxZ zs == 0) = true := by rw [HZN.out]; rfl
        clear hz hnln
        go_wp2_with (first
          | ((with_reducible refine sl 60 ?_); go_must (refine wpL_load rfl 30 (.tmp 8) rfl g8 0 rfl [.slice a1 (namesOf zs).length c1, .slice none 0 0] _ (range_block (cs := [.slice a1 (namesOf zs).length c1, .slice none 0 0]) (HCS.out.below bup).b8) Try.underlying30 rfl tb_size ?_); simp only [PT])
          | ((with_reducible show wpList _ _ _ (⟨none, .store _ (.tmp 6) (.tmp 60), _, _, _, _⟩ :: _) _ _); go_must (refine wpL_storeRow rfl 30 (.tmp 6) (.tmp 60) rfl g6 #[.slice a1 (namesOf zs).length c1, .slice none 0 0] rfl rfl (HCS.out.below bup).b6 tb_size rfl (tb_all rfl rfl) ?_); intro w66 hs__ hr__; go_must (have HNz := Lib.hid (own_lower ((HCS.out.below bup).nm.kept hr__ (.inr HCS.out.far6)) HB.out.size)); go_must (have HBz := Lib.hid ((HB.out.trans ((HCS.out.below bup).bel.mono HB.out.size)).grown hr__ (Nat.le_trans HB.out.size (HCS.out.below bup).bel.size) (fun k hk => by cases hk; exact le_g6W))); have HG6z := Lib.hid hs__; clear hs__ hr__; simp only [PT]))
        refine bodyPost_cell1 rfl rfl (range_block (cs := [.slice a1 (namesOf zs).length c1, .slice none 0 0]) HG6z.out) Try.underlying30 rfl tb_size rfl ?_
        refine ⟨a1, c1, none, 0, [], by rw [← HNL.out]; rfl, ?_, World.ownsRow_nil _ _ _ _, .inl ⟨HZN.out, rfl⟩, HBz.out⟩
        rw [← HNL.out]
        exact HNz.out
      · obtain ⟨M, hM⟩ : ∃ M, M = zs.length := ⟨_, rfl⟩
        have hM0 : 0 < M := by omega
        have hM1 : M ≤ 1024 := by omega
        obtain ⟨us, hus⟩ : ∃ us, us = usOf kb n zs := ⟨_, rfl⟩
        have hUS : Us us n := by rw [hus]; exact us_us h2n h3n HPR.out HQQ.out (by omega)
        have hul : us.length = M := by rw [hus, usOf_length, hM]
        obtain ⟨G, hG⟩ : ∃ G, G = maxQ us := ⟨_, rfl⟩
        have hmx : maxZ zs = (G : Int) := by rw [HMX.out, hG, hus]
        have hG0 : 0 < G := by rw [hG]; exact hUS.big.1
        have hG1 : G ≤ 1024000 := by rw [hG]; exact hUS.big.2
        obtain ⟨gi, hgl, hgq⟩ := maxQ_hit hUS.big.1
        obtain ⟨N, hdone⟩ : ∃ N, Done G n M (qsU us) (chU us n) N := done_ex (gi := gi) (by rw [← hul]; exact hgl) (by
          rw [List.getD_eq_getElem?_getD]
          unfold qsU
          rw [List.getElem?_map, List.getElem?_eq_getElem hgl, hG]
          exact hgq)
        obtain ⟨R, hR⟩ : ∃ R, R = runS G n M (qsU us) (chU us n) := ⟨_, rfl⟩
        have HOK : Hid (∀ v, v ≤ N → Okk G n M (chU us n) (R v)) := Lib.hid (fun v hv => by
          have h := hUS.ok (v := v) (fun u hu => by rw [← hG, hul]; exact hdone.some u (by omega))
          rw [← hG, hul] at h
          rw [hR]
          exact h)
        have HR0 : Hid (R 0 = ⟨List.replicate M 0, List.replicate n (-1), n⟩) := Lib.hid (by rw [hR]; rfl)
        have HST : Hid (∀ t i, i < M → R (t * M + (i + 1)) = stepS G n (qsU us) (chU us n) i (R (t * M + i))) := Lib.hid (fun t i hi => by rw [hR]; exact fil_round t i hi)
        have HDN : Hid ((R N).left = 0) := Lib.hid (by rw [hR]; exact hdone.none)
        have HDS : Hid (∀ v, v < N → 0 < (R v).left) := Lib.hid (fun v hv => by rw [hR]; exact hdone.some v hv)
        have HORD : Hid (∀ i, i < M → Ord n (chU us n i)) := Lib.hid (fun i hi => hUS.ord (by rw [hul]; exact hi))
        have HQS : Hid (∀ i (hi : i < zs.length), zs[i].q = (((qsU us).getD i 0 : Nat) : Int) ∧ (qsU us).getD i 0 ≤ 1024000) := Lib.hid (fun i hi => by
          have := HQQ.out zs[i] (List.getElem_mem hi)
          rw [hus, qs_us hi]
          omega)
        have HFIN : Hid (∀ sl, sl = (R N).sl → slotsZ kb n zs sl) := Lib.hid (fun sl hsl => .inr ⟨fun e => hz (by rw [e]; rfl), N, by rw [← hus, ← hG, hul]; exact hdone, by rw [← hus, ← hG, hul, hsl, hR]⟩)
        have HMe := Lib.hid hM
        have HUSE := Lib.hid hus
        have hgz : ((G : Int) == 0) = false := by rw [beq_eq_false_iff_ne]; omega
        rw [hmx]
        rw [← hM]
        clear hM hus hul hG hmx hgl hgq hdone hR hUS hz hnln HMX
        obtain ⟨wL, hwL⟩ : ∃ wL, wL = wr := ⟨_, rfl⟩
        subst hwL
        have HG8L := Lib.hid HCS.out.b8
        obtain ⟨sv1, hsv1⟩ : ∃ v, v = Value.slice a1 (namesOf zs).length c1 := ⟨_, rfl⟩
        rw [← hsv1] at HG8L
        have lt8L := lt_of_block HCS.out.b8
        have HSV := Lib.hid hsv1
        have hsv1c : sv1.oneCell' = true := by rw [hsv1]; rfl
        have HSC := Lib.hid hsv1c
        clear hsv1 hsv1c
        go_wp2_with fail
        go_loopw [12] (fun i wr => ∃ (j : Nat) (adS : Option Addr) (cS : Nat), j ≤ n ∧ i = .int .i64 (j : Int) ∧ Hid (wr.ownsRow wL.heap.size 3 1 (.slice adS j cS) j (iV (List.replicate j (-1)))) ∧ Hid (wr.heap[g8]? = some (.cells #[sv1, .slice adS j cS] 30 (0, 0))) ∧ Hid (But g8 g8 wL wr)) (fun i _ => n - (intOf i).toNat)
        case atStart => exact ⟨0, none, 0, by omega, rfl, Lib.hid (World.ownsRow_nil _ _ _ _), HG8L, Lib.hid (But.of_below (Below.mono bup (Nat.le_refl _)))⟩
        case round =>
          clear HG8L
          obtain ⟨j, adS, cS, hj, rfl, HO, HG8, HBT⟩ := hrel
          by_cases hjn : j = n
          · obtain rfl : n = j := hjn.symm
            have hjge : ¬ (n : Int) < (n : Int) := by omega
            obtain ⟨gs, rfl⟩ := own_some HO.out (by omega)
            have hgs1 := (World.ownsRow.lt HO.out gs rfl).1
            have hgs2 := (World.ownsRow.lt HO.out gs rfl).2
            go_upto_region 19 with (first
              | (at_make; go_must (refine wpL_make elI rfl (.tmp 72) (.tmp 72) rfl wL.heap.size M rfl rfl rfl rfl (by omega) (by unfold maxLen; omega) (Nat.le_trans HBT.out.size (bsz bup)) ?_); intro w3 ho3 hg3; have HC3 := Lib.hid ho3; have HGN := Lib.hid hg3; simp only [PT]))
            obtain ⟨gc, hgc⟩ : ∃ gc, gc = wr.heap.size := ⟨_, rfl⟩
            have hgc1 : wL.heap.size ≤ gc := by rw [hgc]; exact HBT.out.size
            have hBT3 : But g8 g8 wL w3 := HBT.out.grown HGN.out (fun k hk => by cases hk)
            have HG83 : Hid (w3.heap[g8]? = some (.cells #[sv1, .slice (some ⟨gs, 0, none⟩) n cS] 30 (0, 0))) := Lib.hid ((HGN.out.block g8 (lt_of_block HG8.out) (by simp)).trans HG8.out)
            have HFL : Hid (Flr w3 wL.heap.size gs cS gc M n (List.replicate n (-1)) (List.replicate M 0)) := Lib.hid ⟨HO.out.kept HGN.out (.inr (by simp [Value.ownBlock])), by
              have h := HC3.out
              rw [Nat.mul_one] at h
              have e : (madeCells (Value.int .i64 0).cells M).toList = NV (List.replicate M 0) := by unfold NV; rw [List.map_replicate]; exact toList_madeCells_one _ _
              rw [e, ← hgc] at h
              exact h, by omega⟩
            have HNM3 := Lib.hid (own_but3 HCS.out.nm hBT3 HCS.out.far8 HCS.out.far8)
            have HG63 := Lib.hid (hBT3.keep HCS.out.b6 HCS.out.ne HCS.out.ne)
            have HBW3 := Lib.hid (hBT3.below HCS.out.bel HCS.out.l8 HCS.out.l8 (Nat.le_refl _))
            have hne8s : g8 ≠ gs := by omega
            have hne8c : g8 ≠ gc := by omega
            have hne6s : g6 ≠ gs := by omega
            have hne6c : g6 ≠ gc := by have := HBW3.out.size; omega
            obtain ⟨bz, oz, rfl, hzq⟩ := zs_look HYS.out HCS.out.bel HCS.out.l8 hBT3 hgs1 hgc1 (by rw [← HMe.out]; exact hM0)
            have HZQ : Hid (∀ i (hi : i < M) wz, But gs gc w3 wz → wz.cell? ⟨bz, oz + i * 2 + 1, none⟩ = some (.int .i64 (((qsU us).getD i 0 : Nat) : Int))) := Lib.hid (fun i hi wz hz => by
              have hi' : i < zs.length := by rw [← HMe.out]; exact hi
              rw [hzq i hi' wz hz, (HQS.out i hi').1])
            have hrl : rs.length = M := by rw [HRS.out.1, ← HMe.out]
            obtain ⟨gch, rfl, hx_⟩ := HCS.out.look hBT3 hgs1 hgc1 (by omega) (i := 0) (by omega)
            have HCH : Hid (∀ i (hi : i < M), ∃ gr cr, ∀ wz, But gs gc w3 wz → wz.cell? ⟨gch, i, none⟩ = some (.slice (some ⟨gr, 0, none⟩) n cr) ∧ ∀ k, k < n → wz.cell? ⟨gr, k, none⟩ = some (.int .i64 ((chU us n i k : Nat) : Int))) := Lib.hid (fun i hi => by
              obtain ⟨gch', e', gr, cr, hh⟩ := HCS.out.look hBT3 hgs1 hgc1 (by omega) (i := i) (by omega)
              cases e'
              have hi' : i < zs.length := by rw [← HMe.out]; exact hi
              refine ⟨gr, cr, fun wz hz => ⟨(hh wz hz).1, fun k hk => (hh wz hz).2 k _ ?_ hk⟩⟩
              have e2 := HRS.out.2 i hi'
              rw [List.getD_eq_getElem?_getD, List.getElem?_eq_getElem (by omega), Option.getD_some] at e2
              rw [e2, allN_at _ _ _ _ hk, HUSE.out, chU_us hi'])
            have HGT : Hid (∀ wz, But gs gc w3 wz → wz.cell? ⟨g8, 1, none⟩ = some (.slice (some ⟨gs, 0, none⟩) n cS)) := Lib.hid (fun wz hz => cellV (hz.keep HG83.out hne8s hne8c) rfl)
            rw [← hgc]
            rw [hrl]
            have hN1 : Value.ownBlock (.slice a1 (namesOf zs).length c1) ≠ some gs := far_some (own_farR HNM3.out HFL.out.s (by decide))
            have hN2 : Value.ownBlock (.slice a1 (namesOf zs).length c1) ≠ some gc := far_some (own_farR HNM3.out HFL.out.c (by decide))
            have HN12 := Lib.hid (And.intro hN1 hN2)
            clear hx_ hN1 hN2 hzq hBT3 HO HG8 HBT HC3 HGN hgc hrl
            go_wp2_with fail
            go_loopg [14] N (fun g lf wr => ∃ (v : Nat) (s : Stt), g = N - v ∧ lf = .int .i64 (s.left : Int) ∧ v ≤ N ∧ s.left ≤ n ∧ (0 < s.left → ∃ t, v = t * M) ∧ Hid (s = R v) ∧ Hid (Flr wr wL.heap.size gs cS gc M n s.sl s.cr) ∧ Hid (But gs gc w3 wr))
            case atStart => exact ⟨0, ⟨List.replicate M 0, List.replicate n (-1), n⟩, rfl, rfl, by omega, Nat.le_refl _, fun _ => ⟨0, by omega⟩, Lib.hid HR0.out.symm, HFL, Lib.hid (But.of_below (Below.refl _ _))⟩
            case round =>
              clear HFL
              obtain ⟨v, s, rfl, rfl, hvN, hsn, hvt, HSE, HF, HBT⟩ := hrel
              obtain ⟨wv, hwv⟩ : ∃ wv, wv = wr := ⟨_, rfl⟩
              subst hwv
              by_cases hs0 : s.left = 0
              · have HVE : Hid (v = N) := Lib.hid (by
                  rcases Nat.lt_or_ge v N with g | g
                  · have := HDS.out v g
                    rw [← HSE.out] at this
                    omega
                  · omega)
                have HSL : Hid (s.sl.length = n) := Lib.hid (by rw [HSE.out]; exact (HOK.out v hvN).ls)
                have hsf : ¬ 0 < s.left := by omega
                clear hs0
                go_wp2_with (first
                  | ((with_reducible refine sl 142 ?_); go_must (refine wpL_load rfl 30 (.tmp 8) rfl g8 0 rfl [sv1, .slice (some ⟨gs, 0, none⟩) n cS] _ (range_block (cs := [sv1, .slice (some ⟨gs, 0, none⟩) n cS]) (HBT.out.keep HG83.out hne8s hne8c)) Try.underlying30 rfl tb_size ?_); simp only [PT])
                  | ((with_reducible show wpList _ _ _ (⟨none, .store _ (.tmp 6) (.tmp 142), _, _, _, _⟩ :: _) _ _); go_must (refine wpL_storeRow rfl 30 (.tmp 6) (.tmp 142) rfl g6 #[sv1, .slice (some ⟨gs, 0, none⟩) n cS] rfl rfl (HBT.out.keep HG63.out hne6s hne6c) tb_size rfl (tb_all HSC.out rfl) ?_); intro w66 hs__ hr__; go_must (have HNz := Lib.hid (own_lower ((own_but3 HNM3.out HBT.out HN12.out.1 HN12.out.2).kept hr__ (.inr HCS.out.far6)) HB.out.size)); go_must (have HSz := Lib.hid (own_lower (HF.out.s.kept hr__ (.inr (fun e => hne6s (by cases e; rfl)))) (Nat.le_trans HB.out.size HCS.out.bel.size))); go_must (have HBz := Lib.hid ((HB.out.trans ((HBT.out.below HBW3.out (Nat.le_trans HCS.out.bel.size hgs1) (Nat.le_trans HCS.out.bel.size hgc1) (Nat.le_refl _)).mono HB.out.size)).grown hr__ (Nat.le_trans HB.out.size (Nat.le_trans HBW3.out.size HBT.out.size)) (fun k hk => by cases hk; exact le_g6W))); have HG6z := Lib.hid hs__; clear hs__ hr__; simp only [PT]))
                refine bodyPost_cell1 rfl rfl (range_block (cs := [sv1, .slice (some ⟨gs, 0, none⟩) n cS]) HG6z.out) Try.underlying30 rfl tb_size rfl ?_
                refine ⟨a1, c1, some ⟨gs, 0, none⟩, cS, s.sl, ?_, ?_, ?_, HFIN.out _ (by rw [HSE.out, HVE.out]), HBz.out⟩
                · rw [HSV.out, HNL.out, HSL.out]
                · rw [← HNL.out]; exact HNz.out
                · rw [HSL.out]; exact HSz.out
              · obtain ⟨t, rfl⟩ := hvt (by omega)
                have hs1 : 0 < s.left := by omega
                have hvlt : t * M < N := by
                  rcases Nat.lt_or_ge (t * M) N with g | g
                  · exact g
                  · exfalso
                    have e : t * M = N := by omega
                    rw [HSE.out, e, HDN.out] at hs0
                    exact hs0 rfl
                go_wp2_with fail
                go_loopg [14, 15] M (fun g lf i wr => ∃ (i0 : Nat) (s' : Stt), g = M - i0 ∧ i0 ≤ M ∧ i = .int .i64 (i0 : Int) ∧ lf = .int .i64 (s'.left : Int) ∧ t * M + i0 ≤ N ∧ s'.left ≤ n ∧ Hid (s' = R (t * M + i0)) ∧ Hid (Flr wr wL.heap.size gs cS gc M n s'.sl s'.cr) ∧ Hid (But gs gc w3 wr))
                case atStart => exact ⟨0, s, rfl, by omega, rfl, rfl, by omega, hsn, HSE, HF, HBT⟩
                case round =>
                  clear HF HBT HSE
                  obtain ⟨i0, s', rfl, hi0, rfl, rfl, hvN', hsn', HSE, HF, HBT⟩ := hrel
                  by_cases hend2 : i0 = M
                  · obtain rfl : M = i0 := hend2.symm
                    have hii : ¬ (M : Int) < (M : Int) := by omega
                    go_wp2_with fail
                    go_roundg (N - (t * M + M))
                    case measure => omega
                    case rel => exact ⟨t * M + M, s', rfl, rfl, hvN', hsn', fun _ => ⟨t + 1, by rw [Nat.add_mul, Nat.one_mul]⟩, HSE, HF, HBT⟩
                  have hil : i0 < M := by omega
                  have hil' : (i0 : Int) < (M : Int) := by omega
                  by_cases hl0 : s'.left = 0
                  · have hve : t * M + i0 = N := by
                      rcases Nat.lt_or_ge (t * M + i0) N with g | g
                      · have := HDS.out _ g
                        rw [← HSE.out] at this
                        omega
                      · omega
                    have hlf : ¬ 0 < s'.left := by omega
                    clear hl0
                    go_wp2_with fail
                    go_roundg (N - (t * M + i0))
                    case measure => omega
                    case rel => exact ⟨t * M + i0, s', rfl, rfl, hvN', hsn', fun h => by omega, HSE, HF, HBT⟩
                  · have hl1 : 0 < s'.left := by omega
                    have hvl : t * M + i0 < N := by
                      rcases Nat.lt_or_ge (t * M + i0) N with g | g
                      · exact g
                      · exfalso
                        have e : t * M + i0 = N := by omega
                        rw [HSE.out, e, HDN.out] at hl0
                        exact hl0 rfl
                    have hok := HOK.out (t * M + i0) hvN'
                    rw [← HSE.out] at hok
                    obtain ⟨cc, hcc⟩ : ∃ cc, cc = s'.cr.getD i0 0 := ⟨_, rfl⟩
                    obtain ⟨q, hq⟩ : ∃ q, q = (qsU us).getD i0 0 := ⟨_, rfl⟩
                    have hic : i0 < s'.cr.length := by rw [hok.lc]; exact hil
                    have hcG : cc < G := by rw [hcc, List.getD_eq_getElem?_getD, List.getElem?_eq_getElem hic]; exact hok.lt _ (List.getElem_mem hic)
                    have hq1 : q ≤ 1024000 := by rw [hq]; exact (HQS.out i0 (by rw [← HMe.out]; exact hil)).2
                    have HC0 : Hid (∀ wz, Below wr.heap.size wr wz → wz.cell? ⟨gc, i0, none⟩ = some (.int .i64 (cc : Int))) := Lib.hid (fun wz hz => by rw [hcc]; exact (HF.out.keep hz).cc hic)
                    have HQ0 : Hid (∀ wz, Below wr.heap.size wr wz → wz.cell? ⟨bz, oz + i0 * 2 + 1, none⟩ = some (.int .i64 (q : Int))) := Lib.hid (fun wz hz => by rw [hq]; exact HZQ.out i0 hil wz (HBT.out.trans (But.of_below hz)))
                    have HSP : Hid (R (t * M + (i0 + 1)) = stepS G n (qsU us) (chU us n) i0 s') := Lib.hid (by rw [HST.out t i0 hil, ← HSE.out])
                    have hcq : ((cc + q : Nat) : Int) = (cc : Int) + (q : Int) := by omega
                    have hwr : IntKind.i64.wrap ((cc : Int) + (q : Int)) = (cc : Int) + (q : Int) := by rw [IntKind.wrap_i64]; omega
                    have HCQ := Lib.hid hcq
                    have HCC := Lib.hid hcc
                    have HQQ2 := Lib.hid hq
                    have HOKs := Lib.hid hok
                    have hicn : i0 < (NV s'.cr).length := by rw [NV_length]; exact hic
                    have HIC := Lib.hid hic
                    have HB0 := Lib.hid (Below.refl wr.heap.size wr)
                    obtain ⟨wx, hwx⟩ : ∃ wx, wx = wr := ⟨_, rfl⟩
                    subst hwx
                    clear hcc hq hok hic hcq
                    by_cases hge : cc + q < G
                    · have hge2 : (cc : Int) + (q : Int) < (G : Int) := by omega
                      go_wp2_with fail
                      refine wp_region_T (S := fun u__ => u__.cell? ⟨gc, i0, none⟩ = some (.int .i64 (cc : Int)) ∧ u__.cell? ⟨bz, oz + i0 * 2 + 1, none⟩ = some (.int .i64 (q : Int))) 13 (by kernel_rfl) ?_ (fun hHeld => ?_)
                      focus (exact ⟨HC0.out _ bup, HQ0.out _ bup⟩)
                      refine tkT 13 0 (oi := ⟨some 87, _, _, _, _, _⟩) (v := ?_) rfl (by kernel_rfl) (.inl ⟨by rfl, ?_⟩) hHeld ?_; rotate_left; focus (intro w hSw; (try dsimp only at hSw); go_simp; try with_reducible rfl)
                      simp only [PT]
                      refine tkT 13 1 (oi := ⟨some 88, _, _, _, _, _⟩) (v := ?_) rfl (by kernel_rfl) (.inl ⟨by rfl, ?_⟩) hHeld ?_; rotate_left; focus (intro w hSw; (try dsimp only at hSw); go_simp; try with_reducible rfl)
                      simp only [PT]
                      refine tkT 13 2 (oi := ⟨some 89, _, _, _, _, _⟩) (v := ?_) rfl (by kernel_rfl) (.inl ⟨by rfl, ?_⟩) hHeld ?_; rotate_left; focus (intro w hSw; (try dsimp only at hSw); go_simp; try with_reducible rfl)
                      simp only [PT]
                      refine tkT 13 3 (oi := ⟨some 90, _, _, _, _, _⟩) (v := ?_) rfl (by kernel_rfl) (.inl ⟨by rfl, ?_⟩) hHeld ?_; rotate_left; focus (intro w hSw; (try dsimp only at hSw); go_simp; try with_reducible rfl)
                      simp only [PT]
                      refine tkT 13 4 (oi := ⟨some 91, _, _, _, _, _⟩) (v := ?_) rfl (by kernel_rfl) (.inl ⟨by rfl, ?_⟩) hHeld ?_; rotate_left; focus (intro w hSw; (try dsimp only at hSw); go_simp; try with_reducible rfl)
                      simp only [PT]
                      refine' tkT 13 5 (oi := ⟨some 92, _, _, _, _, _⟩) (v := _) rfl (by kernel_rfl) (yields_loadC (by rfl) 3 (.tmp 91) rfl gc i0 rfl (.int .i64 (cc : Int)) (fun _ h => h.1) Try.underlying3 rfl) hHeld ?_
                      simp only [PT]
                      refine tkT 13 6 (oi := ⟨some 93, _, _, _, _, _⟩) (v := ?_) rfl (by kernel_rfl) (.inl ⟨by rfl, ?_⟩) hHeld ?_; rotate_left; focus (intro w hSw; (try dsimp only at hSw); go_simp; try with_reducible rfl)
                      simp only [PT]
                      refine tkT 13 7 (oi := ⟨some 94, _, _, _, _, _⟩) (v := ?_) rfl (by kernel_rfl) (.inl ⟨by rfl, ?_⟩) hHeld ?_; rotate_left; focus (intro w hSw; (try dsimp only at hSw); go_simp; try with_reducible rfl)
                      simp only [PT]
                      refine tkT 13 8 (oi := ⟨some 95, _, _, _, _, _⟩) (v := ?_) rfl (by kernel_rfl) (.inl ⟨by rfl, ?_⟩) hHeld ?_; rotate_left; focus (intro w hSw; (try dsimp only at hSw); go_simp; try with_reducible rfl)
                      simp only [PT]
                      refine tkT 13 9 (oi := ⟨some 96, _, _, _, _, _⟩) (v := ?_) rfl (by kernel_rfl) (.inl ⟨by rfl, ?_⟩) hHeld ?_; rotate_left; focus (intro w hSw; (try dsimp only at hSw); go_simp; try with_reducible rfl)
                      simp only [PT]
                      refine' tkT 13 10 (oi := ⟨some 97, _, _, _, _, _⟩) (v := _) rfl (by kernel_rfl) (yields_loadC (by rfl) 3 (.tmp 96) rfl bz (oz + i0 * 2 + 1) rfl (.int .i64 (q : Int)) (fun _ h => h.2) Try.underlying3 rfl) hHeld ?_
                      simp only [PT]
                      refine' tkT 13 11 (oi := ⟨some 98, _, _, _, _, _⟩) (v := _) rfl (by kernel_rfl) (yields_addI (by rfl) (.tmp 92) (.tmp 97) rfl (cc : Int) (q : Int) hwr rfl rfl) hHeld ?_
                      simp only [PT]
                      refine wpAnyT_ready (rs := [12]) (by kernel_rfl) (by simp) ?_
                      refine (AllReadyT.cons (o := ⟨some 99, _, _, _, _, _⟩) rfl (fun K hK => ?_) AllReadyT.nil)
                      (go_simp)
                      refine hK.out _ _ (fun _ => ?_) (fun hHeld => ?_)
                      focus (exact ⟨HC0.out _ bup, HQ0.out _ bup⟩)
                      replace hHeld := hHeld (by decide)
                      clear hK K
                      try simp only [PT]
                      refine wpAnyT_ready (rs := [13]) (by kernel_rfl) (by simp) ?_
                      refine (AllReadyT.cons (o := ⟨none, _, _, _, _, _⟩) rfl (fun K hK => ?_) AllReadyT.nil)
                      (go_must (refine step_storeO rfl 3 (.tmp 99) (.tmp 98) rfl (HF.out.keep bup).c i0 hicn (.int .i64 ((cc : Int) + (q : Int))) rfl rfl rfl rfl (by kernel_rfl) ?_); intro w1 ho__ hg__; go_must (rw [← HCQ.out, NV_set] at ho__); go_must (have HF1 := Lib.hid ((HF.out.keep bup).setC ho__ hg__)); go_must (have HBT1 := Lib.hid ((HBT.out.trans (But.of_below (w := wx) bup)).trans (But.of_q hg__))); go_must (have hcr : w1.cell? ⟨gc, i0, none⟩ = some (.int .i64 ((cc : Int) + (q : Int))) := (by rw [← HCQ.out]; have h := HF1.out.cc (i := i0) (by rw [List.length_set]; exact HIC.out); rw [List.getD_eq_getElem?_getD, List.getElem?_set_self HIC.out] at h; exact h)); clear HF HBT ho__ hg__)
                      refine hK.out _ _ (fun h => absurd rfl h) (fun hHeld => ?_)
                      clear hK K
                      try simp only [PT]
                      refine wpAnyT_done (by kernel_rfl) ?_ _
                      go_wp2_with fail
                      go_roundg (M - (i0 + 1))
                      case measure => omega
                      case rel => exact ⟨i0 + 1, ⟨s'.cr.set i0 (cc + q), s'.sl, s'.left⟩, rfl, by omega, by go_num, rfl, by omega, hsn', Lib.hid (by rw [HSP.out]; unfold stepS; rw [← HQQ2.out, ← HCC.out, if_pos hge]), HF1, HBT1⟩
                    · have hge1 : ¬ (cc : Int) + (q : Int) < (G : Int) := by omega
                      have hz : ((cc + q - G : Nat) : Int) = (cc : Int) + (q : Int) - (G : Int) := by omega
                      have hwr2 : IntKind.i64.wrap ((cc : Int) + (q : Int) - (G : Int)) = (cc : Int) + (q : Int) - (G : Int) := by rw [IntKind.wrap_i64]; omega
                      have HZ := Lib.hid hz
                      have hord := HORD.out i0 hil
                      have hfr := HOKs.out.free (by omega) hord
                      obtain ⟨kf, hkf⟩ : ∃ kf, kf = ffree (chU us n i0) s'.sl n := ⟨_, rfl⟩
                      rw [← hkf] at hfr
                      obtain ⟨hf1, hf2, hf3⟩ := hfr
                      have HF2 := Lib.hid hf2
                      have HF3 : Hid (∀ j, j < kf → ∃ z : Nat, s'.sl[chU us n i0 j]? = some (z : Int)) := Lib.hid (fun j hj => by
                        have hlt : chU us n i0 j < s'.sl.length := by rw [HOKs.out.ls]; exact hord.lt j
                        have hne := hf3 j hj
                        rw [List.getElem?_eq_getElem hlt] at hne ⊢
                        rcases HOKs.out.rg _ (List.getElem_mem hlt) with h | ⟨z, h, _⟩
                        · exact absurd (congrArg some h) hne
                        · exact ⟨z, congrArg some h⟩)
                      have HLT : Hid (∀ j, chU us n i0 j < n) := Lib.hid (fun j => hord.lt j)
                      have HKF := Lib.hid hkf
                      have HLS : Hid (s'.sl.length = n) := Lib.hid HOKs.out.ls
                      obtain ⟨gr, cr, hch⟩ := HCH.out i0 hil
                      have HCHI := Lib.hid hch
                      clear hz hord hf2 hf3 hkf hch
                      go_wp2_with fail
                      refine wp_region_T (S := fun u__ => u__.cell? ⟨gc, i0, none⟩ = some (.int .i64 (cc : Int)) ∧ u__.cell? ⟨bz, oz + i0 * 2 + 1, none⟩ = some (.int .i64 (q : Int))) 13 (by kernel_rfl) ?_ (fun hHeld => ?_)
                      focus (exact ⟨HC0.out _ bup, HQ0.out _ bup⟩)
                      refine tkT 13 0 (oi := ⟨some 87, _, _, _, _, _⟩) (v := ?_) rfl (by kernel_rfl) (.inl ⟨by rfl, ?_⟩) hHeld ?_; rotate_left; focus (intro w hSw; (try dsimp only at hSw); go_simp; try with_reducible rfl)
                      simp only [PT]
                      refine tkT 13 1 (oi := ⟨some 88, _, _, _, _, _⟩) (v := ?_) rfl (by kernel_rfl) (.inl ⟨by rfl, ?_⟩) hHeld ?_; rotate_left; focus (intro w hSw; (try dsimp only at hSw); go_simp; try with_reducible rfl)
                      simp only [PT]
                      refine tkT 13 2 (oi := ⟨some 89, _, _, _, _, _⟩) (v := ?_) rfl (by kernel_rfl) (.inl ⟨by rfl, ?_⟩) hHeld ?_; rotate_left; focus (intro w hSw; (try dsimp only at hSw); go_simp; try with_reducible rfl)
                      simp only [PT]
                      refine tkT 13 3 (oi := ⟨some 90, _, _, _, _, _⟩) (v := ?_) rfl (by kernel_rfl) (.inl ⟨by rfl, ?_⟩) hHeld ?_; rotate_left; focus (intro w hSw; (try dsimp only at hSw); go_simp; try with_reducible rfl)
                      simp only [PT]
                      refine tkT 13 4 (oi := ⟨some 91, _, _, _, _, _⟩) (v := ?_) rfl (by kernel_rfl) (.inl ⟨by rfl, ?_⟩) hHeld ?_; rotate_left; focus (intro w hSw; (try dsimp only at hSw); go_simp; try with_reducible rfl)
                      simp only [PT]
                      refine' tkT 13 5 (oi := ⟨some 92, _, _, _, _, _⟩) (v := _) rfl (by kernel_rfl) (yields_loadC (by rfl) 3 (.tmp 91) rfl gc i0 rfl (.int .i64 (cc : Int)) (fun _ h => h.1) Try.underlying3 rfl) hHeld ?_
                      simp only [PT]
                      refine tkT 13 6 (oi := ⟨some 93, _, _, _, _, _⟩) (v := ?_) rfl (by kernel_rfl) (.inl ⟨by rfl, ?_⟩) hHeld ?_; rotate_left; focus (intro w hSw; (try dsimp only at hSw); go_simp; try with_reducible rfl)
                      simp only [PT]
                      refine tkT 13 7 (oi := ⟨some 94, _, _, _, _, _⟩) (v := ?_) rfl (by kernel_rfl) (.inl ⟨by rfl, ?_⟩) hHeld ?_; rotate_left; focus (intro w hSw; (try dsimp only at hSw); go_simp; try with_reducible rfl)
                      simp only [PT]
                      refine tkT 13 8 (oi := ⟨some 95, _, _, _, _, _⟩) (v := ?_) rfl (by kernel_rfl) (.inl ⟨by rfl, ?_⟩) hHeld ?_; rotate_left; focus (intro w hSw; (try dsimp only at hSw); go_simp; try with_reducible rfl)
                      simp only [PT]
                      refine tkT 13 9 (oi := ⟨some 96, _, _, _, _, _⟩) (v := ?_) rfl (by kernel_rfl) (.inl ⟨by rfl, ?_⟩) hHeld ?_; rotate_left; focus (intro w hSw; (try dsimp only at hSw); go_simp; try with_reducible rfl)
                      simp only [PT]
                      refine' tkT 13 10 (oi := ⟨some 97, _, _, _, _, _⟩) (v := _) rfl (by kernel_rfl) (yields_loadC (by rfl) 3 (.tmp 96) rfl bz (oz + i0 * 2 + 1) rfl (.int .i64 (q : Int)) (fun _ h => h.2) Try.underlying3 rfl) hHeld ?_
                      simp only [PT]
                      refine' tkT 13 11 (oi := ⟨some 98, _, _, _, _, _⟩) (v := _) rfl (by kernel_rfl) (yields_addI (by rfl) (.tmp 92) (.tmp 97) rfl (cc : Int) (q : Int) hwr rfl rfl) hHeld ?_
                      simp only [PT]
                      refine wpAnyT_ready (rs := [12]) (by kernel_rfl) (by simp) ?_
                      refine (AllReadyT.cons (o := ⟨some 99, _, _, _, _, _⟩) rfl (fun K hK => ?_) AllReadyT.nil)
                      (go_simp)
                      refine hK.out _ _ (fun _ => ?_) (fun hHeld => ?_)
                      focus (exact ⟨HC0.out _ bup, HQ0.out _ bup⟩)
                      replace hHeld := hHeld (by decide)
                      clear hK K
                      try simp only [PT]
                      refine wpAnyT_ready (rs := [13]) (by kernel_rfl) (by simp) ?_
                      refine (AllReadyT.cons (o := ⟨none, _, _, _, _, _⟩) rfl (fun K hK => ?_) AllReadyT.nil)
                      (go_must (refine step_storeO rfl 3 (.tmp 99) (.tmp 98) rfl (HF.out.keep bup).c i0 hicn (.int .i64 ((cc : Int) + (q : Int))) rfl rfl rfl rfl (by kernel_rfl) ?_); intro w1 ho__ hg__; go_must (rw [← HCQ.out, NV_set] at ho__); go_must (have HF1 := Lib.hid ((HF.out.keep bup).setC ho__ hg__)); go_must (have HBT1 := Lib.hid ((HBT.out.trans (But.of_below (w := wx) bup)).trans (But.of_q hg__))); go_must (have hcr : w1.cell? ⟨gc, i0, none⟩ = some (.int .i64 ((cc : Int) + (q : Int))) := (by rw [← HCQ.out]; have h := HF1.out.cc (i := i0) (by rw [List.length_set]; exact HIC.out); rw [List.getD_eq_getElem?_getD, List.getElem?_set_self HIC.out] at h; exact h)); clear HF HBT ho__ hg__)
                      refine hK.out _ _ (fun h => absurd rfl h) (fun hHeld => ?_)
                      clear hK K
                      try simp only [PT]
                      refine wpAnyT_done (by kernel_rfl) ?_ _
                      go_wp2_with (first
                        | ((with_reducible show wpList _ _ _ (⟨none, .store _ (.tmp 114) (.tmp 113), _, _, _, _⟩ :: _) _ _); go_must (refine wpL_storeO rfl 3 (.tmp 114) (.tmp 113) rfl HF1.out.c i0 (by rw [NV_length, List.length_set]; exact HIC.out) (.int .i64 ((cc : Int) + (q : Int) - (G : Int))) rfl rfl rfl rfl (by kernel_rfl) ?_); intro w2 ho__ hg__; go_must (rw [← HZ.out, NV_set, List.set_set] at ho__); go_must (have HF := Lib.hid (HF1.out.setC ho__ hg__)); go_must (have HBT := Lib.hid (HBT1.out.trans (But.of_q hg__))); clear HF1 HBT1 ho__ hg__; simp only [PT]))
                      clear hcr
                      go_loopw [16] (fun k wr => ∃ k0 : Nat, k0 ≤ kf ∧ k = .int .i64 (k0 : Int) ∧ Hid (Flr wr wL.heap.size gs cS gc M n s'.sl (s'.cr.set i0 (cc + q - G))) ∧ Hid (But gs gc w3 wr)) (fun k _ => n - (intOf k).toNat)
                      case atStart => exact ⟨0, by omega, rfl, HF, HBT⟩
                      case round =>
                        clear HF HBT
                        obtain ⟨k0, hk0, rfl, HF, HBT⟩ := hrel
                        obtain ⟨p, hp⟩ : ∃ p, p = chU us n i0 k0 := ⟨_, rfl⟩
                        have hpn : p < n := by rw [hp]; exact HLT.out k0
                        have hpn' : (p : Int) < (n : Int) := by omega
                        have c1' := HGT.out wr HBT.out
                        have c2' := (HCHI.out wr HBT.out).1
                        have c3' := (HCHI.out wr HBT.out).2 k0 (by omega)
                        rw [← hp] at c3'
                        have hk0n : (k0 : Int) < (n : Int) := by omega
                        have HP := Lib.hid hp
                        clear hp
                        by_cases hkk : k0 = kf
                        · have c4' : wr.cell? ⟨gs, p, none⟩ = some (.int .i64 (-1)) := HF.out.sc (by rw [HP.out, hkk]; exact HF2.out)
                          have HKK := Lib.hid hkk
                          have hz0 : ¬ (0 : Int) ≤ -1 := by omega
                          clear hkk
                          obtain ⟨wy, hwy⟩ : ∃ wy, wy = wr := ⟨_, rfl⟩
                          subst hwy
                          have HC1' := Lib.hid c1'
                          have HC2' := Lib.hid c2'
                          have HC3' := Lib.hid c3'
                          have l1 := World.block_lt_of_cell? wy _ c1'
                          have l2 := World.block_lt_of_cell? wy _ c2'
                          have l3 := World.block_lt_of_cell? wy _ c3'
                          have hpl : p < (iV s'.sl).length := by rw [iV_length, HLS.out]; exact hpn
                          have HSN : Hid ((⟨s'.cr.set i0 (cc + q - G), s'.sl.set p (i0 : Int), s'.left - 1⟩ : Stt) = R (t * M + (i0 + 1))) := Lib.hid (by rw [HSP.out]; unfold stepS; rw [← HQQ2.out, ← HCC.out, if_neg hge, ← HKF.out, HP.out, HKK.out])
                          have hle1 : ((s'.left - 1 : Nat) : Int) = (s'.left : Int) - 1 := by omega
                          have HLE := Lib.hid hle1
                          clear hle1
                          go_wp2_with fail
                          go_quiet (fail)
                          go_wp2_with fail
                          refine wp_region_T (S := fun u__ => u__.cell? ⟨g8, 1, none⟩ = some (.slice (some ⟨gs, 0, none⟩) n cS) ∧ u__.cell? ⟨gch, i0, none⟩ = some (.slice (some ⟨gr, 0, none⟩) n cr) ∧ u__.cell? ⟨gr, k0, none⟩ = some (.int .i64 (p : Int))) 11 (by kernel_rfl) ?_ (fun hHeld => ?_)
                          focus (exact ⟨((Below.mono bup (Nat.le_refl _) : Below wy.heap.size wy _).cell (p := ⟨g8, 1, none⟩) l1).trans HC1'.out, ((Below.mono bup (Nat.le_refl _) : Below wy.heap.size wy _).cell (p := ⟨gch, i0, none⟩) l2).trans HC2'.out, ((Below.mono bup (Nat.le_refl _) : Below wy.heap.size wy _).cell (p := ⟨gr, k0, none⟩) l3).trans HC3'.out⟩)
                          refine tkT 11 0 (oi := ⟨some 129, _, _, _, _, _⟩) (v := ?_) rfl (by kernel_rfl) (.inl ⟨by rfl, ?_⟩) hHeld ?_; rotate_left; focus (intro w hSw; (try dsimp only at hSw); go_simp; try with_reducible rfl)
                          simp only [PT]
                          refine' tkT 11 1 (oi := ⟨some 130, _, _, _, _, _⟩) (v := _) rfl (by kernel_rfl) (yields_loadC (by rfl) 28 (.tmp 129) rfl g8 1 rfl (.slice (some ⟨gs, 0, none⟩) n cS) (fun _ h => h.1) Try.underlying28 rfl) hHeld ?_
                          simp only [PT]
                          refine tkT 11 2 (oi := ⟨some 131, _, _, _, _, _⟩) (v := ?_) rfl (by kernel_rfl) (.inl ⟨by rfl, ?_⟩) hHeld ?_; rotate_left; focus (intro w hSw; (try dsimp only at hSw); go_simp; try with_reducible rfl)
                          simp only [PT]
                          refine tkT 11 3 (oi := ⟨some 132, _, _, _, _, _⟩) (v := ?_) rfl (by kernel_rfl) (.inl ⟨by rfl, ?_⟩) hHeld ?_; rotate_left; focus (intro w hSw; (try dsimp only at hSw); go_simp; try with_reducible rfl)
                          simp only [PT]
                          refine tkT 11 4 (oi := ⟨some 133, _, _, _, _, _⟩) (v := ?_) rfl (by kernel_rfl) (.inl ⟨by rfl, ?_⟩) hHeld ?_; rotate_left; focus (intro w hSw; (try dsimp only at hSw); go_simp; try with_reducible rfl)
                          simp only [PT]
                          refine' tkT 11 5 (oi := ⟨some 134, _, _, _, _, _⟩) (v := _) rfl (by kernel_rfl) (yields_loadC (by rfl) 28 (.tmp 133) rfl gch i0 rfl (.slice (some ⟨gr, 0, none⟩) n cr) (fun _ h => h.2.1) Try.underlying28 rfl) hHeld ?_
                          simp only [PT]
                          refine tkT 11 6 (oi := ⟨some 135, _, _, _, _, _⟩) (v := ?_) rfl (by kernel_rfl) (.inl ⟨by rfl, ?_⟩) hHeld ?_; rotate_left; focus (intro w hSw; (try dsimp only at hSw); go_simp; try with_reducible rfl)
                          simp only [PT]
                          refine tkT 11 7 (oi := ⟨some 136, _, _, _, _, _⟩) (v := ?_) rfl (by kernel_rfl) (.inl ⟨by rfl, ?_⟩) hHeld ?_; rotate_left; focus (intro w hSw; (try dsimp only at hSw); go_simp; try with_reducible rfl)
                          simp only [PT]
                          refine' tkT 11 8 (oi := ⟨some 137, _, _, _, _, _⟩) (v := _) rfl (by kernel_rfl) (yields_loadC (by rfl) 3 (.tmp 136) rfl gr k0 rfl (.int .i64 (p : Int)) (fun _ h => h.2.2) Try.underlying3 rfl) hHeld ?_
                          simp only [PT]
                          refine tkT 11 9 (oi := ⟨some 138, _, _, _, _, _⟩) (v := ?_) rfl (by kernel_rfl) (.inl ⟨by rfl, ?_⟩) hHeld ?_; rotate_left; focus (intro w hSw; (try dsimp only at hSw); go_simp; try with_reducible rfl)
                          simp only [PT]
                          refine tkT 11 10 (oi := ⟨some 139, _, _, _, _, _⟩) (v := ?_) rfl (by kernel_rfl) (.inl ⟨by rfl, ?_⟩) hHeld ?_; rotate_left; focus (intro w hSw; (try dsimp only at hSw); go_simp; try with_reducible rfl)
                          simp only [PT]
                          refine wpAnyT_ready (rs := [11]) (by kernel_rfl) (by simp) ?_
                          refine (AllReadyT.cons (o := ⟨none, _, _, _, _, _⟩) rfl (fun K hK => ?_) AllReadyT.nil)
                          (go_must (refine step_storeO rfl 3 (.tmp 139) (.tmp 138) rfl (HF.out.keep bup).s p hpl (.int .i64 (i0 : Int)) rfl rfl rfl rfl (by kernel_rfl) ?_); intro w4 ho__ hg__; go_must (rw [iV_set] at ho__); go_must (have HFz := Lib.hid ((HF.out.keep bup).setS ho__ hg__)); go_must (have HBTz := Lib.hid ((HBT.out.trans (But.of_below (w := wy) bup)).trans (But.of_p hg__))); clear HF HBT ho__ hg__)
                          refine hK.out _ _ (fun h => absurd rfl h) (fun hHeld => ?_)
                          clear hK K
                          try simp only [PT]
                          refine wpAnyT_done (by kernel_rfl) ?_ _
                          go_wp2_with fail
                          go_roundg (M - (i0 + 1))
                          case measure => omega
                          case rel => exact ⟨i0 + 1, _, rfl, by omega, by go_num, congrArg (Value.int .i64) HLE.out.symm, by omega, by show s'.left - 1 ≤ n; omega, HSN, HFz, HBTz⟩
                        · obtain ⟨z, hzz⟩ := HF3.out k0 (by omega)
                          have c4' : wr.cell? ⟨gs, p, none⟩ = some (.int .i64 (z : Int)) := HF.out.sc (by rw [HP.out]; exact hzz)
                          have hz0 : (0 : Int) ≤ (z : Int) := by omega
                          clear hzz
                          go_wp2_with fail
                          go_quiet (fail)
                          go_wp2_with fail
                          go_roundw
                          case rel => exact ⟨k0 + 1, by omega, by go_num, Lib.hid (HF.out.keep (by first | exact Below.refl _ _ | exact below_drewN _ _ _ | exact (Below.refl _ _).drew)), Lib.hid (HBT.out.trans (But.of_below (by first | exact Below.refl _ _ | exact below_drewN _ _ _ | exact (Below.refl _ _).drew)))⟩
                          case measure => simp [intOf]; omega
          have hjlt : (j : Int) < (n : Int) := by omega
          have HSn : Hid (List.replicate (j + 1) (-1 : Int) = List.replicate j (-1) ++ [-1]) := Lib.hid List.replicate_succ'
          obtain ⟨wv, hwv⟩ : ∃ wv, wv = wr := ⟨_, rfl⟩
          subst hwv
          go_wp2_with (first
            | ((with_reducible refine sl 67 ?_); go_must (refine wpL_loadF rfl 28 (.tmp 66) rfl g8 1 rfl (.slice adS j cS) (hatB HG8 bup) rfl Try.underlying28 rfl ?_); simp only [PT])
            | ((with_reducible refine sl 69 ?_); go_must (refine wpL_push elI rfl (.tmp 67) (.tmp 68) rfl wL.heap.size rfl (own_keep HO.out bup) _ 1 rfl rfl rfl (by intro u hu; simp at hu; subst hu; rfl) (by omega) (by omega) (by omega) (Nat.le_trans HBT.out.size (bsz bup)) (B := wL.heap.size) (W := wv) (Below.mono bup HBT.out.size) (Nat.le_refl _) ?_); intro adT cT w69 ho__ hb__ hg__; go_must (have HG8n := Lib.hid ((hg__.block g8 (lt_of_block (hatB HG8 bup)) (fun e => by have := ownBlock_ge HO.out g8 e.symm; omega)).trans (hatB HG8 bup))); go_must (replace HBT := Lib.hid ((HBT.out.trans (But.of_below (w := wv) bup)).grown hg__ (ownBlock_ge HO.out))); go_must (have HO2 := Lib.hid (show w69.ownsRow wL.heap.size 3 1 (.slice adT (j + 1) cT) (j + 1) (iV (List.replicate (j + 1) (-1))) from (by rw [HSn.out, iV, List.map_append]; exact ho__))); clear HO HG8 ho__ hg__ hb__; have HO := HO2; have HG8 := HG8n; clear HO2 HG8n; simp only [PT])
            | ((with_reducible show wpList _ _ _ (⟨none, .store _ (.tmp 70) (.tmp 69), _, _, _, _⟩ :: _) _ _); go_must (refine wpL_storeF rfl 28 (.tmp 70) (.tmp 69) rfl g8 1 (.slice adT (j + 1) cT) rfl rfl rfl (hatB HG8 bup) (by simp) HSI.out _ rfl ?_); intro w70 hs__ hr__; go_must (have HO2 := Lib.hid ((own_keep HO.out bup).kept hr__ (.inr (fun e => by have := ownBlock_ge HO.out g8 e; omega)))); go_must (replace HBT := Lib.hid ((HBT.out.trans (But.of_below (w := w69) bup)).trans (But.of_p hr__))); clear HO HG8; have HO := HO2; clear HO2; have HG8 := Lib.hid hs__; clear hs__ hr__; simp only [PT]))
          go_roundw
          case rel => exact ⟨j + 1, adT, cT, by omega, by go_num, Lib.hid (own_keep HO.out bup), Lib.hid (hatB HG8 bup), Lib.hid (HBT.out.trans (But.of_below (Below.mono bup (Nat.le_refl _))))⟩
          case measure => simp [intOf]; omega
end Go.Proofs.Ytaadpldijnegkaa
