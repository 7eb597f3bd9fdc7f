/-
  Joined by program (merge.py): MgP1, MgP2, Mg17, Mg18, MgA.
-/
import Derived.Test.YtaadpldijnegkaaG5
/-
  Plain laws of chapter 17: shares sorted, in whatever order they come.
-/
namespace Go.Proofs.Ytaadpldijnegkaa
open Go.RowKit Go.Sort
set_option linter.unusedVariables false
set_option linter.unusedSimpArgs false

/-- no two of the same name -/
def dis (xs : List ShV) : Prop := xs.Pairwise (fun a b => a.name ≠ b.name)
theorem dis.perm {xs ys : List ShV} (h : dis xs) (p : xs.Perm ys) : dis ys := p.pairwise h (fun {a b} hab e => hab e.symm)
theorem mayR_iff (xs : List ShV) : mayR xs ↔ xs.length ≤ 1024 ∧ (∀ x ∈ xs, 0 ≤ x.q ∧ x.q ≤ 1024000) ∧ dis xs := by
  have hg : ∀ i (hi : i < xs.length), xs.getD i zeroS = xs[i] := fun i hi => by rw [List.getD_eq_getElem?_getD, List.getElem?_eq_getElem hi]; rfl
  constructor
  · rintro ⟨h1, h2⟩
    refine ⟨h1, fun x hx => ?_, ?_⟩
    · obtain ⟨i, hi, rfl⟩ := List.mem_iff_getElem.1 hx
      have := h2 i hi
      unfold okS at this
      rw [hg i hi] at this
      exact ⟨this.1, this.2.1⟩
    · unfold dis
      rw [List.pairwise_iff_getElem]
      intro i j hi hj hij
      have := (h2 j hj).2.2 i hij
      rwa [hg i hi, hg j hj] at this
  · rintro ⟨h1, h2, h3⟩
    refine ⟨h1, fun i hi => ?_⟩
    unfold okS
    rw [hg i hi]
    refine ⟨(h2 _ (List.getElem_mem hi)).1, (h2 _ (List.getElem_mem hi)).2, fun k hk => ?_⟩
    rw [hg k (by omega)]
    unfold dis at h3
    rw [List.pairwise_iff_getElem] at h3
    exact h3 k i (by omega) hi hk
/-- sorted, and strictly so -/
def srt (ys : List ShV) : Prop := ys.Pairwise (fun a b => nmL b.name a.name = false)
def stt (ys : List ShV) : Prop := ys.Pairwise (fun a b => nmL a.name b.name = true)
theorem stt_of {ys : List ShV} (h : srt ys) (d : dis ys) : stt ys := by
  have hb := List.Pairwise.and h d
  refine hb.imp ?_
  rintro a b ⟨h1, h2⟩
  cases h : nmL a.name b.name with
  | true => rfl
  | false => exact absurd (nmL_tri h h1) h2
theorem stt.dis {ys : List ShV} (h : stt ys) : dis ys := h.imp (fun {a b} hab e => by rw [e, nmL_irr] at hab; cases hab)
theorem stt_unique {xs ys : List ShV} (h : stt xs) (k : stt ys) (p : xs.Perm ys) : xs = ys :=
  List.Perm.eq_of_pairwise (le := fun a b : ShV => nmL a.name b.name = true) (l₁ := xs) (l₂ := ys) (fun a b _ _ h1 h2 => by rw [nmL_asym h1] at h2; cases h2) h k p
theorem insN_perm (x : ShV) : ∀ l : List ShV, (insN x l).Perm (x :: l)
  | [] => List.Perm.refl _
  | a :: l => by
    unfold insN
    split
    · exact ((insN_perm x l).cons a).trans (List.Perm.swap x a l)
    · exact List.Perm.refl _
theorem insN_stt (x : ShV) : ∀ l : List ShV, stt l → (∀ a ∈ l, a.name ≠ x.name) → stt (insN x l)
  | [], _, _ => List.pairwise_singleton _ _
  | a :: l, h, hn => by
    unfold insN
    obtain ⟨h1, h2⟩ := List.pairwise_cons.1 h
    split
    · rename_i hax
      refine List.pairwise_cons.2 ⟨fun b hb => ?_, insN_stt x l h2 (fun b hb => hn b (List.mem_cons_of_mem _ hb))⟩
      rcases List.mem_cons.1 ((insN_perm x l).subset hb) with rfl | hb
      · exact hax
      · exact h1 b hb
    · rename_i hax
      have hxa : nmL x.name a.name = true := by
        cases hh : nmL x.name a.name with
        | true => rfl
        | false => exact absurd (nmL_tri (by simpa using hax) hh) (hn a List.mem_cons_self)
      refine List.pairwise_cons.2 ⟨fun b hb => ?_, h⟩
      rcases List.mem_cons.1 hb with rfl | hb
      · exact hxa
      · exact nmL_trans hxa (h1 b hb)
def nzQ (x : ShV) : Bool := decide (x.q ≠ 0)
theorem ris_fold_perm : ∀ (xs o : List ShV), (xs.foldl (fun o x => if x.q = 0 then o else insN x o) o).Perm (xs.filter nzQ ++ o)
  | [], o => List.Perm.refl _
  | x :: xs, o => by
    rw [List.foldl_cons]
    refine (ris_fold_perm xs _).trans ?_
    by_cases h : x.q = 0
    · rw [if_pos h, List.filter_cons_of_neg (by simp [nzQ, h])]
    · rw [if_neg h, List.filter_cons_of_pos (by simp [nzQ, h])]
      exact ((insN_perm x o).append_left _).trans List.perm_middle
theorem risL_perm (xs : List ShV) : (risL xs).Perm (xs.filter nzQ) := by
  have := ris_fold_perm xs []
  rwa [List.append_nil] at this
theorem ris_fold_stt : ∀ (xs o : List ShV), stt o → (∀ a ∈ o, ∀ b ∈ xs, a.name ≠ b.name) → dis xs → stt (xs.foldl (fun o x => if x.q = 0 then o else insN x o) o)
  | [], o, h, _, _ => h
  | x :: xs, o, h, hd, hx => by
    rw [List.foldl_cons]
    obtain ⟨h1, h2⟩ := List.pairwise_cons.1 hx
    refine ris_fold_stt xs _ ?_ ?_ h2
    · split
      · exact h
      · exact insN_stt x o h (fun a ha => hd a ha x List.mem_cons_self)
    · intro a ha b hb
      split at ha
      · exact hd a ha b (List.mem_cons_of_mem _ hb)
      · rcases List.mem_cons.1 ((insN_perm x o).subset ha) with rfl | ha
        · exact h1 b hb
        · exact hd a ha b (List.mem_cons_of_mem _ hb)
theorem risL_stt {xs : List ShV} (h : dis xs) : stt (risL xs) := ris_fold_stt xs [] List.Pairwise.nil (fun a ha => by cases ha) h
theorem risL_mem {xs : List ShV} {x : ShV} (h : x ∈ risL xs) : x ∈ xs ∧ x.q ≠ 0 := by
  have := (risL_perm xs).subset h
  rw [List.mem_filter] at this
  exact ⟨this.1, by simpa [nzQ] using this.2⟩
theorem hasQ_nz {xs : List ShV} (h : ∀ x ∈ xs, 0 ≤ x.q) : hasQ xs = xs.filter nzQ := by
  unfold hasQ nzQ
  refine List.filter_congr fun x hx => ?_
  have := h x hx
  by_cases e : x.q = 0
  · simp [e]
  · rw [decide_eq_true e, decide_eq_true]; omega
/-- what the sorted shares have is what the document gathers -/
theorem ris_hasQ {xs ys : List ShV} (hm : mayR xs) (p : ys.Perm xs) (hs : srt ys) : hasQ ys = risL xs := by
  obtain ⟨_, h2, h3⟩ := (mayR_iff xs).1 hm
  have hq : ∀ y ∈ ys, 0 ≤ y.q := fun y hy => (h2 y (p.subset hy)).1
  have hst : stt ys := stt_of hs (h3.perm p.symm)
  refine stt_unique (hst.sublist List.filter_sublist) (risL_stt h3) ?_
  rw [hasQ_nz hq]
  exact (p.filter nzQ).trans (risL_perm xs).symm
theorem mayB_iff {xs ys : List ShV} (p : ys.Perm xs) (hs : srt ys) : mayB ys = true ↔ mayR xs := by
  unfold mayB
  rw [decide_eq_true_iff, mayR_iff]
  have hg : ∀ i (hi : i < ys.length), ys.getD i zeroS = ys[i] := fun i hi => by rw [List.getD_eq_getElem?_getD, List.getElem?_eq_getElem hi]; rfl
  constructor
  · rintro ⟨h1, h2⟩
    have hc : ∀ i (hi : i < ys.length), ∀ j (hj : j < i), nmL (ys[j]'(by omega)).name ys[i].name = true := by
      intro i
      induction i with
      | zero => intro hi j hj; omega
      | succ i ih =>
        intro hi j hj
        have hstop := h2 (i + 1) hi
        unfold mayStop at hstop
        rw [hg _ hi, Nat.add_sub_cancel, hg i (by omega)] at hstop
        have hne : (ys[i]'(by omega)).name ≠ ys[i + 1].name := fun e => hstop (.inr (.inr ⟨by omega, e⟩))
        have hss := (List.pairwise_iff_getElem.1 hs) i (i + 1) (by omega) hi (by omega)
        have hlt : nmL (ys[i]'(by omega)).name ys[i + 1].name = true := by
          cases hh : nmL (ys[i]'(by omega)).name ys[i + 1].name with
          | true => rfl
          | false => exact absurd (nmL_tri hh hss) hne
        rcases Nat.lt_or_ge j i with g | g
        · exact nmL_trans (ih (by omega) j g) hlt
        · obtain rfl : j = i := by omega
          exact hlt
    have hst : stt ys := by
      unfold stt
      rw [List.pairwise_iff_getElem]
      intro i j hi hj hij
      exact hc j hj i hij
    refine ⟨by rw [← p.length_eq]; exact h1, fun x hx => ?_, hst.dis.perm p⟩
    obtain ⟨i, hi, rfl⟩ := List.mem_iff_getElem.1 (p.symm.subset hx)
    have hstop := h2 i hi
    unfold mayStop at hstop
    rw [hg i hi] at hstop
    exact ⟨by rcases Int.lt_or_le ys[i].q 0 with g | g; exact absurd (.inl g) hstop; exact g, by rcases Int.lt_or_le 1024000 ys[i].q with g | g; exact absurd (.inr (.inl g)) hstop; exact g⟩
  · rintro ⟨h1, h2, h3⟩
    refine ⟨by rw [p.length_eq]; exact h1, fun i hi => ?_⟩
    unfold mayStop
    rw [hg i hi]
    have hx := h2 _ (p.subset (List.getElem_mem hi))
    rintro (h | h | ⟨h, e⟩)
    · omega
    · omega
    · rw [hg (i - 1) (by omega)] at e
      exact (List.pairwise_iff_getElem.1 (h3.perm p.symm)) (i - 1) i (by omega) hi (by omega) e
theorem ris_of_perm {xs ys : List ShV} (h : dis xs) (p : xs.Perm ys) : risL xs = risL ys :=
  stt_unique (risL_stt h) (risL_stt (h.perm p)) ((risL_perm xs).trans ((p.filter nzQ).trans (risL_perm ys).symm))
theorem ris_idem {xs : List ShV} (h : dis xs) : risL (risL xs) = risL xs := by
  have hd := (risL_stt h).dis
  refine stt_unique (risL_stt hd) (risL_stt h) ((risL_perm _).trans ?_)
  rw [List.filter_eq_self.2 (fun x hx => by have := (risL_mem hx).2; simpa [nzQ] using this)]
theorem mayR_ris {xs : List ShV} (h : mayR xs) : mayR (risL xs) := by
  obtain ⟨h1, h2, h3⟩ := (mayR_iff xs).1 h
  exact (mayR_iff _).2 ⟨Nat.le_trans (risL_le xs) h1, fun x hx => h2 x (risL_mem hx).1, (risL_stt h3).dis⟩
theorem mayR_perm {xs ys : List ShV} (h : mayR xs) (p : xs.Perm ys) : mayR ys := by
  obtain ⟨h1, h2, h3⟩ := (mayR_iff xs).1 h
  exact (mayR_iff _).2 ⟨by rw [← p.length_eq]; exact h1, fun x hx => h2 x (p.symm.subset hx), h3.perm p⟩
theorem mayR_q {xs : List ShV} (h : mayR xs) : ∀ x ∈ risL xs, 0 < x.q ∧ x.q ≤ 1024000 := by
  obtain ⟨h1, h2, h3⟩ := (mayR_iff xs).1 h
  intro x hx
  obtain ⟨k1, k2⟩ := risL_mem hx
  have := h2 x k1
  omega
theorem turn_perm (xs : List ShV) (k : Nat) : xs.Perm (xs.drop k ++ xs.take k) := by
  have h := List.perm_append_comm (l₁ := xs.take k) (l₂ := xs.drop k)
  rwa [List.take_append_drop] at h
end Go.Proofs.Ytaadpldijnegkaa
/-
  Plain laws of chapter 17: how many slots each name has; where the first one lies; quanta so many times as many.
-/
namespace Go.Proofs.Ytaadpldijnegkaa
open Go.RowKit Go.Sort
set_option linter.unusedVariables false
set_option linter.unusedSimpArgs false

/-! ### slots counted -/
def cntOf (sl : List Int) (i : Nat) : Nat := (sl.filter (fun z => decide (z = (i : Int)))).length
theorem cnt_set_same : ∀ (sl : List Int) (p i : Nat), sl[p]? = some (-1) → cntOf (sl.set p (i : Int)) i = cntOf sl i + 1
  | [], p, i, h => by simp at h
  | a :: l, 0, i, h => by
    simp only [List.getElem?_cons_zero, Option.some.injEq] at h
    subst h
    have : ¬ (-1 : Int) = (i : Int) := by omega
    simp [cntOf, this]
  | a :: l, p + 1, i, h => by
    have ih := cnt_set_same l p i (by simpa using h)
    unfold cntOf at *
    simp only [List.set_cons_succ, List.filter_cons]
    split <;> (try simp only [List.length_cons]) <;> omega
theorem cnt_set_other : ∀ (sl : List Int) (p i j : Nat), sl[p]? = some (-1) → i ≠ j → cntOf (sl.set p (i : Int)) j = cntOf sl j
  | [], p, i, j, h, _ => by simp at h
  | a :: l, 0, i, j, h, hij => by
    simp only [List.getElem?_cons_zero, Option.some.injEq] at h
    subst h
    have h1 : ¬ (-1 : Int) = (j : Int) := by omega
    have h2 : ¬ (i : Int) = (j : Int) := by omega
    simp [cntOf, h1, h2]
  | a :: l, p + 1, i, j, h, hij => by
    have ih := cnt_set_other l p i j (by simpa using h) hij
    unfold cntOf at *
    simp only [List.set_cons_succ, List.filter_cons]
    split <;> (try simp only [List.length_cons]) <;> omega
theorem cnt_rep (n i : Nat) : cntOf (List.replicate n (-1)) i = 0 := by
  unfold cntOf
  rw [List.filter_eq_nil_iff.2 (fun z hz => by rw [List.eq_of_mem_replicate hz]; simp)]
  rfl
section
variable {G n m : Nat} {qs : List Nat} {ch : Nat → Nat → Nat}
/-- credits and slots behind v visits -/
theorem run_cr (hG : 0 < G) (hm : 0 < m) (hq : ∀ q ∈ qs, q ≤ G) (ho : ∀ i, i < m → Ord n (ch i)) : ∀ v, (∀ u, u < v → 0 < (runS G n m qs ch u).left) → ∀ i, i < m →
    (runS G n m qs ch v).cr.getD i 0 = visN m i v * qs.getD i 0 % G ∧ cntOf (runS G n m qs ch v).sl i = visN m i v * qs.getD i 0 / G
  | 0, _, i, hi => by
    rw [visN_zero hi, Nat.zero_mul, Nat.zero_mod, Nat.zero_div]
    refine ⟨?_, cnt_rep n i⟩
    show (List.replicate m 0).getD i 0 = 0
    rw [List.getD_eq_getElem?_getD, List.getElem?_replicate]
    split <;> rfl
  | v + 1, hv, i, hi => by
    have ih := run_cr hG hm hq ho v (fun u hu => hv u (by omega))
    have hok := fil_ok hG hm hq ho v (fun u hu => hv u (by omega))
    have hl := hv v (by omega)
    have hi0 : v % m < m := Nat.mod_lt _ hm
    obtain ⟨i1, i2⟩ := ih i hi
    have hq1 : qs.getD i 0 ≤ G := by
      rw [List.getD_eq_getElem?_getD]
      cases e : qs[i]? with
      | none => simp
      | some c => exact hq c (List.mem_of_getElem? e)
    obtain ⟨h1, h2, _⟩ := hok.free hl (ho _ hi0)
    show (stepS G n qs ch (v % m) (runS G n m qs ch v)).cr.getD i 0 = _ ∧ cntOf (stepS G n qs ch (v % m) (runS G n m qs ch v)).sl i = _
    by_cases e : v % m = i
    · rw [visN_same hi e, cnt_step hG hq1, rem_step hG hq1, e]
      rw [e] at h1 h2
      unfold stepS
      have hic : i < (runS G n m qs ch v).cr.length := by rw [hok.lc]; exact hi
      by_cases hlt : (runS G n m qs ch v).cr.getD i 0 + qs.getD i 0 < G
      · rw [if_pos hlt]
        rw [i1] at hlt
        rw [if_neg (by omega), if_neg (by omega)]
        refine ⟨?_, i2⟩
        show ((runS G n m qs ch v).cr.set i _).getD i 0 = _
        rw [List.getD_eq_getElem?_getD, List.getElem?_set_self hic, Option.getD_some, i1]
      · rw [if_neg hlt]
        rw [i1] at hlt
        rw [if_pos (by omega), if_pos (by omega)]
        refine ⟨?_, ?_⟩
        · show ((runS G n m qs ch v).cr.set i _).getD i 0 = _
          rw [List.getD_eq_getElem?_getD, List.getElem?_set_self hic, Option.getD_some, i1]
        · show cntOf ((runS G n m qs ch v).sl.set _ _) i = _
          rw [cnt_set_same _ _ _ h2, i2]
    · rw [visN_other hi e, ← i1, ← i2]
      unfold stepS
      split
      · refine ⟨?_, rfl⟩
        show ((runS G n m qs ch v).cr.set _ _).getD i 0 = _
        rw [List.getD_eq_getElem?_getD, List.getElem?_set_ne e, ← List.getD_eq_getElem?_getD]
      · refine ⟨?_, ?_⟩
        · show ((runS G n m qs ch v).cr.set _ _).getD i 0 = _
          rw [List.getD_eq_getElem?_getD, List.getElem?_set_ne e, ← List.getD_eq_getElem?_getD]
        · exact cnt_set_other _ _ _ _ h2 e
/-- all slots are of a name in the end -/
theorem done_all (hG : 0 < G) (hm : 0 < m) (hq : ∀ q ∈ qs, q ≤ G) (ho : ∀ i, i < m → Ord n (ch i)) {N : Nat} (h : Done G n m qs ch N) : (runS G n m qs ch N).sl.length = n ∧ ∀ z ∈ (runS G n m qs ch N).sl, ∃ i : Nat, z = (i : Int) ∧ i < m := by
  have hok := fil_ok hG hm hq ho N (fun u hu => h.some u hu)
  refine ⟨hok.ls, fun z hz => ?_⟩
  rcases hok.rg z hz with e | ⟨i, e, hi⟩
  · exfalso
    have hf := hok.fr
    rw [h.none] at hf
    unfold frees at hf
    have := List.eq_nil_of_length_eq_zero hf
    rw [List.filter_eq_nil_iff] at this
    exact this z hz (by simp [e])
  · exact ⟨i, e, hi⟩
/-- where the first of the greatest lies -/
theorem run_first (hG : 0 < G) (hm : 0 < m) (hq : ∀ q ∈ qs, q ≤ G) (ho : ∀ i, i < m → Ord n (ch i)) (hn : 0 < n) {f : Nat} (hf : f < m) (hfq : qs.getD f 0 = G) (hlow : ∀ i, i < f → qs.getD i 0 < G) {N : Nat} (h : Done G n m qs ch N) : (runS G n m qs ch N).sl[ch f 0]? = some (f : Int) := by
  have hv0 : ∀ i v, i < m → v ≤ i → visN m i v = 0 := fun i v hi hv => by
    unfold visN
    exact Nat.div_eq_of_lt (by omega)
  have hs : ∀ v, v ≤ f → v ≤ N ∧ (runS G n m qs ch v).sl = List.replicate n (-1) ∧ (runS G n m qs ch v).left = n := by
    intro v
    induction v with
    | zero => intro _; exact ⟨Nat.zero_le _, rfl, rfl⟩
    | succ v ih =>
      intro hvf
      obtain ⟨a1, a2, a3⟩ := ih (by omega)
      have hvN : v < N := by
        rcases Nat.lt_or_ge v N with g | g
        · exact g
        · have : v = N := by omega
          rw [this, h.none] at a3
          omega
      have hcr := (run_cr hG hm hq ho v (fun u hu => h.some u (by omega)) v (by omega)).1
      rw [hv0 v v (by omega) (Nat.le_refl _), Nat.zero_mul, Nat.zero_mod] at hcr
      have e : v % m = v := Nat.mod_eq_of_lt (by omega)
      have hst : runS G n m qs ch (v + 1) = stepS G n qs ch v (runS G n m qs ch v) := by
        show stepS G n qs ch (v % m) (runS G n m qs ch v) = _
        rw [e]
      rw [hst]
      unfold stepS
      rw [hcr, if_pos (by have := hlow v (by omega); omega)]
      exact ⟨hvN, a2, a3⟩
  obtain ⟨b1, b2, b3⟩ := hs f (Nat.le_refl _)
  have hfN : f < N := by
    rcases Nat.lt_or_ge f N with g | g
    · exact g
    · have : f = N := by omega
      rw [this, h.none] at b3
      omega
  have hp : ∀ d, f + 1 + d ≤ N → (runS G n m qs ch (f + 1 + d)).sl[ch f 0]? = some (f : Int) := by
    intro d
    induction d with
    | zero =>
      intro _
      have hcr := (run_cr hG hm hq ho f (fun u hu => h.some u (by omega)) f hf).1
      rw [hv0 f f hf (Nat.le_refl _), Nat.zero_mul, Nat.zero_mod] at hcr
      have e : f % m = f := Nat.mod_eq_of_lt hf
      have hst : runS G n m qs ch (f + 1) = stepS G n qs ch f (runS G n m qs ch f) := by
        show stepS G n qs ch (f % m) (runS G n m qs ch f) = _
        rw [e]
      have hfr : ffree (ch f) (runS G n m qs ch f).sl n = 0 := by
        have hsp := ffree_spec (f := ch f) (sl := (runS G n m qs ch f).sl) (n := n) ⟨0, hn, by rw [b2, List.getElem?_replicate, if_pos ((ho f hf).lt 0)]⟩
        rcases Nat.eq_zero_or_pos (ffree (ch f) (runS G n m qs ch f).sl n) with g | g
        · exact g
        · exfalso
          exact hsp.2.2 0 g (by rw [b2, List.getElem?_replicate, if_pos ((ho f hf).lt 0)])
      rw [Nat.add_zero, hst]
      unfold stepS
      rw [hcr, hfq, if_neg (by omega), hfr]
      show ((runS G n m qs ch f).sl.set (ch f 0) (f : Int))[ch f 0]? = _
      rw [List.getElem?_set_self (by rw [b2, List.length_replicate]; exact (ho f hf).lt 0)]
    | succ d ih =>
      intro hd
      have ih' := ih (by omega)
      have hok := fil_ok hG hm hq ho (f + 1 + d) (fun u hu => h.some u (by omega))
      have hl := h.some (f + 1 + d) (by omega)
      have hi0 : (f + 1 + d) % m < m := Nat.mod_lt _ hm
      obtain ⟨h1, h2, _⟩ := hok.free hl (ho _ hi0)
      show (stepS G n qs ch ((f + 1 + d) % m) (runS G n m qs ch (f + 1 + d))).sl[ch f 0]? = _
      unfold stepS
      split
      · exact ih'
      · show ((runS G n m qs ch (f + 1 + d)).sl.set _ _)[ch f 0]? = _
        rw [List.getElem?_set_ne ?_]
        · exact ih'
        · intro e
          rw [e, ih'] at h2
          have := Option.some.inj h2
          omega
  have := hp (N - (f + 1)) (by omega)
  rwa [show f + 1 + (N - (f + 1)) = N by omega] at this
/-- with all quanta k times as many -/
theorem run_scale {k : Nat} (hk : 0 < k) : ∀ v, runS (G * k) n m (qs.map (· * k)) ch v = ⟨(runS G n m qs ch v).cr.map (· * k), (runS G n m qs ch v).sl, (runS G n m qs ch v).left⟩
  | 0 => by
    show (⟨_, _, _⟩ : Stt) = ⟨_, _, _⟩
    congr 1
    show List.replicate m 0 = (List.replicate m 0).map (· * k)
    rw [List.map_replicate, Nat.zero_mul]
  | v + 1 => by
    have ih := run_scale hk v
    show stepS (G * k) n (qs.map (· * k)) ch (v % m) (runS (G * k) n m (qs.map (· * k)) ch v) = _
    rw [ih]
    have hd : ∀ (l : List Nat) (i : Nat), (l.map (· * k)).getD i 0 = l.getD i 0 * k := fun l i => by
      rw [List.getD_eq_getElem?_getD, List.getD_eq_getElem?_getD, List.getElem?_map]
      cases l[i]? <;> simp
    show _ = (⟨(stepS G n qs ch (v % m) (runS G n m qs ch v)).cr.map (· * k), (stepS G n qs ch (v % m) (runS G n m qs ch v)).sl, (stepS G n qs ch (v % m) (runS G n m qs ch v)).left⟩ : Stt)
    unfold stepS
    dsimp only
    rw [hd, hd]
    have hmul : (runS G n m qs ch v).cr.getD (v % m) 0 * k + qs.getD (v % m) 0 * k = ((runS G n m qs ch v).cr.getD (v % m) 0 + qs.getD (v % m) 0) * k := by rw [Nat.add_mul]
    rw [hmul]
    by_cases hlt : (runS G n m qs ch v).cr.getD (v % m) 0 + qs.getD (v % m) 0 < G
    · rw [if_pos ((Nat.mul_lt_mul_right hk).2 hlt), if_pos hlt]
      dsimp only
      rw [List.map_set]
    · rw [if_neg (fun h => hlt ((Nat.mul_lt_mul_right hk).1 h)), if_neg hlt]
      dsimp only
      rw [List.map_set, Nat.sub_mul]
theorem done_scale {k : Nat} (hk : 0 < k) {N : Nat} (h : Done G n m qs ch N) : Done (G * k) n m (qs.map (· * k)) ch N :=
  ⟨by rw [run_scale hk]; exact h.none, fun v hv => by rw [run_scale hk]; exact h.some v hv⟩
end
/-- how many visits each has -/
theorem visN_two {m i n : Nat} (hi : i < m) : n / m ≤ visN m i n ∧ visN m i n ≤ n / m + 1 := by
  unfold visN
  constructor
  · exact Nat.div_le_div_right (by omega)
  · have : (n + m - 1 - i) / m ≤ (n + m) / m := Nat.div_le_div_right (by omega)
    rwa [Nat.add_div_right _ (by omega)] at this
/-- the sum of all counts -/
theorem cnt_cons (a : Int) (l : List Int) (i : Nat) : cntOf (a :: l) i = cntOf l i + if a = (i : Int) then 1 else 0 := by
  unfold cntOf
  rw [List.filter_cons]
  split
  · rename_i h
    rw [if_pos (of_decide_eq_true h), List.length_cons]
  · rename_i h
    rw [if_neg (fun e => h (decide_eq_true e))]
    rfl
theorem sum_one : ∀ (m k : Nat), ((List.range m).map (fun i => if k = i then 1 else 0)).sum = if k < m then 1 else 0
  | 0, k => by simp
  | m + 1, k => by
    rw [List.range_succ, List.map_append, List.sum_append, sum_one m k]
    simp only [List.map_cons, List.map_nil, List.sum_cons, List.sum_nil]
    by_cases h1 : k < m
    · rw [if_pos h1, if_neg (by omega), if_pos (by omega)]; rfl
    · by_cases h2 : k = m
      · rw [if_neg h1, if_pos h2, if_pos (by omega)]; rfl
      · rw [if_neg h1, if_neg h2, if_neg (by omega)]; rfl
theorem sum_add (f g : Nat → Nat) : ∀ l : List Nat, (l.map (fun i => f i + g i)).sum = (l.map f).sum + (l.map g).sum
  | [] => rfl
  | a :: l => by
    simp only [List.map_cons, List.sum_cons, sum_add f g l]
    omega
theorem cnt_sum (m : Nat) : ∀ sl : List Int, (∀ z ∈ sl, ∃ i : Nat, z = (i : Int) ∧ i < m) → ((List.range m).map (cntOf sl)).sum = sl.length
  | [], _ => by
    have e : (cntOf []) = fun _ => 0 := by funext i; rfl
    rw [e]
    have : ∀ l : List Nat, (l.map (fun _ => 0)).sum = 0 := fun l => by induction l with | nil => rfl | cons a l ih => simpa using ih
    exact this _
  | a :: l, h => by
    have ih := cnt_sum m l (fun z hz => h z (List.mem_cons_of_mem _ hz))
    obtain ⟨k, rfl, hk⟩ := h a List.mem_cons_self
    have e : cntOf ((k : Int) :: l) = fun i => cntOf l i + if k = i then 1 else 0 := by
      funext i
      rw [cnt_cons]
      congr 1
      by_cases h : k = i
      · rw [if_pos h, if_pos (by omega)]
      · rw [if_neg h, if_neg (by omega)]
    rw [e, sum_add, sum_one, if_pos hk, ih, List.length_cons]
theorem cntI_cnt (sl : List Int) (m : Nat) : cntI sl m = (List.range m).map (fun i => (cntOf sl i : Int)) := rfl
theorem cnt_le (sl : List Int) (i : Nat) : cntOf sl i ≤ sl.length := List.length_filter_le _ _
theorem cnt_all (sl : List Int) (h : ∀ z ∈ sl, z = 0) : cntOf sl 0 = sl.length := by
  unfold cntOf
  rw [List.filter_eq_self.2 (fun z hz => by rw [h z hz]; rfl)]
end Go.Proofs.Ytaadpldijnegkaa
/-
  Chapter 17: what both builds answer, of shares that may be; Same, right, greatest: walked.
-/
namespace Go.Proofs.Ytaadpldijnegkaa
open Go.RowKit Go.Sort
set_option linter.unusedVariables false
set_option linter.unusedSimpArgs false
set_option maxRecDepth 100000
set_option maxHeartbeats 8000000

/-! ### the table's slots as a list -/
noncomputable def slZ (kb : List UInt8) (n : Nat) (zs : List ShV) : List Int := by
  classical
  exact if h : ∃ sl, slotsZ kb n zs sl then h.choose else []
theorem slZ_of {kb : List UInt8} {n : Nat} {zs : List ShV} {sl : List Int} (h : slotsZ kb n zs sl) : slZ kb n zs = sl := by
  unfold slZ
  have hx : ∃ sl, slotsZ kb n zs sl := ⟨sl, h⟩
  rw [dif_pos hx]
  exact slotsZ_unique hx.choose_spec h
theorem slZ_at {kb : List UInt8} {n : Nat} {zs : List ShV} (h2 : 2 ≤ n) (h3 : n ≤ 65537) (hp : pr n = true) (hq : ∀ x ∈ zs, 0 < x.q ∧ x.q ≤ 1024000) : slotsZ kb n zs (slZ kb n zs) := by
  have hx : ∃ sl, slotsZ kb n zs sl := by
    by_cases hz : zs = []
    · exact ⟨[], .inl ⟨hz, rfl⟩⟩
    · have h0 : 0 < zs.length := List.length_pos_iff.2 hz
      have hU := us_us (kb := kb) h2 h3 hp hq h0
      obtain ⟨gi, hgl, hgq⟩ := maxQ_hit hU.big.1
      obtain ⟨N, hd⟩ := done_ex (G := maxQ (usOf kb n zs)) (n := n) (ch := chU (usOf kb n zs) n) (qs := qsU (usOf kb n zs)) hgl (by
        unfold qsU
        rw [List.getD_eq_getElem?_getD, List.getElem?_map, List.getElem?_eq_getElem hgl]
        exact hgq)
      exact ⟨_, .inr ⟨hz, N, hd, rfl⟩⟩
  obtain ⟨sl, h⟩ := hx
  rw [slZ_of h]
  exact h
/-- what is known of the slots -/
structure SlK (kb : List UInt8) (n : Nat) (zs : List ShV) (sl : List Int) (G : Nat) : Prop where
  gz : maxZ zs = (G : Int)
  pos : 0 < G
  len : sl.length = n
  rg : ∀ z ∈ sl, ∃ i : Nat, z = (i : Int) ∧ i < zs.length
  ql : ∀ i (hi : i < zs.length), 0 < zs[i].q ∧ zs[i].q ≤ (G : Int) ∧ zs[i].q ≤ 1024000
  hit : ∃ i, ∃ hi : i < zs.length, zs[i].q = (G : Int)
  cnt : ∃ N, ∀ i (hi : i < zs.length), cntOf sl i = visN zs.length i N * zs[i].q.toNat / G
  first : ∀ f (hf : f < zs.length), zs[f].q = (G : Int) → (∀ i (hi : i < f), (zs[i]'(by omega)).q < (G : Int)) → sl[offN kb zs[f].name n]? = some (f : Int)
theorem slZ_know {kb : List UInt8} {n : Nat} {zs : List ShV} (h2 : 2 ≤ n) (h3 : n ≤ 65537) (hp : pr n = true) (hq : ∀ x ∈ zs, 0 < x.q ∧ x.q ≤ 1024000) (hz : zs ≠ []) : ∃ G, SlK kb n zs (slZ kb n zs) G := by
  have h0 : 0 < zs.length := List.length_pos_iff.2 hz
  have hU := us_us (kb := kb) h2 h3 hp hq h0
  have hs := slZ_at (kb := kb) h2 h3 hp hq
  rcases hs with ⟨e, _⟩ | ⟨_, N, hd, hsl⟩
  · exact absurd e hz
  have hqs : ∀ q ∈ qsU (usOf kb n zs), q ≤ maxQ (usOf kb n zs) := fun q hq => by obtain ⟨u, hu, rfl⟩ := List.mem_map.1 hq; exact maxQ_le _ u hu
  have hlen : (usOf kb n zs).length = zs.length := usOf_length kb n zs
  have hord : ∀ i, i < (usOf kb n zs).length → Ord n (chU (usOf kb n zs) n i) := fun i hi => hU.ord hi
  have hda := done_all hU.big.1 hU.pos hqs hord hd
  have hmz := maxZ_maxQ kb n (fun x hx => (hq x hx).1)
  have hqi : ∀ i (hi : i < zs.length), zs[i].q = (((qsU (usOf kb n zs)).getD i 0 : Nat) : Int) := fun i hi => by
    rw [qs_us hi]
    have := hq zs[i] (List.getElem_mem hi)
    omega
  refine ⟨maxQ (usOf kb n zs), hmz, hU.big.1, by rw [hsl]; exact hda.1, fun z hzz => ?_, fun i hi => ?_, ?_, ⟨N, fun i hi => ?_⟩, fun f hf hfq hlow => ?_⟩
  · rw [hsl] at hzz
    obtain ⟨i, h1, h2⟩ := hda.2 z hzz
    exact ⟨i, h1, by rw [← hlen]; exact h2⟩
  · have h1 := hq zs[i] (List.getElem_mem hi)
    refine ⟨h1.1, ?_, h1.2⟩
    have h2 := maxQ_le (usOf kb n zs) (turnOf kb n zs[i]) (List.mem_map.2 ⟨zs[i], List.getElem_mem hi, rfl⟩)
    have h3 : (turnOf kb n zs[i]).q = zs[i].q.toNat := rfl
    omega
  · obtain ⟨gi, hgl, hgq⟩ := maxQ_hit hU.big.1
    have hg2 : gi < zs.length := by rw [← hlen]; exact hgl
    refine ⟨gi, hg2, ?_⟩
    have e : (usOf kb n zs)[gi].q = zs[gi].q.toNat := by simp [usOf, turnOf]
    have := hq zs[gi] (List.getElem_mem hg2)
    omega
  · have h := (run_cr hU.big.1 hU.pos hqs hord N (fun u hu => hd.some u hu) i (by rw [hlen]; exact hi)).2
    rw [hsl, h, hlen, qs_us hi]
  · rw [hsl]
    have h := run_first hU.big.1 hU.pos hqs hord (by omega) (f := f) (by rw [hlen]; exact hf) (by have := hqi f hf; omega) (fun i hi => by have := hqi i (by omega); have := hlow i hi; omega) hd
    rw [chU_us hf] at h
    have e : choiceN (offN kb zs[f].name n) (skipN kb zs[f].name n) n 0 = offN kb zs[f].name n := by
      unfold choiceN
      rw [Nat.zero_mod, Nat.zero_mul, Nat.add_zero]
      exact Nat.mod_eq_of_lt (Nat.mod_lt _ (by omega))
    rwa [e] at h
theorem slZ_nil (kb : List UInt8) (n : Nat) : slZ kb n [] = [] := slZ_of (.inl ⟨rfl, rfl⟩)
theorem slZ_rg {kb : List UInt8} {n : Nat} {zs : List ShV} (h2 : 2 ≤ n) (h3 : n ≤ 65537) (hp : pr n = true) (hq : ∀ x ∈ zs, 0 < x.q ∧ x.q ≤ 1024000) : (∀ z ∈ slZ kb n zs, 0 ≤ z ∧ z < (zs.length : Int)) ∧ (slZ kb n zs).length ≤ n := by
  by_cases hz : zs = []
  · subst hz
    rw [slZ_nil]
    exact ⟨fun z hz => (by cases hz), Nat.zero_le _⟩
  · obtain ⟨G, hk⟩ := slZ_know (kb := kb) h2 h3 hp hq hz
    refine ⟨fun z hzz => ?_, by rw [hk.len]; exact Nat.le_refl _⟩
    obtain ⟨i, rfl, hi⟩ := hk.rg z hzz
    omega
/-! ### what both builds answer -/
def RetT (nl : Nat) (N : List ByteArray) (ll : Nat) (L : List Int) (w : World) (e : Ending) (w' : World) : Prop :=
  ∃ a1 c1 a2 c2, e = .returned (.tuple #[.agg #[.slice a1 nl c1, .slice a2 ll c2], .int .i64 0]) ∧ w'.ownsRow w.heap.size 9 1 (.slice a1 nl c1) nl (stV N) ∧ w'.ownsRow w.heap.size 3 1 (.slice a2 ll c2) ll (iV L) ∧ Below w.heap.size w w'
def RetU (nl : Nat) (N : List ByteArray) (ll : Nat) (L : List Int) (w : World) (e : Ending) (w' : World) : Prop :=
  ∃ a1 c1 a2 c2, e = .returned (.agg #[.slice a1 nl c1, .slice a2 ll c2]) ∧ w'.ownsRow w.heap.size 9 1 (.slice a1 nl c1) nl (stV N) ∧ w'.ownsRow w.heap.size 3 1 (.slice a2 ll c2) ll (iV L) ∧ Below w.heap.size w w'
theorem build_at (kb : List UInt8) (hkb : kb.length = 16) (n : Nat) (h2n : 2 ≤ n) (h3n : n ≤ 65537) (hpr : pr n = true) (ad : Option Addr) (m c : Nat) (xs : List ShV) (hm : mayR xs) (hnm : ∀ x ∈ xs, x.name.size ≤ 999999) (zs : List ShV) (hz : risL xs = zs) (N : List ByteArray) (hN : namesOf zs = N) (nl : Nat) (hnl : N.length = nl) (L : List Int) (hL : slZ kb n zs = L) (ll : Nat) (hll : L.length = ll) (w : World) (h : Shs w ad m c xs) :
    Calls Try.prog 12 #[.agg (BV kb).toArray, .int .i64 (n : Int), .slice ad m c] w (RetT nl N ll L w) := by
  have hml := h.len
  have hmr := (mayR_iff xs).1 hm
  subst hN hnl hL hll
  refine (build_any kb hkb (n : Int) (by omega) (by omega) ad m c xs (by omega) (fun x hx => by have := hnm x hx; omega) w h).mono ?_
  rintro e w' ⟨ys, hp, hs, hb, h1 | ⟨h1, a1, c1, a2, c2, sl, rfl, ho1, ho2, hsl⟩⟩
  · exfalso
    rcases h1.1 with h1 | h1 | h1
    · omega
    · rw [Int.toNat_natCast, hpr] at h1; cases h1
    · rw [(mayB_iff hp hs).2 hm] at h1; cases h1
  · have hr : hasQ ys = zs := by rw [← hz]; exact ris_hasQ hm hp hs
    have hsz := slotsZ_of hsl
    rw [Int.toNat_natCast, hr] at hsz
    have hnn : nmsOf ys = namesOf zs := by unfold nmsOf namesOf; rw [hr]
    rw [hnn] at ho1
    refine ⟨a1, c1, a2, c2, ?_, ho1, ?_, hb⟩
    · rw [hnn, slZ_of hsz]
    · rw [slZ_of hsz]; exact ho2
theorem build_bad (kb : List UInt8) (hkb : kb.length = 16) (size : Int) (hs1 : -9223372036854775808 ≤ size) (hs2 : size ≤ 4611686018427387904) (ad : Option Addr) (m c : Nat) (xs : List ShV) (hm : m ≤ 1000000) (hx : ∀ x ∈ xs, x.name.size ≤ 1000000) (hbad : 65537 < size ∨ pr size.toNat = false ∨ ¬ mayR xs) (w : World) (h : Shs w ad m c xs) :
    Calls Try.prog 12 #[.agg (BV kb).toArray, .int .i64 size, .slice ad m c] w fun e w' => e = .returned (.tuple #[.agg #[.slice none 0 0, .slice none 0 0], .int .i64 1]) ∧ Below w.heap.size w w' := by
  refine (build_any kb hkb size hs1 hs2 ad m c xs hm hx w h).mono ?_
  rintro e w' ⟨ys, hp, hs, hb, ⟨_, rfl⟩ | ⟨h1, _⟩⟩
  · exact ⟨rfl, hb⟩
  · exfalso
    apply h1
    rcases hbad with h2 | h2 | h2
    · exact .inl h2
    · exact .inr (.inl h2)
    · refine .inr (.inr ?_)
      cases hh : mayB ys with
      | false => rfl
      | true => exact absurd ((mayB_iff hp hs).1 hh) h2
theorem refBuild_at (kb : List UInt8) (hkb : kb.length = 16) (n : Nat) (h2n : 2 ≤ n) (h3n : n ≤ 65537) (hpr : pr n = true) (ad : Option Addr) (m c : Nat) (xs : List ShV) (hm : mayR xs) (hnm : ∀ x ∈ xs, x.name.size ≤ 999999) (zs : List ShV) (hz : risL xs = zs) (N : List ByteArray) (hN : namesOf zs = N) (nl : Nat) (hnl : N.length = nl) (L : List Int) (hL : slZ kb n zs = L) (ll : Nat) (hll : L.length = ll) (w : World) (h : Shs w ad m c xs) :
    Calls Try.prog 16 #[.agg (BV kb).toArray, .int .i64 (n : Int), .slice ad m c] w (RetU nl N ll L w) := by
  have hml := h.len
  have hmr := (mayR_iff xs).1 hm
  subst hN hnl hL hll hz
  refine (refBuild_any kb hkb n h2n h3n hpr ad m c xs (by omega) (fun x hx => hnm x (risL_mem hx).1) (mayR_q hm) w h).mono ?_
  rintro e w' ⟨a1, c1, a2, c2, sl, rfl, ho1, ho2, hsl, hb⟩
  refine ⟨a1, c1, a2, c2, ?_, ?_, ?_, hb⟩
  · rw [slZ_of hsl, namesOf_length]
  · rw [namesOf_length]; exact ho1
  · rw [slZ_of hsl]; exact ho2
/-! ### Same, of tables that are alike -/
theorem iV_NV {l : List Int} (h : ∀ z ∈ l, 0 ≤ z) : iV l = NV (l.map Int.toNat) := by
  unfold iV NV
  rw [List.map_map]
  refine List.map_congr_left fun z hz => ?_
  have := h z hz
  simp only [Function.comp]
  congr 1
  omega
theorem same17_any (a1 : Option Addr) (n1 c1 : Nat) (a2 : Option Addr) (n2 c2 : Nat) (b1 : Option Addr) (d1 : Nat) (b2 : Option Addr) (d2 : Nat) (N : List ByteArray) (L : List Int) (hL : ∀ z ∈ L, 0 ≤ z) (hl : n2 ≤ 65537) (hn : n1 ≤ 1000000) (w : World) (h1 : Sl w a1 n1 c1 1 (stV N)) (h2 : Sl w a2 n2 c2 1 (iV L)) (k1 : Sl w b1 n1 d1 1 (stV N)) (k2 : Sl w b2 n2 d2 1 (iV L)) :
    Calls Try.prog 15 #[.agg #[.slice a1 n1 c1, .slice a2 n2 c2], .agg #[.slice b1 n1 d1, .slice b2 n2 d2]] w fun e w' => e = .returned (.bool true) ∧ Below w.heap.size w w' := by
  have hlen : n1 = N.length := by have := Sl.len h1; rw [stV_length] at this; omega
  have hlen2 : n2 = L.length := by have := Sl.len h2; rw [iV_length] at this; omega
  have hc1 : n1 ≤ c1 := h1.2.1
  have hc2 : n1 ≤ d1 := k1.2.1
  have H1 := Lib.hid h1
  have H2 := Lib.hid (show Ns w a2 n2 c2 (L.map Int.toNat) by unfold Ns; rw [← iV_NV hL]; exact h2)
  have K1 := Lib.hid k1
  have K2 := Lib.hid (show Ns w b2 n2 d2 (L.map Int.toNat) by unfold Ns; rw [← iV_NV hL]; exact k2)
  have HLL : Hid ((L.map Int.toNat).length ≤ 100000) := Lib.hid (by rw [List.length_map]; omega)
  have HLN := Lib.hid hlen
  have HB := Lib.hid (Below.refl w.heap.size w)
  clear h1 h2 k1 k2 hL hlen hlen2
  go_enter Try.func15, Try.ntmps15
  go_wp2_with (first
    | ((with_reducible refine sl 2 ?_); go_must (refine wpL_boxG rfl 30 (.tmp 0) rfl #[.slice a1 n1 c1, .slice a2 n2 c2] rfl ?_); intro w1 g2 he__ le_g2 lt_g2 hg__ hb__; have HG2 := Lib.hid hg__; have hE__ := cU HB bup hb__; replace HB := ck HB hE__; clear hE__; clear hg__ hb__ he__; simp only [PT])
    | ((with_reducible refine sl 3 ?_); go_must (refine wpL_boxG rfl 30 (.tmp 1) rfl #[.slice b1 n1 d1, .slice b2 n2 d2] rfl ?_); intro w2 g3 he__ le_g3 lt_g3 hg__ hb__; have HG3 := Lib.hid hg__; have hE__ := cU HB bup hb__; replace HB := ck HB hE__; replace HG2 := ck HG2 hE__; clear hE__; clear hg__ hb__ he__; simp only [PT])
    | ((with_reducible refine sl 7 ?_); go_must (refine wpL_loadF rfl 27 (.tmp 6) rfl g2 0 rfl (.slice a1 n1 c1) (hatB HG2 bup) rfl Try.underlying27 rfl ?_); simp only [PT])
    | ((with_reducible refine sl 10 ?_); go_must (refine wpL_loadF rfl 27 (.tmp 9) rfl g3 0 rfl (.slice b1 n1 d1) (hatB HG3 bup) rfl Try.underlying27 rfl ?_); simp only [PT])
    | ((with_reducible refine sl 15 ?_); go_must (refine wpL_loadF rfl 28 (.tmp 14) rfl g2 1 rfl (.slice a2 n2 c2) (hatB HG2 bup) rfl Try.underlying28 rfl ?_); simp only [PT])
    | ((with_reducible refine sl 17 ?_); go_must (refine wpL_loadF rfl 28 (.tmp 16) rfl g3 1 rfl (.slice b2 n2 d2) (hatB HG3 bup) rfl Try.underlying28 rfl ?_); simp only [PT])
    | (go_at_call 31; go_must (refine (sameI_any a2 b2 n2 n2 c2 d2 (L.map Int.toNat) _ (Sl.below H2.out (HB.out.trans (Below.mono bup HB.out.size))) (Sl.below K2.out (HB.out.trans (Below.mono bup HB.out.size))) HLL.out).mono ?_); rintro e w3 ⟨rfl, hb__⟩; have hE__ := cU HB bup hb__; replace HB := ck HB hE__; replace HG2 := ck HG2 hE__; replace HG3 := ck HG3 hE__; clear hE__; clear hb__))
  go_loopw [5] (fun i wr => ∃ k : Nat, k ≤ n1 ∧ i = .int .i64 (k : Int) ∧ Hid (Below w.heap.size w wr) ∧ Hid (wr.heap[g2]? = some (.cells #[.slice a1 n1 c1, .slice a2 n2 c2] 30 (0, 0))) ∧ Hid (wr.heap[g3]? = some (.cells #[.slice b1 n1 d1, .slice b2 n2 d2] 30 (0, 0)))) (fun i _ => n1 - (intOf i).toNat)
  case atStart => exact ⟨0, by omega, rfl, Lib.hid (HB.out.trans (Below.mono bup HB.out.size)), Lib.hid (hatB HG2 bup), Lib.hid (hatB HG3 bup)⟩
  case round =>
    clear HB HG2 HG3
    obtain ⟨k, hk, rfl, HB, HG2, HG3⟩ := hrel
    have q1 : wr.cell? ⟨g2, 0, none⟩ = some (.slice a1 n1 c1) := cellV HG2.out rfl
    have q2 : wr.cell? ⟨g3, 0, none⟩ = some (.slice b1 n1 d1) := cellV HG3.out rfl
    by_cases hlt : k < n1
    · have hki : (k : Int) < (n1 : Int) := by omega
      have hkN : k < N.length := by rw [← HLN.out]; exact hlt
      obtain ⟨x1, o1, rfl, hx1, hat1⟩ := stV_at' H1.out hkN
      obtain ⟨x2, o2, rfl, hx2, hat2⟩ := stV_at' K1.out hkN
      obtain ⟨s, hs⟩ : ∃ s, s = N[k] := ⟨_, rfl⟩
      have r1 : wr.cell? ⟨x1, o1 + k, none⟩ = some (.string s) := by rw [hs]; exact (HB.out.cell (p := ⟨x1, o1 + k, none⟩) hx1).trans (hat1 k hkN)
      have r2 : wr.cell? ⟨x2, o2 + k, none⟩ = some (.string s) := by rw [hs]; exact (HB.out.cell (p := ⟨x2, o2 + k, none⟩) hx2).trans (hat2 k hkN)
      clear hat1 hat2 hs
      obtain ⟨wv, hwv⟩ : ∃ wv, wv = wr := ⟨_, rfl⟩
      subst hwv
      go_wp2_with fail
      go_quiet (fail)
      go_wp2_with fail
      go_roundw
      case rel => exact ⟨k + 1, by omega, by go_num, Lib.hid (by first | exact HB.out | exact HB.out.trans (below_drewN _ _ _) | exact HB.out.drew), Lib.hid (hatB HG2 (by first | exact Below.refl _ _ | exact below_drewN _ _ _ | exact (Below.refl _ _).drew)), Lib.hid (hatB HG3 (by first | exact Below.refl _ _ | exact below_drewN _ _ _ | exact (Below.refl _ _).drew))⟩
      case measure => simp [intOf]; omega
    · have hge : ¬ (k : Int) < (n1 : Int) := by omega
      go_wp2_with fail
      go_ret
      exact ⟨rfl, HB.out⟩
/-! ### right, greatest -/
theorem right_any (a1 : Option Addr) (n1 c1 : Nat) (a2 : Option Addr) (n2 c2 : Nat) (L : List Int) (hL : ∀ z ∈ L, 0 ≤ z ∧ z < (n1 : Int)) (hl : n2 ≤ 65537) (hn : n1 ≤ 1000000) (w : World) (h2 : Sl w a2 n2 c2 1 (iV L)) :
    Calls Try.prog 21 #[.agg #[.slice a1 n1 c1, .slice a2 n2 c2]] w fun e w' => e = .returned (.bool true) ∧ Below w.heap.size w w' := by
  have hlen2 : n2 = L.length := by have := Sl.len h2; rw [iV_length] at this; omega
  have hc2 : n2 ≤ c2 := h2.2.1
  have H2 := Lib.hid h2
  have HLN := Lib.hid hlen2
  have HL := Lib.hid hL
  have HB := Lib.hid (Below.refl w.heap.size w)
  clear h2 hL hlen2
  go_enter Try.func21, Try.ntmps21
  go_wp2_with (first
    | ((with_reducible refine sl 1 ?_); go_must (refine wpL_boxG rfl 30 (.tmp 0) rfl #[.slice a1 n1 c1, .slice a2 n2 c2] rfl ?_); intro w1 g2 he__ le_g2 lt_g2 hg__ hb__; have HG2 := Lib.hid hg__; have hE__ := cU HB bup hb__; replace HB := ck HB hE__; clear hE__; clear hg__ hb__ he__; simp only [PT]))
  go_loopw [3] (fun i wr => ∃ k : Nat, k ≤ n2 ∧ i = .int .i64 (k : Int) ∧ Hid (Below w.heap.size w wr) ∧ Hid (wr.heap[g2]? = some (.cells #[.slice a1 n1 c1, .slice a2 n2 c2] 30 (0, 0)))) (fun i _ => n2 - (intOf i).toNat)
  case atStart => exact ⟨0, by omega, rfl, Lib.hid (HB.out.trans (Below.mono bup HB.out.size)), Lib.hid (hatB HG2 bup)⟩
  case round =>
    clear HB HG2
    obtain ⟨k, hk, rfl, HB, HG2⟩ := hrel
    have q1 : wr.cell? ⟨g2, 0, none⟩ = some (.slice a1 n1 c1) := cellV HG2.out rfl
    have q2 : wr.cell? ⟨g2, 1, none⟩ = some (.slice a2 n2 c2) := cellV HG2.out rfl
    by_cases hlt : k < n2
    · have hki : (k : Int) < (n2 : Int) := by omega
      have hkN : k < L.length := by rw [← HLN.out]; exact hlt
      obtain ⟨x2, o2, rfl, hx2, hat2⟩ := iV_at' H2.out hkN
      obtain ⟨z, hz⟩ : ∃ z, z = L[k] := ⟨_, rfl⟩
      have hz2 := HL.out L[k] (List.getElem_mem hkN)
      rw [← hz] at hz2
      have r1 : wr.cell? ⟨x2, o2 + k, none⟩ = some (.int .i64 z) := by rw [hz]; exact (HB.out.cell (p := ⟨x2, o2 + k, none⟩) hx2).trans (hat2 k hkN)
      have d1 : decide (z < 0) = false := decide_eq_false (by omega)
      have d2 : decide ((n1 : Int) ≤ z) = false := decide_eq_false (by omega)
      have d3 : ¬ (n1 : Int) ≤ z := by omega
      clear hat2 hz hz2
      obtain ⟨wv, hwv⟩ : ∃ wv, wv = wr := ⟨_, rfl⟩
      subst hwv
      go_wp2_with fail
      go_quiet (fail)
      go_wp2_with fail
      go_roundw
      case rel => exact ⟨k + 1, by omega, by go_num, Lib.hid (by first | exact HB.out | exact HB.out.trans (below_drewN _ _ _) | exact HB.out.drew), Lib.hid (hatB HG2 (by first | exact Below.refl _ _ | exact below_drewN _ _ _ | exact (Below.refl _ _).drew))⟩
      case measure => simp [intOf]; omega
    · have hge : ¬ (k : Int) < (n2 : Int) := by omega
      go_wp2_with fail
      go_ret
      exact ⟨rfl, HB.out⟩
theorem greatest_any (ad : Option Addr) (n c : Nat) (xs : List ShV) (hn : n ≤ 100000) (w : World) (hv : Shs w ad n c xs) :
    Calls Try.prog 23 #[.slice ad n c] w fun e w' => e = .returned (.int .i64 (maxZ xs)) ∧ Below w.heap.size w w' := by
  have hle := hv.le
  have hln := hv.len
  subst hln
  have HAT : Hid (∀ i (hi : i < xs.length), ∃ b off, ad = some ⟨b, off, none⟩ ∧ b < w.heap.size ∧ w.rangeAt b (off + i * 2) xs[i].cells) := Lib.hid (fun i hi => by
    obtain ⟨b, off, h1, h2, h3⟩ := hv.at (by omega)
    exact ⟨b, off, h1, h2, h3 i hi⟩)
  clear hv
  go_enter Try.func23, Try.ntmps23
  go_wp2_with fail
  go_loopw [3, 4] (fun g i wr => ∃ k : Nat, k ≤ xs.length ∧ g = .int .i64 (maxZ (xs.take k)) ∧ i = .int .i64 (k : Int) ∧ Hid (Below w.heap.size w wr)) (fun _ i _ => xs.length - (intOf i).toNat)
  case atStart => exact ⟨0, by omega, rfl, rfl, Lib.hid (Below.refl _ _)⟩
  case round =>
    obtain ⟨k, hk, rfl, rfl, HB⟩ := hrel
    by_cases hlt : k < xs.length
    · have hlt' : (k : Int) < (xs.length : Int) := by omega
      obtain ⟨b, off, rfl, hbl, hat⟩ := HAT.out k hlt
      obtain ⟨q, hq⟩ : ∃ q, q = xs[k].q := ⟨_, rfl⟩
      have cq : wr.cell? ⟨b, off + k * 2 + 1, none⟩ = some (.int .i64 q) := by rw [hq]; exact sh_q (range_below hat hbl HB.out)
      have HTK : Hid (maxZ (xs.take (k + 1)) = max (maxZ (xs.take k)) q) := Lib.hid (by rw [List.take_succ_eq_append_getElem hlt, maxZ_snoc, hq])
      clear hat hq
      by_cases hg : maxZ (xs.take k) < q
      · go_wp2_with fail
        go_roundw
        case rel => exact ⟨k + 1, by omega, by rw [HTK.out]; congr 1; omega, by go_num, HB⟩
        case measure => simp [intOf]; omega
      · go_wp2_with fail
        go_roundw
        case rel => exact ⟨k + 1, by omega, by rw [HTK.out]; congr 1; omega, by go_num, HB⟩
        case measure => simp [intOf]; omega
    · have hge : ¬ (k : Int) < (xs.length : Int) := by omega
      obtain rfl : k = xs.length := by omega
      rw [List.take_length] at *
      go_wp2_with fail
      go_ret
      exact ⟨rfl, HB.out⟩
end Go.Proofs.Ytaadpldijnegkaa
/-
  Chapter 17: the anchor: walked.
-/
namespace Go.Proofs.Ytaadpldijnegkaa
open Go.RowKit Go.Sort
set_option linter.unusedVariables false
set_option linter.unusedSimpArgs false
set_option maxRecDepth 100000
set_option maxHeartbeats 16000000

/-- '[]api.Share{x, y, ..}' -/
theorem wpL_litSh {w : World} {ops : Array Oper} {rest : List Oper} {o : Oper} {a : Act} {Q : Exit → Act → World → Prop} (hgd : o.guard = none) (n : Nat) (parts : Array (Nat × Operand)) (ho : o.op = .buildSlice 23 n parts)
    (xs : List ShV) (hl : n = xs.length) (hpos : 0 < n) (hsmall : n ≤ 1000)
    (hf : Instr.fill (fun i => some (i * 2, 2)) ((Array.range (n * 2)).map (zeroS.cells.toArray[· % zeroS.cells.toArray.size]!)) (parts.map fun (i, x) => (i, a.eval x)).toList = some (shC xs).toArray)
    (h : ∀ w1 g, w.heap.size ≤ g → g < w1.heap.size → Shs w1 (some ⟨g, 0, none⟩) n n xs → Below w.heap.size w w1 → wpList Try.prog ops Q rest (a.put o.dst (.slice (some ⟨g, 0, none⟩) n n)) w1) :
    wpList Try.prog ops Q (o :: rest) a w := by
  obtain ⟨i, hi, hz, hsize, hby⟩ := info_parts elSh.info
  refine wpList_buildSlice hgd 23 48 n parts ho (shC xs).toArray i _ elSh.ht hi hz (by rw [hsize]; omega) (by rw [hsize]; omega) (by rw [hsize]; exact hf) ?_
  have hb2 : Below w.heap.size w (w.alloc (.cells (shC xs).toArray 48)) := (Below.refl _ _).alloc (Nat.le_refl _) _
  exact h _ _ (Nat.le_refl _) (by simp) (sl_blockN (heap_alloc_last w _) (by rw [shC_length, hl]) (by unfold maxLen; omega)) hb2
def k0 : List UInt8 := List.replicate 16 0
def sA : ByteArray := ⟨#[97]⟩
def sB : ByteArray := ⟨#[98]⟩
def sC : ByteArray := ⟨#[99]⟩
def xB : ShV := ⟨⟨#[98]⟩, 5, by decide, rfl⟩
def xC : ShV := ⟨⟨#[99]⟩, 0, by decide, rfl⟩
def xA : ShV := ⟨⟨#[97]⟩, 5, by decide, rfl⟩
def yB : ShV := ⟨⟨#[98]⟩, 0, by decide, rfl⟩
theorem aw_ris : risL [xB, xC, xA] = [xA, xB] := by rfl
theorem aw_may : mayR [xB, xC, xA] := by
  refine (mayR_iff _).2 ⟨by decide, fun x hx => ?_, ?_⟩
  · simp only [List.mem_cons, List.not_mem_nil, or_false] at hx
    rcases hx with rfl | rfl | rfl <;> decide
  · unfold dis
    simp [xA, xB, xC]
theorem aw_not : ¬ mayR [yB, yB] := fun h => by
  have := ((mayR_iff _).1 h).2.2
  unfold dis at this
  simp at this
theorem aw_slots : ∃ L : List Int, slZ k0 7 [xA, xB] = L ∧ L.length = 7 ∧ cntI L 2 = [4, 3] ∧ (∀ z ∈ L, 0 ≤ z ∧ z < (2 : Int)) := by
  refine ⟨slZ k0 7 [xA, xB], rfl, ?_⟩
  have hq : ∀ x ∈ [xA, xB], 0 < x.q ∧ x.q ≤ 1024000 := fun x hx => by
    simp only [List.mem_cons, List.not_mem_nil, or_false] at hx
    rcases hx with rfl | rfl <;> decide
  have hp7 : pr 7 = true := by decide +kernel
  obtain ⟨G, hk⟩ := slZ_know (kb := k0) (n := 7) (zs := [xA, xB]) (by omega) (by omega) hp7 hq (by simp)
  have hG : G = 5 := by
    have h := hk.gz
    have e : maxZ [xA, xB] = 5 := by rfl
    rw [e] at h
    omega
  obtain ⟨N, hc⟩ := hk.cnt
  have hs := cnt_sum 2 (slZ k0 7 [xA, xB]) (fun z hz => hk.rg z hz)
  rw [hk.len] at hs
  subst hG
  have hc0 : cntOf (slZ k0 7 [xA, xB]) 0 = visN 2 0 N * 5 / 5 := hc 0 (by simp)
  have hc1 : cntOf (slZ k0 7 [xA, xB]) 1 = visN 2 1 N * 5 / 5 := hc 1 (by simp)
  rw [Nat.mul_div_cancel _ (by omega)] at hc0
  rw [Nat.mul_div_cancel _ (by omega)] at hc1
  unfold visN at hc0 hc1
  have e2 : List.range 2 = [0, 1] := rfl
  rw [e2] at hs
  simp only [List.map_cons, List.map_nil, List.sum_cons, List.sum_nil] at hs
  refine ⟨hk.len, ?_, (slZ_rg (kb := k0) (n := 7) (zs := [xA, xB]) (by omega) (by omega) hp7 hq).1⟩
  rw [cntI_cnt, e2]
  simp only [List.map_cons, List.map_nil]
  have h4 : cntOf (slZ k0 7 [xA, xB]) 0 = 4 := by omega
  have h3 : cntOf (slZ k0 7 [xA, xB]) 1 = 3 := by omega
  rw [h4, h3]
  rfl
theorem tb_info0 : (Try.prog.info? 30).map (fun i => (i.zero, i.size)) = some (some (.agg #[.slice none 0 0, .slice none 0 0]), (#[Value.slice none 0 0, Value.slice none 0 0] : Array Value).size) := tb_info
theorem awake_any (w : World) : Calls Try.prog 10 #[] w fun e w' => e = .returned (.bool true) ∧ Below w.heap.size w w' := by
  obtain ⟨L, hL, hLl, hLc, hLr⟩ := aw_slots
  have HL := Lib.hid hL
  have HLL := Lib.hid hLl
  have HLC := Lib.hid hLc
  have HLR := Lib.hid hLr
  have HB := Lib.hid (Below.refl w.heap.size w)
  have HTI : Hid (∀ x y : Value, (Try.prog.info? 30).map (fun i => (i.zero, i.size)) = some (some (.agg #[.slice none 0 0, .slice none 0 0]), (#[x, y] : Array Value).size)) := Lib.hid (fun _ _ => tb_info)
  clear hL hLl hLc hLr
  go_enter Try.func10, Try.ntmps10
  simp only [List.append_eq, List.cons_append, List.nil_append]
  go_upto_region 5 with (first
    | ((with_reducible refine sl 19 ?_); go_must (refine wpL_litSh rfl 3 _ rfl [xB, xC, xA] rfl (by omega) (by omega) (by kernel_rfl) ?_); intro w19 g19 le19 lt19 hs__ hb__; have HS19 := Lib.hid hs__; have hE__ := cU HB bup hb__; replace HB := ck HB hE__; clear hE__; clear hs__ hb__; simp only [PT])
    | ((with_reducible refine sl 37 ?_); go_must (refine wpL_litSh rfl 2 _ rfl [yB, yB] rfl (by omega) (by omega) (by kernel_rfl) ?_); intro w37 g37 le37 lt37 hs__ hb__; have HS37 := Lib.hid hs__; have hE__ := cU HB bup hb__; replace HB := ck HB hE__; replace HN1 := ck HN1 hE__; replace HS1 := ck HS1 hE__; replace HG1 := ck HG1 hE__; replace HG3 := ck HG3 hE__; replace HN2 := ck HN2 hE__; replace HS2 := ck HS2 hE__; clear hE__; clear hs__ hb__; simp only [PT])
    | (go_at_call 12; (with_reducible show Calls _ _ #[_, .int .i64 7, .slice (some ⟨_, 0, none⟩) 3 3] _ _); go_must (refine (build_at k0 rfl 7 (by omega) (by omega) (by decide +kernel) (some ⟨g19, 0, none⟩) 3 3 [xB, xC, xA] aw_may (by decide) [xA, xB] aw_ris [sA, sB] rfl 2 rfl L HL.out 7 HLL.out _ HS19.out).mono ?_); rintro e wB ⟨a1, c1, a2, c2, rfl, ho1, ho2, hb__⟩; have HN1 := Lib.hid (own_base ho1 HB.out.size); have HS1 := Lib.hid (own_base ho2 HB.out.size); have hE__ := cU HB bup hb__; replace HB := ck HB hE__; clear hE__; clear ho1 ho2 hb__ HS19)
    | (go_at_call 12; (with_reducible show Calls _ _ #[_, .int .i64 7, .slice none 0 0] _ _); go_must (refine (build_at k0 rfl 7 (by omega) (by omega) (by decide +kernel) none 0 0 [] ((mayR_iff []).2 ⟨by decide, fun x hx => (by cases hx), List.Pairwise.nil⟩) (fun x hx => (by cases hx)) [] rfl [] rfl 0 rfl [] (slZ_nil _ _) 0 rfl _ (Sl.nil _ _)).mono ?_); rintro e wC ⟨a3, c3, a4, c4, rfl, ho1, ho2, hb__⟩; have HN2 := Lib.hid (own_base ho1 HB.out.size); have HS2 := Lib.hid (own_base ho2 HB.out.size); have hE__ := cU HB bup hb__; replace HB := ck HB hE__; replace HN1 := ck HN1 hE__; replace HS1 := ck HS1 hE__; replace HG1 := ck HG1 hE__; clear hE__; clear ho1 ho2 hb__)
    | (go_at_call 12; (with_reducible show Calls _ _ #[_, .int .i64 8, _] _ _); go_must (refine (build_bad k0 rfl 8 (by omega) (by omega) none 0 0 [] (by omega) (fun x hx => (by cases hx)) (.inr (.inl (by decide +kernel))) _ (Sl.nil _ _)).mono ?_); rintro e wD ⟨rfl, hb__⟩; have hE__ := cU HB bup hb__; replace HB := ck HB hE__; replace HN1 := ck HN1 hE__; replace HS1 := ck HS1 hE__; replace HG1 := ck HG1 hE__; replace HG3 := ck HG3 hE__; replace HN2 := ck HN2 hE__; replace HS2 := ck HS2 hE__; clear hE__; clear hb__)
    | (go_at_call 12; (with_reducible show Calls _ _ #[_, .int .i64 7, .slice (some ⟨_, 0, none⟩) 2 2] _ _); go_must (refine (build_bad k0 rfl 7 (by omega) (by omega) (some ⟨g37, 0, none⟩) 2 2 [yB, yB] (by omega) (by decide) (.inr (.inr aw_not)) _ HS37.out).mono ?_); rintro e wE ⟨rfl, hb__⟩; have hE__ := cU HB bup hb__; replace HB := ck HB hE__; replace HN1 := ck HN1 hE__; replace HS1 := ck HS1 hE__; replace HG1 := ck HG1 hE__; replace HG3 := ck HG3 hE__; replace HN2 := ck HN2 hE__; replace HS2 := ck HS2 hE__; clear hE__; clear hb__)
    | ((with_reducible refine sl 1 ?_); go_must (refine wpL_newG rfl rfl 30 rfl (.tmp 1) (.tmp 21) rfl #[.slice a1 2 c1, .slice a2 7 c2] #[.slice none 0 0, .slice none 0 0] (HTI.out _ _) rfl (tb_all rfl rfl) (fun _ => rfl) (fun _ => rfl) ?_); intro wt1 g1 le_1 hg__ hb__; have HG1 := Lib.hid hg__; have hE__ := cU HB bup hb__; replace HB := ck HB hE__; replace HN1 := ck HN1 hE__; replace HS1 := ck HS1 hE__; clear hE__; clear hg__ hb__; simp only [PT])
    | ((with_reducible refine sl 3 ?_); go_must (refine wpL_newG rfl rfl 30 rfl (.tmp 3) (.tmp 26) rfl #[.slice a3 0 c3, .slice a4 0 c4] #[.slice none 0 0, .slice none 0 0] (HTI.out _ _) rfl (tb_all rfl rfl) (fun _ => rfl) (fun _ => rfl) ?_); intro wt3 g3 le_3 hg__ hb__; have HG3 := Lib.hid hg__; have hE__ := cU HB bup hb__; replace HB := ck HB hE__; replace HN1 := ck HN1 hE__; replace HS1 := ck HS1 hE__; replace HG1 := ck HG1 hE__; replace HN2 := ck HN2 hE__; replace HS2 := ck HS2 hE__; clear hE__; clear hg__ hb__; simp only [PT])
    | ((with_reducible refine sl 5 ?_); go_must (refine wpL_newG rfl rfl 30 rfl (.tmp 5) (.tmp 31) rfl #[.slice none 0 0, .slice none 0 0] #[.slice none 0 0, .slice none 0 0] (HTI.out _ _) rfl (tb_all rfl rfl) (fun _ => rfl) (fun _ => rfl) ?_); intro wt5 g5 le_5 hg__ hb__; have HG5 := Lib.hid hg__; have hE__ := cU HB bup hb__; replace HB := ck HB hE__; replace HN1 := ck HN1 hE__; replace HS1 := ck HS1 hE__; replace HG1 := ck HG1 hE__; replace HG3 := ck HG3 hE__; replace HN2 := ck HN2 hE__; replace HS2 := ck HS2 hE__; clear hE__; clear hg__ hb__; simp only [PT])
    | ((with_reducible refine sl 7 ?_); go_must (refine wpL_newG rfl rfl 30 rfl (.tmp 7) (.tmp 39) rfl #[.slice none 0 0, .slice none 0 0] #[.slice none 0 0, .slice none 0 0] (HTI.out _ _) rfl (tb_all rfl rfl) (fun _ => rfl) (fun _ => rfl) ?_); intro wt7 g7 le_7 hg__ hb__; have hE__ := cU HB bup hb__; replace HB := ck HB hE__; replace HN1 := ck HN1 hE__; replace HS1 := ck HS1 hE__; replace HG1 := ck HG1 hE__; replace HG3 := ck HG3 hE__; replace HN2 := ck HN2 hE__; replace HS2 := ck HS2 hE__; clear hE__; clear hg__ hb__; simp only [PT]))
  obtain ⟨b1, rfl⟩ := own_some HN1.out (by omega)
  obtain ⟨b2, rfl⟩ := own_some HS1.out (by omega)
  have h2l : 2 < L.length := by rw [HLL.out]; omega
  have hzr := HLR.out _ (List.getElem_mem h2l)
  obtain ⟨z, hz⟩ : ∃ z : Nat, L[2] = (z : Int) := ⟨L[2].toNat, by omega⟩
  rw [hz] at hzr
  have HZ2 : Hid ((iV L)[2]? = some (.int .i64 (z : Int))) := Lib.hid (by rw [iV_at, List.getElem?_eq_getElem h2l, hz]; rfl)
  have hzl : z < 2 := by omega
  obtain ⟨s, hs⟩ : ∃ s, s = pickN [sA, sB] L 9 := ⟨_, rfl⟩
  have HPK := Lib.hid hs.symm
  have HNZ : Hid ((stV [sA, sB])[z]? = some (.string s)) := Lib.hid (by
    have e : pickN [sA, sB] L 9 = [sA, sB].getD z ByteArray.empty := by
      unfold pickN
      rw [if_neg (by intro e; rw [e] at h2l; simp at h2l), HLL.out]
      show [sA, sB].getD (L.getD 2 0).toNat ByteArray.empty = _
      rw [List.getD_eq_getElem?_getD (l := L), List.getElem?_eq_getElem h2l, hz]
      rfl
    rw [hs, e]
    rcases (by omega : z = 0 ∨ z = 1) with rfl | rfl <;> rfl)
  have HLB : Hid (decide (0 < L.length) = true) := Lib.hid (decide_eq_true (by omega))
  have hz0 : (0 : Int) ≤ (z : Int) := by omega
  have hz1 : (z : Int) < 2 := by omega
  clear hzr hz hs h2l
  go_wp2_with (first
    | ((with_reducible refine sl 45 ?_); go_must (refine wpL_loadF rfl 27 (.tmp 44) rfl g1 0 rfl (.slice (some ⟨b1, 0, none⟩) 2 c1) (hatB HG1 bup) rfl Try.underlying27 rfl ?_); simp only [PT])
    | ((with_reducible refine sl 51 ?_); go_must (refine wpL_loadF rfl 28 (.tmp 50) rfl g1 1 rfl (.slice (some ⟨b2, 0, none⟩) 7 c2) (hatB HG1 bup) rfl Try.underlying28 rfl ?_); simp only [PT])
    | ((with_reducible refine sl 57 ?_); go_must (refine wpL_loadF rfl 27 (.tmp 56) rfl g1 0 rfl (.slice (some ⟨b1, 0, none⟩) 2 c1) (hatB HG1 bup) rfl Try.underlying27 rfl ?_); simp only [PT])
    | ((with_reducible refine sl 59 ?_); go_must (refine wpL_loadC rfl 9 (.tmp 58) rfl b1 0 rfl (.string ⟨#[97]⟩) ((own_keep HN1.out bup).cellAt 0 (by omega)) Try.underlying9 rfl ?_); simp only [PT])
    | ((with_reducible refine sl 62 ?_); go_must (refine wpL_load rfl 30 (.tmp 1) rfl g1 0 rfl [.slice (some ⟨b1, 0, none⟩) 2 c1, .slice (some ⟨b2, 0, none⟩) 7 c2] _ (range_block (hatB HG1 bup)) Try.underlying30 rfl tb_size ?_); simp only [PT])
    | (go_at_call 22; go_must (refine (count_any (some ⟨b1, 0, none⟩) 2 c1 (some ⟨b2, 0, none⟩) 7 c2 L (by omega) (by omega) HLR.out _ (Sl.of_own (own_keep HS1.out bup))).mono ?_); rintro e wN ⟨⟨gN, rfl, ho__⟩, hb__⟩; rw [HLC.out] at ho__; have HCN := Lib.hid ho__; have hE__ := cU HB bup hb__; replace HB := ck HB hE__; replace HN1 := ck HN1 hE__; replace HS1 := ck HS1 hE__; replace HG1 := ck HG1 hE__; replace HG3 := ck HG3 hE__; replace HN2 := ck HN2 hE__; replace HS2 := ck HS2 hE__; clear hE__; clear ho__ hb__)
    | ((with_reducible refine sl 65 ?_); go_must (refine wpL_load rfl 30 (.tmp 1) rfl g1 0 rfl [.slice (some ⟨b1, 0, none⟩) 2 c1, .slice (some ⟨b2, 0, none⟩) 7 c2] _ (range_block (hatB HG1 bup)) Try.underlying30 rfl tb_size ?_); simp only [PT])
    | (go_at_call 17; (with_reducible show Calls _ _ #[.agg #[.slice _ 2 _, _], _] _ _); go_must (refine (pick_any (some ⟨b1, 0, none⟩) 2 c1 (some ⟨b2, 0, none⟩) 7 c2 [sA, sB] L HLR.out (by omega) 9 (by omega) _ (Sl.of_own (own_keep HN1.out bup)) (Sl.of_own (own_keep HS1.out bup))).mono ?_); rw [HPK.out, HLB.out]; rintro e wP ⟨rfl, hb__⟩; have hE__ := cU HB bup hb__; replace HB := ck HB hE__; replace HN1 := ck HN1 hE__; replace HS1 := ck HS1 hE__; replace HG1 := ck HG1 hE__; replace HG3 := ck HG3 hE__; replace HN2 := ck HN2 hE__; replace HS2 := ck HS2 hE__; replace HCN := ck HCN hE__; clear hE__; clear hb__)
    | ((with_reducible refine sl 70 ?_); go_must (refine wpL_load rfl 30 (.tmp 3) rfl g3 0 rfl [.slice a3 0 c3, .slice a4 0 c4] _ (range_block (hatB HG3 bup)) Try.underlying30 rfl tb_size ?_); simp only [PT])
    | (go_at_call 17; (with_reducible show Calls _ _ #[.agg #[.slice _ 0 _, _], _] _ _); go_must (refine (pick_any a3 0 c3 a4 0 c4 [] [] (fun z hz => (by cases hz)) (by omega) 9 (by omega) _ (Sl.of_own (own_keep HN2.out bup)) (Sl.of_own (own_keep HS2.out bup))).mono ?_); rintro e wQ ⟨rfl, hb__⟩; have hE__ := cU HB bup hb__; replace HB := ck HB hE__; replace HN1 := ck HN1 hE__; replace HS1 := ck HS1 hE__; replace HG1 := ck HG1 hE__; replace HG3 := ck HG3 hE__; replace HCN := ck HCN hE__; clear hE__; clear hb__))
  have q1 : wQ.cell? ⟨g3, 1, none⟩ = some (.slice a4 0 c4) := cellV HG3.out rfl
  have q2 : wQ.cell? ⟨gN, 0, none⟩ = some (.int .i64 4) := HCN.out.cellAt 0 (by omega)
  have q3 : wQ.cell? ⟨gN, 1, none⟩ = some (.int .i64 3) := HCN.out.cellAt 1 (by omega)
  have q4 : wQ.cell? ⟨g1, 1, none⟩ = some (.slice (some ⟨b2, 0, none⟩) 7 c2) := cellV HG1.out rfl
  have q5 : wQ.cell? ⟨b2, 2, none⟩ = some (.int .i64 (z : Int)) := (HS1.out.cellAt 2 (by omega)).trans HZ2.out
  have q6 : wQ.cell? ⟨g1, 0, none⟩ = some (.slice (some ⟨b1, 0, none⟩) 2 c1) := cellV HG1.out rfl
  have q7 : wQ.cell? ⟨b1, z, none⟩ = some (.string s) := (HN1.out.cellAt z (by omega)).trans HNZ.out
  go_quiet (fail)
  go_wp2_with fail
  go_ret
  exact ⟨rfl, by first | exact HB.out | exact HB.out.trans (below_drewN _ _ _) | exact HB.out.drew⟩
end Go.Proofs.Ytaadpldijnegkaa
/-
  Chapter 17: MaglevLarge: walked.
-/
namespace Go.Proofs.Ytaadpldijnegkaa
open Go.RowKit Go.Sort
set_option linter.unusedVariables false
set_option linter.unusedSimpArgs false
set_option maxRecDepth 100000
set_option maxHeartbeats 16000000

theorem mayR_nil : mayR [] := (mayR_iff []).2 ⟨by decide, fun x hx => (by cases hx), List.Pairwise.nil⟩
theorem large17_walk (n : Int) (h0 : 0 ≤ n) (h1 : n ≤ 4294967295) (w : World) :
    Calls Try.prog 4 #[.int .u32 n] w fun e w' => e = .returned (.bool true) ∧ Below w.heap.size w w' := by
  have HB := Lib.hid (Below.refl w.heap.size w)
  have HTI : Hid (∀ x y : Value, (Try.prog.info? 30).map (fun i => (i.zero, i.size)) = some (some (.agg #[.slice none 0 0, .slice none 0 0]), (#[x, y] : Array Value).size)) := Lib.hid (fun _ _ => tb_info)
  have hw1 : IntKind.i64.wrap n = n := by rw [IntKind.wrap_i64]; omega
  have hw2 : IntKind.i64.wrap (65538 + n) = 65538 + n := by rw [IntKind.wrap_i64]; omega
  have hw3 : IntKind.i64.wrap (-n) = -n := by rw [IntKind.wrap_i64]; omega
  go_enter Try.func4, Try.ntmps4
  go_wp2_with (first
    | (go_at_call 10; go_must (refine (awake_any _).mono ?_); rintro e w2 ⟨rfl, hb__⟩; have hE__ := cU HB bup hb__; replace HB := ck HB hE__; clear hE__; clear hb__)
    | (go_at_call 12; (with_reducible show Calls _ _ #[_, .int .i64 (65538 + n), _] _ _); go_must (refine (build_bad k0 rfl (65538 + n) (by omega) (by omega) none 0 0 [] (by omega) (fun x hx => (by cases hx)) (.inl (by omega)) _ (Sl.nil _ _)).mono ?_); rintro e w3 ⟨rfl, hb__⟩; have hE__ := cU HB bup hb__; replace HB := ck HB hE__; clear hE__; clear hb__)
    | (go_at_call 12; (with_reducible show Calls _ _ #[_, .int .i64 (-n), _] _ _); go_must (refine (build_bad k0 rfl (-n) (by omega) (by omega) none 0 0 [] (by omega) (fun x hx => (by cases hx)) (.inr (.inl (pr_small (by omega)))) _ (Sl.nil _ _)).mono ?_); rintro e w3 ⟨rfl, hb__⟩; have hE__ := cU HB bup hb__; replace HB := ck HB hE__; clear hE__; clear hb__)
    | (go_at_call 12; (with_reducible show Calls _ _ #[_, .int .i64 65537, _] _ _); go_must (refine (build_at k0 rfl 65537 (by omega) (by omega) pr65537 none 0 0 [] mayR_nil (fun x hx => (by cases hx)) [] rfl [] rfl 0 rfl [] (slZ_nil _ _) 0 rfl _ (Sl.nil _ _)).mono ?_); rintro e w5 ⟨a3, c3, a4, c4, rfl, ho1, ho2, hb__⟩; have hE__ := cU HB bup hb__; replace HB := ck HB hE__; clear hE__; clear ho1 ho2 hb__)
    | ((with_reducible refine sl 3 ?_); go_must (refine wpL_newG rfl rfl 30 rfl (.tmp 3) (.tmp 17) rfl #[.slice none 0 0, .slice none 0 0] #[.slice none 0 0, .slice none 0 0] (HTI.out _ _) rfl (tb_all rfl rfl) (fun _ => rfl) (fun _ => rfl) ?_); intro wt3 g3 le_3 hg__ hb__; have hE__ := cU HB bup hb__; replace HB := ck HB hE__; clear hE__; clear hg__ hb__; simp only [PT])
    | ((with_reducible refine sl 5 ?_); go_must (refine wpL_newG rfl rfl 30 rfl (.tmp 5) (.tmp 25) rfl #[.slice none 0 0, .slice none 0 0] #[.slice none 0 0, .slice none 0 0] (HTI.out _ _) rfl (tb_all rfl rfl) (fun _ => rfl) (fun _ => rfl) ?_); intro wt5 g5 le_5 hg__ hb__; have hE__ := cU HB bup hb__; replace HB := ck HB hE__; clear hE__; clear hg__ hb__; simp only [PT])
    | ((with_reducible refine sl 7 ?_); go_must (refine wpL_newG rfl rfl 30 rfl (.tmp 7) (.tmp 30) rfl #[.slice a3 0 c3, .slice a4 0 c4] #[.slice none 0 0, .slice none 0 0] (HTI.out _ _) rfl (tb_all rfl rfl) (fun _ => rfl) (fun _ => rfl) ?_); intro wt7 g7 le_7 hg__ hb__; have hE__ := cU HB bup hb__; replace HB := ck HB hE__; clear hE__; clear hg__ hb__; simp only [PT]))
  go_ret
  exact ⟨rfl, HB.out⟩
end Go.Proofs.Ytaadpldijnegkaa
