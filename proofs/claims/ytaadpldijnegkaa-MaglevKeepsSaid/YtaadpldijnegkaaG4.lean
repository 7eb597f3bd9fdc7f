/-
  Joined by program (merge.py): Mg5, PlainMag, PlainFil, Mg6, Mg3, Mg9, Mg10, Mg11, Mg12.
-/
import Derived.Deep.DeepCutAuto
import Derived.Shelf.SlSortCmp.NoneTotal
import Derived.Shelf.Lay
import Derived.Ground.SlsfProg
import Derived.BigQuiet
import Derived.Test.YtaadpldijnegkaaG2
import Derived.Test.YtaadpldijnegkaaG3
/-
  Chapter 17: take: walked (written by gen/mg5.py).
-/
namespace Go.Proofs.Ytaadpldijnegkaa
open Go.RowKit Go.Sort
set_option linter.unusedVariables false
set_option linter.unusedSimpArgs false
set_option maxRecDepth 100000
set_option maxHeartbeats 8000000

def TurnV.at (t : TurnV) (k : Nat) : TurnV := { t with next := k }
theorem fil_at {ts : List TurnV} {i : Nat} (hi : i < ts.length) (t : TurnV) (k : Nat) : (ts.set i (t.at k))[i]'(by rw [List.length_set]; exact hi) = t.at k := List.getElem_set_self _
theorem Below.cellH {v a : World} {x : Addr} {u : Value} (h : Hid (v.cell? x = some u)) (hb : Below v.heap.size v a) : a.cell? x = some u :=
  (hb.cell (World.block_lt_of_cell? v _ h.out)).trans h.out
theorem take_any (bt gt ct bs gs cs : Nat) (ts : List TurnV) (sl : List Int) (i : Nat) (hi : i < ts.length) (t : TurnV) (ht : ts[i] = t) (name : Nat) (kf : Nat) (hsz : 0 < sl.length ∧ sl.length < 65538) (ho : t.off < 65538) (hs : t.skip < 65538) (hkf : kf < 65538)
    (hn : t.next ≤ kf) (hfree : sl[choiceN t.off t.skip sl.length kf]? = some (-1)) (hpre : ∀ j, t.next ≤ j → j < kf → sl[choiceN t.off t.skip sl.length j]? ≠ some (-1)) (hall : ∀ j, choiceN t.off t.skip sl.length j < sl.length) (w : World) (h : Fil w bt gt ct bs gs cs ts sl) :
    Calls Try.prog 41 #[.pointer (some ⟨gt, i * 5, none⟩), .slice (some ⟨gs, 0, none⟩) sl.length cs, .int .i64 (name : Int)] w fun e w' => e = .returned (.tuple #[]) ∧ Fil w' bt gt ct bs gs cs (ts.set i (t.at (kf + 1))) (sl.set (choiceN t.off t.skip sl.length kf) (name : Int)) ∧ But gt gs w w' := by
  have HFI := Lib.hid h
  have HFR := Lib.hid hfree
  have HPR := Lib.hid hpre
  have HAL := Lib.hid hall
  have HTE : Hid (ts.set i (t.at t.next) = ts) := Lib.hid (by rw [← ht]; exact List.set_getElem_self hi)
  have HBT := Lib.hid (But.of_below (p := gt) (q := gs) (Below.refl w.heap.size w))
  obtain ⟨n, hn'⟩ : ∃ n, n = sl.length := ⟨_, rfl⟩
  rw [← hn'] at hsz HFR HPR HAL ⊢
  have HN := Lib.hid hn'
  obtain ⟨A, hA⟩ : ∃ A, A = t.off := ⟨_, rfl⟩
  obtain ⟨B, hB⟩ : ∃ B, B = t.skip := ⟨_, rfl⟩
  rw [← hA, ← hB] at HFR HPR HAL ⊢
  rw [← hA] at ho
  rw [← hB] at hs
  have HA := Lib.hid hA
  have HBB := Lib.hid hB
  clear h hfree hpre hall ht hn' hA hB
  go_enter Try.func41, Try.ntmps41
  go_wp2_with fail
  go_loopg [6] (kf + 1 - t.next) (fun k at0 wr => ∃ j : Nat, k = kf + 1 - j ∧ t.next ≤ j ∧ j ≤ kf ∧ Hid (Fil wr bt gt ct bs gs cs (ts.set i (t.at j)) sl) ∧ Hid (But gt gs w wr))
  case atStart => exact ⟨t.next, rfl, Nat.le_refl _, hn, by rw [HTE.out]; exact HFI, HBT⟩
  case round =>
    clear HFI HBT
    obtain ⟨j, rfl, hj1, hj, HFI, HBT⟩ := hrel
    have hiL : i < (ts.set i (t.at j)).length := by rw [List.length_set]; exact hi
    have HC2 := Lib.hid (HFI.out.tc hiL (j := 2) (by omega) (v := .int .i64 (A : Int)) (by rw [fil_at hi, HA.out]; rfl))
    have HC3 := Lib.hid (HFI.out.tc hiL (j := 3) (by omega) (v := .int .i64 (B : Int)) (by rw [fil_at hi, HBB.out]; rfl))
    have HC4 := Lib.hid (HFI.out.tc hiL (j := 4) (by omega) (v := .int .i64 (j : Int)) (by rw [fil_at hi]; rfl))
    obtain ⟨X, hX⟩ : ∃ X, X = choiceN A B n j := ⟨_, rfl⟩
    have HX := Lib.hid hX
    have hXn : X < n := by rw [hX]; exact HAL.out j
    clear hX
    have HB := Lib.hid (Below.refl wr.heap.size wr)
    have h65 : j < 65538 := by omega
    go_wp2_with fail
    refine wp_region_held_drew (S := fun u__ => u__.cell? ⟨gt, i * 5 + 2, none⟩ = some (.int .i64 (A : Int)) ∧ u__.cell? ⟨gt, i * 5 + 3, none⟩ = some (.int .i64 (B : Int)) ∧ u__.cell? ⟨gt, i * 5 + 4, none⟩ = some (.int .i64 (j : Int))) (by kernel_rfl) ?_ (fun hHeld => ?_)
    focus (exact ⟨Below.cellH HC2 (HB.out.trans (Below.mono bup HB.out.size)), Below.cellH HC3 (HB.out.trans (Below.mono bup HB.out.size)), Below.cellH HC4 (HB.out.trans (Below.mono bup HB.out.size))⟩)
    refine tk 0 (oi := ⟨some 7, _, _, _, _, _⟩) (v := ?_) rfl (by kernel_rfl) (.inl ⟨by rfl, ?_⟩) hHeld ?_; rotate_left; focus (intro w hSw; (try dsimp only at hSw); go_simp; try with_reducible rfl)
    simp only [PT]
    refine tk 1 (oi := ⟨some 8, _, _, _, _, _⟩) (v := ?_) rfl (by kernel_rfl) (.inl ⟨by rfl, ?_⟩) hHeld ?_; rotate_left; focus (intro w hSw; (try dsimp only at hSw); go_simp; try with_reducible rfl)
    simp only [PT]
    refine tk 2 (oi := ⟨some 9, _, _, _, _, _⟩) (v := ?_) rfl (by kernel_rfl) (.inl ⟨by rfl, ?_⟩) hHeld ?_; rotate_left; focus (intro w hSw; (try dsimp only at hSw); go_simp; try with_reducible rfl)
    simp only [PT]
    refine' tk 3 (oi := ⟨some 10, _, _, _, _, _⟩) (v := _) rfl (by kernel_rfl) (yields_loadC (by rfl) 3 (.tmp 9) rfl gt (i * 5 + 2) rfl (.int .i64 (A : Int)) (fun _ h => h.1) Try.underlying3 rfl) hHeld ?_
    simp only [PT]
    refine tk 4 (oi := ⟨some 11, _, _, _, _, _⟩) (v := ?_) rfl (by kernel_rfl) (.inl ⟨by rfl, ?_⟩) hHeld ?_; rotate_left; focus (intro w hSw; (try dsimp only at hSw); go_simp; try with_reducible rfl)
    simp only [PT]
    refine tk 5 (oi := ⟨some 12, _, _, _, _, _⟩) (v := ?_) rfl (by kernel_rfl) (.inl ⟨by rfl, ?_⟩) hHeld ?_; rotate_left; focus (intro w hSw; (try dsimp only at hSw); go_simp; try with_reducible rfl)
    simp only [PT]
    refine tk 6 (oi := ⟨some 13, _, _, _, _, _⟩) (v := ?_) rfl (by kernel_rfl) (.inl ⟨by rfl, ?_⟩) hHeld ?_; rotate_left; focus (intro w hSw; (try dsimp only at hSw); go_simp; try with_reducible rfl)
    simp only [PT]
    refine' tk 7 (oi := ⟨some 14, _, _, _, _, _⟩) (v := _) rfl (by kernel_rfl) (yields_loadC (by rfl) 3 (.tmp 13) rfl gt (i * 5 + 3) rfl (.int .i64 (B : Int)) (fun _ h => h.2.1) Try.underlying3 rfl) hHeld ?_
    simp only [PT]
    refine tk 8 (oi := ⟨some 15, _, _, _, _, _⟩) (v := ?_) rfl (by kernel_rfl) (.inl ⟨by rfl, ?_⟩) hHeld ?_; rotate_left; focus (intro w hSw; (try dsimp only at hSw); go_simp; try with_reducible rfl)
    simp only [PT]
    refine tk 9 (oi := ⟨some 16, _, _, _, _, _⟩) (v := ?_) rfl (by kernel_rfl) (.inl ⟨by rfl, ?_⟩) hHeld ?_; rotate_left; focus (intro w hSw; (try dsimp only at hSw); go_simp; try with_reducible rfl)
    simp only [PT]
    refine tk 10 (oi := ⟨some 17, _, _, _, _, _⟩) (v := ?_) rfl (by kernel_rfl) (.inl ⟨by rfl, ?_⟩) hHeld ?_; rotate_left; focus (intro w hSw; (try dsimp only at hSw); go_simp; try with_reducible rfl)
    simp only [PT]
    refine tk 11 (oi := ⟨some 18, _, _, _, _, _⟩) (v := ?_) rfl (by kernel_rfl) (.inl ⟨by rfl, ?_⟩) hHeld ?_; rotate_left; focus (intro w hSw; (try dsimp only at hSw); go_simp; try with_reducible rfl)
    simp only [PT]
    refine tk 12 (oi := ⟨some 19, _, _, _, _, _⟩) (v := ?_) rfl (by kernel_rfl) (.inl ⟨by rfl, ?_⟩) hHeld ?_; rotate_left; focus (intro w hSw; (try dsimp only at hSw); go_simp; try with_reducible rfl)
    simp only [PT]
    refine' tk 13 (oi := ⟨some 20, _, _, _, _, _⟩) (v := _) rfl (by kernel_rfl) (yields_loadC (by rfl) 3 (.tmp 19) rfl gt (i * 5 + 4) rfl (.int .i64 (j : Int)) (fun _ h => h.2.2) Try.underlying3 rfl) hHeld ?_
    simp only [PT]
    refine wpAnyH_ready (rs := [14]) (by kernel_rfl) (by simp) ?_
    refine (AllReadyH.cons (o := ⟨some 21, _, _, _, _, _⟩) rfl (fun K hK => ?_) AllReadyH.nil)
    focus (go_simp; go_must (refine (choice_any A B n j _ ho hs hsz.1 hsz.2 (by omega)).mono ?_); rintro e w' ⟨he, rfl⟩; rw [← HX.out] at he; subst he; go_wp2_with fail)
    refine hK.out _ _ ?_ (fun hHeld => ?_)
    focus (exact ⟨Below.cellH HC2 (HB.out.trans (Below.mono bup HB.out.size)), Below.cellH HC3 (HB.out.trans (Below.mono bup HB.out.size)), Below.cellH HC4 (HB.out.trans (Below.mono bup HB.out.size))⟩)
    clear hK K
    try simp only [PT]
    refine tk 15 (oi := ⟨some 6, _, _, _, _, _⟩) (v := ?_) rfl (by kernel_rfl) (.inl ⟨by rfl, ?_⟩) hHeld ?_; rotate_left; focus (intro w hSw; (try dsimp only at hSw); go_simp; try with_reducible rfl)
    simp only [PT]
    refine wpAnyH_done (by kernel_rfl) ?_ _
    clear hHeld
    by_cases hjk : j = kf
    · subst hjk
      have HV : Hid (sl[X]? = some (-1)) := Lib.hid (by rw [HX.out]; exact HFR.out)
      go_wp2_with (first
        | ((with_reducible refine sl 25 ?_); go_must (refine wpL_loadC rfl 3 (.tmp 24) rfl gt (i * 5 + 4) rfl (.int .i64 (j : Int)) (Below.cellH HC4 (HB.out.trans (Below.mono bup HB.out.size))) Try.underlying3 rfl ?_); simp only [PT])
        | ((with_reducible show wpList _ _ _ (⟨none, .store _ (.tmp 28) (.tmp 26), _, _, _, _⟩ :: _) _ _); go_must (refine wpL_storeTu rfl (.tmp 28) (.tmp 26) rfl (HFI.out.keep (HB.out.trans (Below.mono bup HB.out.size))) i 4 hiL (by omega) ((j : Int) + 1) (t.at (j + 1)) (by rw [fil_at hi]; rfl) rfl rfl ?_); intro w1 hf hg; rw [List.set_set] at hf; go_must (have HBTn := Lib.hid ((HBT.out.trans (But.of_below (HB.out.trans (Below.mono bup HB.out.size)))).trans (But.of_p hg))); clear HFI HBT HB HC2 HC3 HC4; have HFI := Lib.hid hf; have HBT := HBTn; have HB := Lib.hid (Below.refl w1.heap.size w1); clear hf hg HBTn; go_must (have hcs := HFI.out.sc HV.out); simp only [PT])
        | ((with_reducible show wpList _ _ _ (⟨none, .store _ (.tmp 37) (.tmp 36), _, _, _, _⟩ :: _) _ _); go_must (refine wpL_storeSl rfl (.tmp 37) (.tmp 36) rfl HFI.out X (by rw [← HN.out]; exact hXn) (name : Int) rfl rfl ?_); intro w2 hf hg; go_must (have HBTn := Lib.hid (HBT.out.trans (But.of_q hg))); clear HFI HBT; have HFI := Lib.hid hf; have HBT := HBTn; clear hf hg HBTn; simp only [PT]))
      refine bodyPost_ret (results_none rfl _ _ _) rfl ?_
      exact ⟨rfl, by rw [← HX.out]; exact HFI.out, HBT.out⟩
    · have hv0 : sl[X]? ≠ some (-1) := by rw [HX.out]; exact HPR.out j hj1 (by omega)
      obtain ⟨v, hv⟩ : ∃ v, sl[X]? = some v := ⟨_, List.getElem?_eq_getElem (by rw [← HN.out]; exact hXn)⟩
      have HV := Lib.hid hv
      have hv1 : ¬ v = -1 := fun e => hv0 (by rw [hv, e])
      have hv2 : (v == -1) = false := by simp [hv1]
      clear hv hv0
      go_wp2_with (first
        | ((with_reducible refine sl 25 ?_); go_must (refine wpL_loadC rfl 3 (.tmp 24) rfl gt (i * 5 + 4) rfl (.int .i64 (j : Int)) (Below.cellH HC4 (HB.out.trans (Below.mono bup HB.out.size))) Try.underlying3 rfl ?_); simp only [PT])
        | ((with_reducible show wpList _ _ _ (⟨none, .store _ (.tmp 28) (.tmp 26), _, _, _, _⟩ :: _) _ _); go_must (refine wpL_storeTu rfl (.tmp 28) (.tmp 26) rfl (HFI.out.keep (HB.out.trans (Below.mono bup HB.out.size))) i 4 hiL (by omega) ((j : Int) + 1) (t.at (j + 1)) (by rw [fil_at hi]; rfl) rfl rfl ?_); intro w1 hf hg; rw [List.set_set] at hf; go_must (have HBTn := Lib.hid ((HBT.out.trans (But.of_below (HB.out.trans (Below.mono bup HB.out.size)))).trans (But.of_p hg))); clear HFI HBT HB HC2 HC3 HC4; have HFI := Lib.hid hf; have HBT := HBTn; have HB := Lib.hid (Below.refl w1.heap.size w1); clear hf hg HBTn; go_must (have hcs := HFI.out.sc HV.out); simp only [PT]))
      go_roundg (kf + 1 - (j + 1))
      case measure => omega
      case rel => exact ⟨j + 1, rfl, by omega, by omega, HFI, HBT⟩
end Go.Proofs.Ytaadpldijnegkaa
/-
  Plain laws of chapter 17: the turns of a table's names.
-/
namespace Go.Proofs.Ytaadpldijnegkaa
open Go.RowKit Go.Sort
set_option linter.unusedVariables false
set_option linter.unusedSimpArgs false

/-- how often name i has been visited, of m names, when n visits are over (visit v is of name v % m) -/
def visN (m i n : Nat) : Nat := (n + m - 1 - i) / m
/-- how many slots it has: what its quanta allow -/
def cntN (G q m i n : Nat) : Nat := visN m i n * q / G
theorem visN_zero {m i : Nat} (hi : i < m) : visN m i 0 = 0 := by
  unfold visN
  exact Nat.div_eq_of_lt (by omega)
theorem visN_same {m i n : Nat} (hi : i < m) (h : n % m = i) : visN m i (n + 1) = visN m i n + 1 := by
  unfold visN
  have hm : 0 < m := by omega
  have e := Nat.div_add_mod n m
  rw [h] at e
  have e1 : n + 1 + m - 1 - i = m * (n / m) + m := by omega
  have e2 : n + m - 1 - i = m * (n / m) + (m - 1) := by omega
  rw [e1, e2, Nat.mul_add_div hm, Nat.mul_add_div hm, Nat.div_self hm, Nat.div_eq_of_lt (show m - 1 < m by omega)]
theorem visN_other {m i n : Nat} (hi : i < m) (h : n % m ≠ i) : visN m i (n + 1) = visN m i n := by
  unfold visN
  have hm : 0 < m := by omega
  have e := Nat.div_add_mod n m
  have hlt := Nat.mod_lt n hm
  by_cases hl : i < n % m
  · have e1 : n + 1 + m - 1 - i = m * (n / m) + m + (n % m - i) := by omega
    have e2 : n + m - 1 - i = m * (n / m) + m + (n % m - i - 1) := by omega
    rw [e1, e2, Nat.add_assoc, Nat.add_assoc, Nat.mul_add_div hm, Nat.mul_add_div hm]
    congr 1
    rw [Nat.add_div_left _ hm, Nat.add_div_left _ hm, Nat.div_eq_of_lt (show n % m - i < m by omega), Nat.div_eq_of_lt (show n % m - i - 1 < m by omega)]
  · have e1 : n + 1 + m - 1 - i = m * (n / m) + (m - (i - n % m)) := by omega
    have e2 : n + m - 1 - i = m * (n / m) + (m - (i - n % m) - 1) := by omega
    rw [e1, e2, Nat.mul_add_div hm, Nat.mul_add_div hm]
    congr 1
    rw [Nat.div_eq_of_lt (show m - (i - n % m) < m by omega), Nat.div_eq_of_lt (show m - (i - n % m) - 1 < m by omega)]
/-- the credit behind a visit: one step of the division -/
theorem cnt_step {G q v : Nat} (hG : 0 < G) (hq : q ≤ G) : (v + 1) * q / G = v * q / G + if G ≤ v * q % G + q then 1 else 0 := by
  have e := Nat.div_add_mod (v * q) G
  have hlt := Nat.mod_lt (v * q) hG
  generalize v * q / G = D at *
  generalize v * q % G = R at *
  have e2 : (v + 1) * q = G * D + (R + q) := by rw [Nat.add_mul, ← e]; omega
  rw [e2, Nat.mul_add_div hG]
  congr 1
  split
  · rw [show R + q = G + (R + q - G) by omega, Nat.add_div_left _ hG, Nat.div_eq_of_lt (show R + q - G < G by omega)]
  · exact Nat.div_eq_of_lt (by omega)
theorem rem_step {G q v : Nat} (hG : 0 < G) (hq : q ≤ G) : (v + 1) * q % G = if G ≤ v * q % G + q then v * q % G + q - G else v * q % G + q := by
  have e := Nat.div_add_mod (v * q) G
  have hlt := Nat.mod_lt (v * q) hG
  generalize v * q / G = D at *
  generalize v * q % G = R at *
  have e2 : (v + 1) * q = G * D + (R + q) := by rw [Nat.add_mul, ← e]; omega
  rw [e2, Nat.mul_add_mod]
  split
  · have e3 : (R + q) % G = (R + q - G) % G := Nat.mod_eq_sub_mod (by omega)
    rw [e3, Nat.mod_eq_of_lt (show R + q - G < G by omega)]
  · exact Nat.mod_eq_of_lt (by omega)
end Go.Proofs.Ytaadpldijnegkaa
/-
  Plain laws of chapter 17: how slots are filled, visit by visit.
-/
namespace Go.Proofs.Ytaadpldijnegkaa
open Go.RowKit Go.Sort
set_option linter.unusedVariables false
set_option linter.unusedSimpArgs false

theorem pig_le : ∀ (n : Nat) (l : List Nat), l.Nodup → (∀ x ∈ l, x < n) → l.length ≤ n
  | 0, l, _, h => by
    cases l with
    | nil => simp
    | cons a l => exact absurd (h a List.mem_cons_self) (by omega)
  | n + 1, l, hd, h => by
    by_cases hm : n ∈ l
    · have h1 := pig_le n (l.erase n) (hd.erase n) (fun x hx => by
        have := (hd.mem_erase_iff).1 hx
        have := h x this.2
        omega)
      rw [List.length_erase_of_mem hm] at h1
      omega
    · have h1 := pig_le n l hd (fun x hx => by
        have := h x hx
        have : x ≠ n := fun e => hm (e ▸ hx)
        omega)
      omega
theorem pig : ∀ (n : Nat) (l : List Nat), l.Nodup → (∀ x ∈ l, x < n) → l.length = n → ∀ p, p < n → p ∈ l
  | 0, _, _, _, _, p, hp => by omega
  | n + 1, l, hd, h, hl, p, hp => by
    by_cases hm : n ∈ l
    · by_cases e : p = n
      · exact e ▸ hm
      · exact List.mem_of_mem_erase (pig n (l.erase n) (hd.erase n) (fun x hx => by
          have := (hd.mem_erase_iff).1 hx
          have := h x this.2
          omega) (by rw [List.length_erase_of_mem hm]; omega) p (by omega))
    · have h1 := pig_le n l hd (fun x hx => by
        have := h x hx
        have : x ≠ n := fun e => hm (e ▸ hx)
        omega)
      omega
/-- an order of preference: each place once -/
structure Ord (n : Nat) (f : Nat → Nat) : Prop where
  lt : ∀ k, f k < n
  inj : ∀ i j, i < j → j < n → f i ≠ f j
theorem Ord.surj {n : Nat} {f : Nat → Nat} (h : Ord n f) {p : Nat} (hp : p < n) : ∃ k, k < n ∧ f k = p := by
  have hm := pig n ((List.range n).map f) (by
    unfold List.Nodup
    rw [List.pairwise_map, List.pairwise_iff_getElem]
    intro i j hi hj hij
    simp only [List.length_range] at hi hj
    simp only [List.getElem_range]
    exact h.inj i j hij hj) (fun x hx => by
    obtain ⟨k, _, rfl⟩ := List.mem_map.1 hx
    exact h.lt k) (by simp) p hp
  obtain ⟨k, hk, e⟩ := List.mem_map.1 hm
  exact ⟨k, List.mem_range.1 hk, e⟩
/-- the first free choice -/
def ffree (f : Nat → Nat) (sl : List Int) (n : Nat) : Nat := ((List.range n).find? (fun k => decide (sl[f k]? = some (-1)))).getD 0
theorem ffree_spec {f : Nat → Nat} {sl : List Int} {n : Nat} (h : ∃ k, k < n ∧ sl[f k]? = some (-1)) : ffree f sl n < n ∧ sl[f (ffree f sl n)]? = some (-1) ∧ ∀ j, j < ffree f sl n → sl[f j]? ≠ some (-1) := by
  unfold ffree
  cases hf : (List.range n).find? (fun k => decide (sl[f k]? = some (-1))) with
  | none =>
    obtain ⟨k, hk, e⟩ := h
    have := List.find?_eq_none.1 hf k (List.mem_range.2 hk)
    simp [e] at this
  | some m =>
    obtain ⟨h1, i, hi, he, h2⟩ := List.find?_eq_some_iff_getElem.1 hf
    simp only [List.length_range] at hi
    simp only [List.getElem_range] at he
    subst he
    refine ⟨hi, by simpa using h1, fun j hj e => ?_⟩
    have := h2 j hj
    simp [e] at this
structure Stt where
  cr : List Nat
  sl : List Int
  left : Nat
/-- one visit of name i -/
def stepS (G n : Nat) (qs : List Nat) (ch : Nat → Nat → Nat) (i : Nat) (s : Stt) : Stt :=
  if s.cr.getD i 0 + qs.getD i 0 < G then ⟨s.cr.set i (s.cr.getD i 0 + qs.getD i 0), s.sl, s.left⟩
  else ⟨s.cr.set i (s.cr.getD i 0 + qs.getD i 0 - G), s.sl.set (ch i (ffree (ch i) s.sl n)) (i : Int), s.left - 1⟩
def runS (G n m : Nat) (qs : List Nat) (ch : Nat → Nat → Nat) : Nat → Stt
  | 0 => ⟨List.replicate m 0, List.replicate n (-1), n⟩
  | v + 1 => stepS G n qs ch (v % m) (runS G n m qs ch v)
/-- how many are free -/
def frees (sl : List Int) : Nat := (sl.filter (fun z => decide (z = -1))).length
theorem frees_set : ∀ (sl : List Int) (p : Nat) (z : Int), sl[p]? = some (-1) → z ≠ -1 → frees (sl.set p z) + 1 = frees sl
  | [], p, z, h, _ => by simp at h
  | a :: l, 0, z, h, hz => by
    simp only [List.getElem?_cons_zero, Option.some.injEq] at h
    subst h
    simp [frees, hz]
  | a :: l, p + 1, z, h, hz => by
    have ih := frees_set l p z (by simpa using h) hz
    unfold frees at *
    simp only [List.set_cons_succ, List.filter_cons]
    split <;> (try simp only [List.length_cons]) <;> omega
theorem frees_pos : ∀ {sl : List Int}, 0 < frees sl → ∃ p : Nat, sl[p]? = some (-1)
  | [], h => by simp [frees] at h
  | a :: l, h => by
    by_cases e : a = -1
    · exact ⟨0, by simp [e]⟩
    · obtain ⟨p, hp⟩ := frees_pos (sl := l) (by simpa [frees, List.filter_cons, e] using h)
      exact ⟨p + 1, by simpa using hp⟩
/-- what each state keeps -/
structure Okk (G n m : Nat) (ch : Nat → Nat → Nat) (s : Stt) : Prop where
  lc : s.cr.length = m
  ls : s.sl.length = n
  fr : frees s.sl = s.left
  lt : ∀ c ∈ s.cr, c < G
  rg : ∀ z ∈ s.sl, z = -1 ∨ ∃ i : Nat, z = i ∧ i < m
theorem Okk.free {G n m : Nat} {ch : Nat → Nat → Nat} {s : Stt} (h : Okk G n m ch s) (hl : 0 < s.left) {i : Nat} (ho : Ord n (ch i)) : ffree (ch i) s.sl n < n ∧ s.sl[ch i (ffree (ch i) s.sl n)]? = some (-1) ∧ ∀ j, j < ffree (ch i) s.sl n → s.sl[ch i j]? ≠ some (-1) := by
  obtain ⟨p, hp⟩ := frees_pos (sl := s.sl) (by rw [h.fr]; exact hl)
  have hpn : p < n := by rw [← h.ls]; exact (List.getElem?_eq_some_iff.1 hp).1
  obtain ⟨k, hk, e⟩ := ho.surj hpn
  exact ffree_spec ⟨k, hk, by rw [e]; exact hp⟩
theorem Okk.init (G n m : Nat) (hG : 0 < G) (ch : Nat → Nat → Nat) : Okk G n m ch ⟨List.replicate m 0, List.replicate n (-1), n⟩ := by
  refine ⟨by simp, by simp, ?_, fun c hc => ?_, fun z hz => .inl ?_⟩
  · unfold frees
    rw [List.filter_eq_self.2 (fun z hz => by rw [List.eq_of_mem_replicate hz]; rfl), List.length_replicate]
  · rw [List.eq_of_mem_replicate hc]; exact hG
  · exact List.eq_of_mem_replicate hz
theorem Okk.step {G n m : Nat} {ch : Nat → Nat → Nat} {s : Stt} {qs : List Nat} (h : Okk G n m ch s) (hG : 0 < G) (hq : ∀ q ∈ qs, q ≤ G) (hl : 0 < s.left) {i : Nat} (hi : i < m) (ho : Ord n (ch i)) : Okk G n m ch (stepS G n qs ch i s) := by
  have hc : s.cr.getD i 0 < G := by
    rw [List.getD_eq_getElem?_getD]
    cases e : s.cr[i]? with
    | none => simpa using hG
    | some c => exact h.lt c (List.mem_of_getElem? e)
  have hqi : qs.getD i 0 ≤ G := by
    rw [List.getD_eq_getElem?_getD]
    cases e : qs[i]? with
    | none => simp
    | some c => exact hq c (List.mem_of_getElem? e)
  unfold stepS
  split
  · rename_i hlt
    exact ⟨by simp [h.lc], h.ls, h.fr, fun c hc => by
      rcases List.mem_or_eq_of_mem_set hc with hc | rfl
      · exact h.lt c hc
      · exact hlt, h.rg⟩
  · rename_i hge
    obtain ⟨h1, h2, _⟩ := h.free hl ho
    have hf := frees_set s.sl _ (i : Int) h2 (by omega)
    exact ⟨by simp [h.lc], by simp [h.ls], by show frees (s.sl.set _ _) = s.left - 1; rw [← h.fr]; omega, fun c hc => by
      rcases List.mem_or_eq_of_mem_set hc with hc | rfl
      · exact h.lt c hc
      · omega, fun z hz => by
      rcases List.mem_or_eq_of_mem_set hz with hz | rfl
      · exact h.rg z hz
      · exact .inr ⟨i, rfl, hi⟩⟩
/-- none is left behind the visits; some was ahead of each -/
structure Done (G n m : Nat) (qs : List Nat) (ch : Nat → Nat → Nat) (N : Nat) : Prop where
  none : (runS G n m qs ch N).left = 0
  some : ∀ v, v < N → 0 < (runS G n m qs ch v).left
theorem Done.unique {G n m : Nat} {qs : List Nat} {ch : Nat → Nat → Nat} {N M : Nat} (h : Done G n m qs ch N) (k : Done G n m qs ch M) : N = M := by
  rcases Nat.lt_trichotomy N M with h1 | h1 | h1
  · have := k.some N h1; rw [h.none] at this; omega
  · exact h1
  · have := h.some M h1; rw [k.none] at this; omega
theorem fil_ok {G n m : Nat} {qs : List Nat} {ch : Nat → Nat → Nat} (hG : 0 < G) (hm : 0 < m) (hq : ∀ q ∈ qs, q ≤ G) (ho : ∀ i, i < m → Ord n (ch i)) : ∀ v, (∀ u, u < v → 0 < (runS G n m qs ch u).left) → Okk G n m ch (runS G n m qs ch v)
  | 0, _ => Okk.init G n m hG ch
  | v + 1, h => (fil_ok hG hm hq ho v (fun u hu => h u (by omega))).step hG hq (h v (by omega)) (Nat.mod_lt _ hm) (ho _ (Nat.mod_lt _ hm))
theorem fil_round {G n m : Nat} {qs : List Nat} {ch : Nat → Nat → Nat} (t i : Nat) (hi : i < m) : runS G n m qs ch (t * m + (i + 1)) = stepS G n qs ch i (runS G n m qs ch (t * m + i)) := by
  have e : (t * m + i) % m = i := by rw [Nat.mul_comm, Nat.mul_add_mod, Nat.mod_eq_of_lt hi]
  show stepS G n qs ch ((t * m + i) % m) (runS G n m qs ch (t * m + i)) = _
  rw [e]
theorem step_left {G n : Nat} {qs : List Nat} {ch : Nat → Nat → Nat} {i : Nat} {s : Stt} : (stepS G n qs ch i s).left = if s.cr.getD i 0 + qs.getD i 0 < G then s.left else s.left - 1 := by
  unfold stepS
  split <;> rfl
end Go.Proofs.Ytaadpldijnegkaa
/-
  Chapter 17: fill: walked (written by gen/mg6.py).
-/
namespace Go.Proofs.Ytaadpldijnegkaa
open Go.RowKit Go.Sort
set_option linter.unusedVariables false
set_option linter.unusedSimpArgs false
set_option maxRecDepth 100000
set_option maxHeartbeats 8000000

def maxQ (l : List TurnV) : Nat := l.foldl (fun g u => max g u.q) 0
theorem maxQ_snoc (l : List TurnV) (u : TurnV) : maxQ (l ++ [u]) = max (maxQ l) u.q := by simp [maxQ, List.foldl_append]
theorem maxQ_from : ∀ (l : List TurnV) (g : Nat), g ≤ l.foldl (fun g u => max g u.q) g ∧ (∀ u ∈ l, u.q ≤ l.foldl (fun g u => max g u.q) g) ∧ (l.foldl (fun g u => max g u.q) g = g ∨ ∃ u ∈ l, u.q = l.foldl (fun g u => max g u.q) g)
  | [], g => ⟨Nat.le_refl _, (fun u hu => by cases hu), .inl rfl⟩
  | a :: l, g => by
    rw [List.foldl_cons]
    obtain ⟨h1, h2, h3⟩ := maxQ_from l (max g a.q)
    refine ⟨by omega, fun u hu => ?_, ?_⟩
    · rcases List.mem_cons.1 hu with rfl | hu
      · omega
      · exact h2 u hu
    · rcases h3 with h3 | ⟨u, hu, h3⟩
      · rw [h3]
        by_cases e : a.q ≤ g
        · exact .inl (by omega)
        · exact .inr ⟨a, List.mem_cons_self, by omega⟩
      · exact .inr ⟨u, List.mem_cons_of_mem _ hu, h3⟩
theorem maxQ_le (l : List TurnV) : ∀ u ∈ l, u.q ≤ maxQ l := (maxQ_from l 0).2.1
theorem maxQ_hit {l : List TurnV} (h : 0 < maxQ l) : ∃ i, ∃ hi : i < l.length, l[i].q = maxQ l := by
  rcases (maxQ_from l 0).2.2 with h1 | ⟨u, hu, h1⟩
  · unfold maxQ at h; omega
  · obtain ⟨i, hi, rfl⟩ := List.mem_iff_getElem.1 hu
    exact ⟨i, hi, h1⟩
theorem maxQ_bound {l : List TurnV} {B : Nat} (h : ∀ u ∈ l, u.q ≤ B) : maxQ l ≤ B := by
  rcases (maxQ_from l 0).2.2 with h1 | ⟨u, hu, h1⟩
  · unfold maxQ; omega
  · have := h u hu
    unfold maxQ; omega
/-- the choices of name i -/
def chU (us : List TurnV) (n i : Nat) : Nat → Nat := fun j => choiceN (us.getD i zeroU).off (us.getD i zeroU).skip n j
def qsU (us : List TurnV) : List Nat := us.map TurnV.q
/-- the turns in memory, and the plain state -/
structure Tw (us : List TurnV) (n : Nat) (ts : List TurnV) (s : Stt) : Prop where
  len : ts.length = us.length
  at' : ∀ i (h : i < us.length), ∃ k, ts[i]? = some ⟨us[i].q, s.cr.getD i 0, us[i].off, us[i].skip, k⟩ ∧ k ≤ n ∧ ∀ j, j < k → s.sl[chU us n i j]? ≠ some (-1)
theorem tu_info : (Try.prog.info? 55).map (fun i => (i.zero, i.size)) = some (some (.agg zeroU.cells.toArray), 5) := by kernel_rfl
theorem tu_size : (Try.prog.info? 55).map (·.size) = some 5 := by kernel_rfl
theorem tu_one (x : TurnV) : (Try.prog.info? 55).map (·.size) = some x.cells.length := tu_size
theorem tu_allone (f : TurnV) : f.cells.toArray.all (·.oneCell') = true := by
  rw [Array.all_eq_true_iff_forall_mem]
  intro v hv
  exact TurnV.one _ v (by simpa using hv)
theorem Fil.row {w : World} {bt gt ct bs gs cs : Nat} {ts : List TurnV} {sl : List Int} (h : Fil w bt gt ct bs gs cs ts sl) {i : Nat} (hi : i < ts.length) : w.rangeAt gt (i * 5) ts[i].cells := fun j v hj => h.tc hi (by have := (List.getElem?_eq_some_iff.1 hj).1; rwa [TurnV.length] at this) hj
structure Us (us : List TurnV) (n : Nat) : Prop where
  pos : 0 < us.length
  n0 : 2 ≤ n
  n1 : n ≤ 65537
  pr : pr n = true
  one : ∀ u ∈ us, u.cr = 0 ∧ u.next = 0 ∧ 0 < u.q ∧ u.q ≤ 1024000 ∧ u.off < n ∧ 0 < u.skip ∧ u.skip < n
theorem Us.ord {us : List TurnV} {n : Nat} (h : Us us n) {i : Nat} (hi : i < us.length) : Ord n (chU us n i) := by
  obtain ⟨_, _, _, _, _, h5, h6⟩ := h.one us[i] (List.getElem_mem hi)
  have e : us.getD i zeroU = us[i] := by rw [List.getD_eq_getElem?_getD, List.getElem?_eq_getElem hi]; rfl
  refine ⟨fun k => Nat.mod_lt _ (by have := h.n0; omega), fun a b hab hb => ?_⟩
  unfold chU
  rw [e]
  exact choice_inj h.pr h5 h6 hab hb
theorem Us.big {us : List TurnV} {n : Nat} (h : Us us n) : 0 < maxQ us ∧ maxQ us ≤ 1024000 := by
  refine ⟨?_, maxQ_bound fun u hu => (h.one u hu).2.2.2.1⟩
  have h1 := (h.one (us[0]'h.pos) (List.getElem_mem h.pos)).2.2.1
  have h2 := maxQ_le us (us[0]'h.pos) (List.getElem_mem h.pos)
  omega
theorem Us.ok {us : List TurnV} {n : Nat} (h : Us us n) {v : Nat} (hv : ∀ u, u < v → 0 < (runS (maxQ us) n us.length (qsU us) (chU us n) u).left) : Okk (maxQ us) n us.length (chU us n) (runS (maxQ us) n us.length (qsU us) (chU us n) v) :=
  fil_ok h.big.1 h.pos (fun q hq => by obtain ⟨u, hu, rfl⟩ := List.mem_map.1 hq; exact maxQ_le us u hu) (fun i hi => h.ord hi) v hv
theorem Us.tw0 {us : List TurnV} {n : Nat} (h : Us us n) : Tw us n us ⟨List.replicate us.length 0, List.replicate n (-1), n⟩ := by
  refine ⟨rfl, fun i hi => ⟨0, ?_, Nat.zero_le _, fun j hj => by omega⟩⟩
  obtain ⟨h1, h2, _⟩ := h.one us[i] (List.getElem_mem hi)
  rw [List.getElem?_eq_getElem hi]
  congr 1
  have e : us[i] = ⟨us[i].q, us[i].cr, us[i].off, us[i].skip, us[i].next⟩ := rfl
  rw [e, h1, h2]
  congr 1
  rw [List.getD_eq_getElem?_getD, List.getElem?_replicate, if_pos hi]
  rfl
theorem yields_addI {ops : Array Oper} {S : World → Prop} {o : Oper} {a : Act} (hgd : Region.wanted o (yielded ops a.tmps) = true) (X Y : Operand) (ho : o.op = .binOp .add 3 X Y 3) (x y : Int) (hw : IntKind.i64.wrap (x + y) = x + y) (hx : a.eval X = .int .i64 x) (hy : a.eval Y = .int .i64 y) : YieldsIf Try.prog ops S o (.int .i64 (x + y)) a := by
  refine Or.inl ⟨hgd, fun w _ => ?_⟩
  unfold execOp
  rw [ho]
  simp only [hx, hy]
  go_simp
  first | done | exact hw | rw [hw]
theorem cells_cr {q c1 c2 o s k : Nat} {z : Int} (h : (c2 : Int) = z) : (⟨q, c2, o, s, k⟩ : TurnV).cells = (⟨q, c1, o, s, k⟩ : TurnV).cells.set 1 (.int .i64 z) := by
  subst h
  rfl
theorem take_fill (bt gt ct bs gs cs : Nat) (ts : List TurnV) (sl : List Int) (n : Nat) (hln : sl.length = n) (i : Nat) (hi : i < ts.length) (t : TurnV) (ht : ts[i] = t) (name : Nat) (kf : Nat) (hsz : 0 < n ∧ n < 65538) (ho : t.off < 65538) (hs : t.skip < 65538) (hkf : kf < 65538)
    (hn : t.next ≤ kf) (hfree : sl[choiceN t.off t.skip n kf]? = some (-1)) (hpre : ∀ j, t.next ≤ j → j < kf → sl[choiceN t.off t.skip n j]? ≠ some (-1)) (hall : ∀ j, choiceN t.off t.skip n j < n) (w : World) (h : Fil w bt gt ct bs gs cs ts sl) :
    Calls Try.prog 41 #[.pointer (some ⟨gt, i * 5, none⟩), .slice (some ⟨gs, 0, none⟩) n cs, .int .i64 (name : Int)] w fun e w' => e = .returned (.tuple #[]) ∧ Fil w' bt gt ct bs gs cs (ts.set i (t.at (kf + 1))) (sl.set (choiceN t.off t.skip n kf) (name : Int)) ∧ But gt gs w w' := by
  subst hln
  exact take_any bt gt ct bs gs cs ts sl i hi t ht name kf hsz ho hs hkf hn hfree hpre hall w h
theorem step_storeTu {ops : Array Oper} {o : Oper} {a : Act} {w : World} {K : Act → World → Prop} {Q : Exit → Act → World → Prop} {E : Prop} (hgd : o.guard = none) (x y : Operand) (ho : o.op = .store 3 x y)
    {bt gt ct bs gs cs : Nat} {ts : List TurnV} {sl : List Int} (h : Fil w bt gt ct bs gs cs ts sl) (i j : Nat) (hi : i < ts.length) (hj : j < 5) (z : Int) (t : TurnV) (ht : t.cells = ts[i].cells.set j (.int .i64 z)) (hx : a.eval x = .pointer (some ⟨gt, i * 5 + j, none⟩)) (hy : a.eval y = .int .i64 z)
    (hk : ∀ w1, Fil w1 bt gt ct bs gs cs (ts.set i t) sl → w.grownBy w1 (some gt) → K (a.put o.dst undef) w1) : if Region.wanted o (yielded ops a.tmps) = true then Oper.wp Try.prog o a w K Q else E := by
  have hl : i * 5 + j < (tuC ts).length := by rw [tuC_length]; have := Nat.mul_le_mul_right 5 (show i + 1 ≤ ts.length from hi); omega
  refine step_storeO hgd 3 x y ho h.t (i * 5 + j) hl (.int .i64 z) rfl rfl hx hy (by kernel_rfl) (fun w1 h1 h2 => hk w1 ⟨?_, ?_, h.ne⟩ h2)
  · rw [tuC_set ts i j _ t hi hj ht] at h1
    rw [List.length_set]
    exact h1
  · exact own_apart h.s (ad2 := some ⟨gt, 0, none⟩) (n2 := 0) (c2 := 0) h2 (fun x y hx hy => by cases hx; cases hy; exact fun e => h.ne e.symm)
theorem Tw.credit {us : List TurnV} {n : Nat} {ts : List TurnV} {s : Stt} (h : Tw us n ts s) {i0 : Nat} (hi : i0 < us.length) (hc : i0 < s.cr.length) {k : Nat} (ht : ts[i0]? = some ⟨us[i0].q, s.cr.getD i0 0, us[i0].off, us[i0].skip, k⟩) (c' : Nat) (left : Nat) :
    Tw us n (ts.set i0 ⟨us[i0].q, c', us[i0].off, us[i0].skip, k⟩) ⟨s.cr.set i0 c', s.sl, left⟩ := by
  refine ⟨by rw [List.length_set]; exact h.len, fun i hi' => ?_⟩
  obtain ⟨k', h1, h2, h3⟩ := h.at' i hi'
  by_cases e : i = i0
  · subst e
    rw [ht] at h1
    simp only [Option.some.injEq, TurnV.mk.injEq, true_and] at h1
    subst h1
    refine ⟨k, ?_, h2, h3⟩
    rw [List.getElem?_set_self (by rw [h.len]; exact hi'), List.getD_eq_getElem?_getD, List.getElem?_set_self hc]
    rfl
  · refine ⟨k', ?_, h2, h3⟩
    rw [List.getElem?_set_ne (Ne.symm e), h1, List.getD_eq_getElem?_getD, List.getD_eq_getElem?_getD, List.getElem?_set_ne (Ne.symm e)]
theorem set_ne {sl : List Int} {p q : Nat} {z : Int} (hz : z ≠ -1) (h : sl[q]? ≠ some (-1)) : (sl.set p z)[q]? ≠ some (-1) := by
  rw [List.getElem?_set]
  split
  · split
    · simpa using hz
    · simp
  · exact h
theorem Tw.took {us : List TurnV} {n : Nat} {ts : List TurnV} {s : Stt} (h : Tw us n ts s) {i0 : Nat} (hi : i0 < us.length) (hc : i0 < s.cr.length) (c' : Nat) (left : Nat) {kf : Nat} (hkf : kf < n) {z : Int} (hz : z ≠ -1) (hp : chU us n i0 kf < s.sl.length) (hf : ∀ j, j < kf → s.sl[chU us n i0 j]? ≠ some (-1)) :
    Tw us n (ts.set i0 ⟨us[i0].q, c', us[i0].off, us[i0].skip, kf + 1⟩) ⟨s.cr.set i0 c', s.sl.set (chU us n i0 kf) z, left⟩ := by
  refine ⟨by rw [List.length_set]; exact h.len, fun i hi' => ?_⟩
  obtain ⟨k', h1, h2, h3⟩ := h.at' i hi'
  by_cases e : i = i0
  · subst e
    refine ⟨kf + 1, ?_, by omega, fun j hj => ?_⟩
    · rw [List.getElem?_set_self (by rw [h.len]; exact hi'), List.getD_eq_getElem?_getD, List.getElem?_set_self hc]
      rfl
    · by_cases e2 : j = kf
      · subst e2
        rw [List.getElem?_set_self hp]
        simpa using hz
      · exact set_ne hz (hf j (by omega))
  · refine ⟨k', ?_, h2, fun j hj => set_ne hz (h3 j hj)⟩
    rw [List.getElem?_set_ne (Ne.symm e), h1, List.getD_eq_getElem?_getD, List.getD_eq_getElem?_getD, List.getElem?_set_ne (Ne.symm e)]
theorem fill_any (bt gt ct bs gs cs : Nat) (us : List TurnV) (n : Nat) (hu : Us us n) (hm : us.length ≤ 1024) (w : World) (h : Fil w bt gt ct bs gs cs us (List.replicate n (-1))) :
    Calls Try.prog 30 #[.slice (some ⟨gt, 0, none⟩) us.length ct, .slice (some ⟨gs, 0, none⟩) n cs] w fun e w' => e = .returned (.tuple #[]) ∧ ∃ N ts, Done (maxQ us) n us.length (qsU us) (chU us n) N ∧ Fil w' bt gt ct bs gs cs ts (runS (maxQ us) n us.length (qsU us) (chU us n) N).sl ∧ But gt gs w w' := by
  have HFI := Lib.hid h
  have HU := Lib.hid hu
  have HB := Lib.hid (Below.refl w.heap.size w)
  obtain ⟨m, hm'⟩ : ∃ m, m = us.length := ⟨_, rfl⟩
  have HM := Lib.hid hm'
  have hn2 := hu.n0
  have hn3 := hu.n1
  have hpos := hu.pos
  have hbig := hu.big
  rw [← hm'] at hm hpos ⊢
  clear h hu hm'
  go_enter Try.func30, Try.ntmps30
  go_step3
  go_wp2_with fail
  go_loopw [4, 12] (fun g i wr => ∃ k : Nat, k ≤ m ∧ i = .int .i64 (k : Int) ∧ g = .int .i64 ((maxQ (us.take k) : Nat) : Int) ∧ Hid (Below w.heap.size w wr)) (fun _ i _ => m - (intOf i).toNat)
  case atStart => exact ⟨0, by omega, rfl, rfl, HB⟩
  case round =>
    clear HB
    obtain ⟨k, hk, rfl, rfl, HB⟩ := hrel
    by_cases hend : k = m
    · subst k
      have HMX : Hid (maxQ (us.take m) = maxQ us) := Lib.hid (by rw [HM.out, List.take_length])
      rw [HMX.out]
      obtain ⟨R, hR⟩ : ∃ R, R = runS (maxQ us) n m (qsU us) (chU us n) := ⟨_, rfl⟩
      have HRS : Hid (∀ N, (R N).sl = (runS (maxQ us) n m (qsU us) (chU us n) N).sl) := Lib.hid (fun N => by rw [hR])
      have HDN : Hid (∀ N, (R N).left = 0 → (∀ v, v < N → 0 < (R v).left) → Done (maxQ us) n m (qsU us) (chU us n) N) := Lib.hid (fun N h1 h2 => ⟨by rw [← hR]; exact h1, fun v hv => by rw [← hR]; exact h2 v hv⟩)
      obtain ⟨G, hG⟩ : ∃ G, G = maxQ us := ⟨_, rfl⟩
      have hgi : ∃ gi, ∃ h : gi < us.length, us[gi].q = maxQ us := maxQ_hit hbig.1
      rw [← hG] at hbig hgi hR ⊢
      obtain ⟨gi, hgl, hgq⟩ := hgi
      have HGQ := Lib.hid hgq
      have hgm : gi < m := by rw [HM.out]; exact hgl
      have HR0 : Hid (R 0 = ⟨List.replicate m 0, List.replicate n (-1), n⟩) := Lib.hid (by rw [hR]; rfl)
      have HST : Hid (∀ t i, i < m → R (t * m + (i + 1)) = stepS G n (qsU us) (chU us n) i (R (t * m + i))) := Lib.hid (fun t i hi => by rw [hR]; exact fil_round t i hi)
      have HOK : Hid (∀ v, (∀ u, u < v → 0 < (R u).left) → Okk G n m (chU us n) (R v)) := Lib.hid (fun v hv => by rw [hR, hG, HM.out]; refine HU.out.ok (fun u hu => ?_); have := hv u hu; rw [hR, hG, HM.out] at this; exact this)
      have HTW0 := Lib.hid HU.out.tw0
      have HFIw := Lib.hid (HFI.out.keep HB.out)
      have HBTw := Lib.hid (But.of_below (p := gt) (q := gs) HB.out)
      clear hgq hR HB hG
      obtain ⟨wv, hwv⟩ : ∃ wv, wv = wr := ⟨_, rfl⟩
      subst hwv
      go_wp2_with fail
      go_step3
      go_wp2_with fail
      go_loopg [7] n (fun g lf wr => ∃ (t : Nat) (ts : List TurnV) (s : Stt), g = s.left ∧ lf = .int .i64 (s.left : Int) ∧ 0 < s.left ∧ s.left ≤ n ∧ Hid (s = R (t * m)) ∧ Hid (∀ v, v ≤ t * m → 0 < (R v).left) ∧ Hid (Fil wr bt gt ct bs gs cs ts s.sl) ∧ Hid (Tw us n ts s) ∧ Hid (But gt gs w wr))
      case atStart => exact ⟨0, us, ⟨List.replicate m 0, List.replicate n (-1), n⟩, rfl, rfl, by show 0 < n; omega, Nat.le_refl _, Lib.hid (by rw [Nat.zero_mul, HR0.out]), Lib.hid (fun v hv => by obtain rfl : v = 0 := (by omega); rw [HR0.out]; show 0 < n; omega), HFIw, by rw [HM.out]; exact HTW0, HBTw⟩
      case round =>
        clear HFIw HBTw HTW0
        obtain ⟨t, ts, s, rfl, rfl, hs0, hsn, HSE, HPO, HF, HTW, HBT⟩ := hrel
        obtain ⟨wv, hwv⟩ : ∃ wv, wv = wr := ⟨_, rfl⟩
        subst hwv
        go_wp2_with fail
        go_loopg [7, 25] m (fun g lf i wr => ∃ (i0 : Nat) (ts' : List TurnV) (s' : Stt), g = m - i0 ∧ i0 ≤ m ∧ i = .int .i64 (i0 : Int) ∧ lf = .int .i64 (s'.left : Int) ∧ 0 < s'.left ∧ s'.left ≤ s.left ∧ (gi < i0 → s'.left < s.left) ∧ Hid (s' = R (t * m + i0)) ∧ Hid (∀ v, v ≤ t * m + i0 → 0 < (R v).left) ∧ Hid (Fil wr bt gt ct bs gs cs ts' s'.sl) ∧ Hid (Tw us n ts' s') ∧ Hid (But gt gs w wr))
        case atStart => exact ⟨0, ts, s, rfl, by omega, rfl, rfl, hs0, Nat.le_refl _, by omega, HSE, HPO, HF, HTW, HBT⟩
        case round =>
          clear HF HTW HBT HSE HPO
          obtain ⟨i0, ts', s', rfl, hi0, rfl, rfl, hl0, hls, hgt, HSE, HPO, HF, HTW, HBT⟩ := hrel
          by_cases hend2 : i0 = m
          · subst hend2
            go_wp2_with fail
            go_roundg s'.left
            case measure => exact hgt hgm
            case rel => exact ⟨t + 1, ts', s', rfl, rfl, hl0, by omega, Lib.hid (by rw [HSE.out, Nat.add_mul, Nat.one_mul]), Lib.hid (fun v hv => HPO.out v (by rw [Nat.add_mul, Nat.one_mul] at hv; exact hv)), HF, HTW, HBT⟩
          have hlt2 : i0 < m := by omega
          have hiu : i0 < us.length := by rw [← HM.out]; exact hlt2
          have hok := HOK.out (t * m + i0) (fun v hv => HPO.out v (by omega))
          rw [← HSE.out] at hok
          obtain ⟨k, htk, hkn, hkp⟩ := HTW.out.at' i0 hiu
          obtain ⟨u, hu⟩ : ∃ u, u = us[i0] := ⟨_, rfl⟩
          obtain ⟨c, hc⟩ : ∃ c, c = s'.cr.getD i0 0 := ⟨_, rfl⟩
          have hic : i0 < s'.cr.length := by rw [hok.lc]; exact hlt2
          have hcG : c < G := by rw [hc, List.getD_eq_getElem?_getD, List.getElem?_eq_getElem hic]; exact hok.lt _ (List.getElem_mem hic)
          have huq := HU.out.one us[i0] (List.getElem_mem hiu)
          rw [← hu] at huq
          have hqs : (qsU us).getD i0 0 = u.q := by rw [hu, List.getD_eq_getElem?_getD]; unfold qsU; rw [List.getElem?_map, List.getElem?_eq_getElem hiu]; rfl
          have hi1 : i0 < ts'.length := by rw [HTW.out.len]; exact hiu
          have hus : us.getD i0 zeroU = u := by rw [hu, List.getD_eq_getElem?_getD, List.getElem?_eq_getElem hiu]; rfl
          have hch : ∀ j, chU us n i0 j = choiceN u.off u.skip n j := fun j => by unfold chU; rw [hus]
          have HTK := Lib.hid htk
          rw [← hu, ← hc] at htk
          have htv : ts'[i0] = ⟨u.q, c, u.off, u.skip, k⟩ := by rw [List.getElem?_eq_getElem hi1] at htk; exact Option.some.inj htk
          have HC0 : Hid (wr.cell? ⟨gt, i0 * 5, none⟩ = some (.int .i64 (u.q : Int))) := Lib.hid (HF.out.tc hi1 (j := 0) (by omega) (by rw [htv]; rfl))
          have HC1 : Hid (wr.cell? ⟨gt, i0 * 5 + 1, none⟩ = some (.int .i64 (c : Int))) := Lib.hid (HF.out.tc hi1 (j := 1) (by omega) (by rw [htv]; rfl))
          have HSP : Hid (R (t * m + (i0 + 1)) = stepS G n (qsU us) (chU us n) i0 s') := Lib.hid (by rw [HST.out t i0 hlt2, ← HSE.out])
          have HTV := Lib.hid htv
          have HUE := Lib.hid hu
          have HCE := Lib.hid hc
          have HQS := Lib.hid hqs
          have HCH := Lib.hid hch
          have HOKs := Lib.hid hok
          have HKP := Lib.hid hkp
          have hG2 : G ≤ 1024000 := hbig.2
          have hq2 : u.q ≤ 1024000 := huq.2.2.2.1
          have hGQ : gi = i0 → u.q = G := fun e => by subst e; rw [hu]; exact HGQ.out
          have hl3 : s'.left ≤ 65537 := by omega
          have HUQ := Lib.hid huq
          have HGQ2 := Lib.hid hGQ
          clear htk htv hu hc hqs hus hch hok hkp huq hGQ
          have HB := Lib.hid (Below.refl wr.heap.size wr)
          have hwr : IntKind.i64.wrap ((c : Int) + (u.q : Int)) = (c : Int) + (u.q : Int) := by rw [IntKind.wrap_i64]; omega
          by_cases hge : c + u.q < G
          · have hge2 : (c : Int) + (u.q : Int) < (G : Int) := by omega
            go_wp2_with fail
            refine wp_region_T (S := fun u__ => u__.cell? ⟨gt, i0 * 5 + 1, none⟩ = some (.int .i64 (c : Int)) ∧ u__.cell? ⟨gt, i0 * 5, none⟩ = some (.int .i64 (u.q : Int))) 11 (by kernel_rfl) ?_ (fun hHeld => ?_)
            focus (exact ⟨Below.cellH HC1 (HB.out.trans (Below.mono bup HB.out.size)), Below.cellH HC0 (HB.out.trans (Below.mono bup HB.out.size))⟩)
            refine tkT 11 0 (oi := ⟨some 31, _, _, _, _, _⟩) (v := ?_) rfl (by kernel_rfl) (.inl ⟨by rfl, ?_⟩) hHeld ?_; rotate_left; focus (intro w hSw; (try dsimp only at hSw); go_simp; try with_reducible rfl)
            simp only [PT]
            refine tkT 11 1 (oi := ⟨some 32, _, _, _, _, _⟩) (v := ?_) rfl (by kernel_rfl) (.inl ⟨by rfl, ?_⟩) hHeld ?_; rotate_left; focus (intro w hSw; (try dsimp only at hSw); go_simp; try with_reducible rfl)
            simp only [PT]
            refine tkT 11 2 (oi := ⟨some 33, _, _, _, _, _⟩) (v := ?_) rfl (by kernel_rfl) (.inl ⟨by rfl, ?_⟩) hHeld ?_; rotate_left; focus (intro w hSw; (try dsimp only at hSw); go_simp; try with_reducible rfl)
            simp only [PT]
            refine' tkT 11 3 (oi := ⟨some 34, _, _, _, _, _⟩) (v := _) rfl (by kernel_rfl) (yields_loadC (by rfl) 3 (.tmp 33) rfl gt (i0 * 5 + 1) rfl (.int .i64 (c : Int)) (fun _ h => h.1) Try.underlying3 rfl) hHeld ?_
            simp only [PT]
            refine tkT 11 4 (oi := ⟨some 35, _, _, _, _, _⟩) (v := ?_) rfl (by kernel_rfl) (.inl ⟨by rfl, ?_⟩) hHeld ?_; rotate_left; focus (intro w hSw; (try dsimp only at hSw); go_simp; try with_reducible rfl)
            simp only [PT]
            refine tkT 11 5 (oi := ⟨some 36, _, _, _, _, _⟩) (v := ?_) rfl (by kernel_rfl) (.inl ⟨by rfl, ?_⟩) hHeld ?_; rotate_left; focus (intro w hSw; (try dsimp only at hSw); go_simp; try with_reducible rfl)
            simp only [PT]
            refine tkT 11 6 (oi := ⟨some 37, _, _, _, _, _⟩) (v := ?_) rfl (by kernel_rfl) (.inl ⟨by rfl, ?_⟩) hHeld ?_; rotate_left; focus (intro w hSw; (try dsimp only at hSw); go_simp; try with_reducible rfl)
            simp only [PT]
            refine' tkT 11 7 (oi := ⟨some 38, _, _, _, _, _⟩) (v := _) rfl (by kernel_rfl) (yields_loadC (by rfl) 3 (.tmp 37) rfl gt (i0 * 5) rfl (.int .i64 (u.q : Int)) (fun _ h => h.2) Try.underlying3 rfl) hHeld ?_
            simp only [PT]
            refine' tkT 11 8 (oi := ⟨some 39, _, _, _, _, _⟩) (v := _) rfl (by kernel_rfl) (yields_addI (by rfl) (.tmp 34) (.tmp 38) rfl (c : Int) (u.q : Int) hwr rfl rfl) hHeld ?_
            simp only [PT]
            refine wpAnyT_ready (rs := [9]) (by kernel_rfl) (by simp) ?_
            refine (AllReadyT.cons (o := ⟨some 40, _, _, _, _, _⟩) rfl (fun K hK => ?_) AllReadyT.nil)
            (go_simp)
            refine hK.out _ _ (fun _ => ?_) (fun hHeld => ?_)
            focus (exact ⟨Below.cellH HC1 (HB.out.trans (Below.mono bup HB.out.size)), Below.cellH HC0 (HB.out.trans (Below.mono bup HB.out.size))⟩)
            replace hHeld := hHeld (by decide)
            clear hK K
            try simp only [PT]
            refine wpAnyT_ready (rs := [10]) (by kernel_rfl) (by simp) ?_
            refine (AllReadyT.cons (o := ⟨some 41, _, _, _, _, _⟩) rfl (fun K hK => ?_) AllReadyT.nil)
            (go_simp)
            refine hK.out _ _ (fun _ => ?_) (fun hHeld => ?_)
            focus (exact ⟨Below.cellH HC1 (HB.out.trans (Below.mono bup HB.out.size)), Below.cellH HC0 (HB.out.trans (Below.mono bup HB.out.size))⟩)
            replace hHeld := hHeld (by decide)
            clear hK K
            try simp only [PT]
            refine wpAnyT_ready (rs := [11]) (by kernel_rfl) (by simp) ?_
            refine (AllReadyT.cons (o := ⟨none, _, _, _, _, _⟩) rfl (fun K hK => ?_) AllReadyT.nil)
            (go_must (refine step_storeTu rfl (.tmp 41) (.tmp 39) rfl (HF.out.keep (HB.out.trans (Below.mono bup HB.out.size))) i0 1 hi1 (by omega) ((c : Int) + (u.q : Int)) ⟨u.q, c + u.q, u.off, u.skip, k⟩ (by rw [HTV.out]; rfl) rfl rfl ?_); intro w1 hf hg; go_must (have HBTn := Lib.hid ((HBT.out.trans (But.of_below (HB.out.trans (Below.mono bup HB.out.size)))).trans (But.of_p hg))); clear HF HBT HB; have HBT := HBTn; have HF := Lib.hid hf; have HB := Lib.hid (Below.refl w1.heap.size w1); go_must (have hcr : w1.cell? ⟨gt, i0 * 5 + 1, none⟩ = some (.int .i64 ((c : Int) + (u.q : Int))) := hf.tc (by rw [List.length_set]; exact hi1) (j := 1) (by omega) (by rw [List.getElem_set_self]; rfl)); clear hf hg HBTn)
            refine hK.out _ _ (fun h => absurd rfl h) (fun hHeld => ?_)
            clear hK K
            try simp only [PT]
            refine wpAnyT_done (by kernel_rfl) ?_ _
            go_wp2_with fail
            go_roundg (m - (i0 + 1))
            case measure => omega
            case rel => exact ⟨i0 + 1, _, ⟨s'.cr.set i0 (c + u.q), s'.sl, s'.left⟩, rfl, by omega, by go_num, rfl, hl0, hls, (fun h => hgt (by
              rcases Nat.lt_or_ge gi i0 with h1 | h1
              · exact h1
              · exfalso
                have := HGQ2.out (by omega)
                omega)), Lib.hid (by rw [HSP.out]; unfold stepS; rw [HQS.out, ← HCE.out, if_pos hge]), Lib.hid (fun v hv => by
              rcases Nat.lt_or_ge v (t * m + (i0 + 1)) with h1 | h1
              · exact HPO.out v (by omega)
              · obtain rfl : v = t * m + (i0 + 1) := by omega
                rw [HSP.out, step_left, HQS.out, ← HCE.out, if_pos hge]
                exact hl0), HF, Lib.hid (by
              have h := HTW.out.credit hiu hic HTK.out (c + u.q) s'.left
              rw [← HUE.out] at h
              exact h), HBT⟩
          · have hge1 : ¬ (c : Int) + (u.q : Int) < (G : Int) := by omega
            have hz : ((c + u.q - G : Nat) : Int) = (c : Int) + (u.q : Int) - (G : Int) := by omega
            have hwr2 : IntKind.i64.wrap ((c : Int) + (u.q : Int) - (G : Int)) = (c : Int) + (u.q : Int) - (G : Int) := by rw [IntKind.wrap_i64]; omega
            have hfr := HOKs.out.free hl0 (HU.out.ord hiu)
            obtain ⟨kf, hkf⟩ : ∃ kf, kf = ffree (chU us n i0) s'.sl n := ⟨_, rfl⟩
            rw [← hkf] at hfr
            obtain ⟨hf1, hf2, hf3⟩ := hfr
            have hkk : k ≤ kf := by
              rcases Nat.lt_or_ge kf k with h1 | h1
              · exact absurd hf2 (HKP.out kf h1)
              · exact h1
            have HF2 := Lib.hid hf2
            have HF3 := Lib.hid hf3
            have HKF := Lib.hid hkf
            have HLS : Hid (s'.sl.length = n) := Lib.hid HOKs.out.ls
            have HZ := Lib.hid hz
            clear hf2 hf3 hkf hz
            go_wp2_with fail
            refine wp_region_T (S := fun u__ => u__.cell? ⟨gt, i0 * 5 + 1, none⟩ = some (.int .i64 (c : Int)) ∧ u__.cell? ⟨gt, i0 * 5, none⟩ = some (.int .i64 (u.q : Int))) 11 (by kernel_rfl) ?_ (fun hHeld => ?_)
            focus (exact ⟨Below.cellH HC1 (HB.out.trans (Below.mono bup HB.out.size)), Below.cellH HC0 (HB.out.trans (Below.mono bup HB.out.size))⟩)
            refine tkT 11 0 (oi := ⟨some 31, _, _, _, _, _⟩) (v := ?_) rfl (by kernel_rfl) (.inl ⟨by rfl, ?_⟩) hHeld ?_; rotate_left; focus (intro w hSw; (try dsimp only at hSw); go_simp; try with_reducible rfl)
            simp only [PT]
            refine tkT 11 1 (oi := ⟨some 32, _, _, _, _, _⟩) (v := ?_) rfl (by kernel_rfl) (.inl ⟨by rfl, ?_⟩) hHeld ?_; rotate_left; focus (intro w hSw; (try dsimp only at hSw); go_simp; try with_reducible rfl)
            simp only [PT]
            refine tkT 11 2 (oi := ⟨some 33, _, _, _, _, _⟩) (v := ?_) rfl (by kernel_rfl) (.inl ⟨by rfl, ?_⟩) hHeld ?_; rotate_left; focus (intro w hSw; (try dsimp only at hSw); go_simp; try with_reducible rfl)
            simp only [PT]
            refine' tkT 11 3 (oi := ⟨some 34, _, _, _, _, _⟩) (v := _) rfl (by kernel_rfl) (yields_loadC (by rfl) 3 (.tmp 33) rfl gt (i0 * 5 + 1) rfl (.int .i64 (c : Int)) (fun _ h => h.1) Try.underlying3 rfl) hHeld ?_
            simp only [PT]
            refine tkT 11 4 (oi := ⟨some 35, _, _, _, _, _⟩) (v := ?_) rfl (by kernel_rfl) (.inl ⟨by rfl, ?_⟩) hHeld ?_; rotate_left; focus (intro w hSw; (try dsimp only at hSw); go_simp; try with_reducible rfl)
            simp only [PT]
            refine tkT 11 5 (oi := ⟨some 36, _, _, _, _, _⟩) (v := ?_) rfl (by kernel_rfl) (.inl ⟨by rfl, ?_⟩) hHeld ?_; rotate_left; focus (intro w hSw; (try dsimp only at hSw); go_simp; try with_reducible rfl)
            simp only [PT]
            refine tkT 11 6 (oi := ⟨some 37, _, _, _, _, _⟩) (v := ?_) rfl (by kernel_rfl) (.inl ⟨by rfl, ?_⟩) hHeld ?_; rotate_left; focus (intro w hSw; (try dsimp only at hSw); go_simp; try with_reducible rfl)
            simp only [PT]
            refine' tkT 11 7 (oi := ⟨some 38, _, _, _, _, _⟩) (v := _) rfl (by kernel_rfl) (yields_loadC (by rfl) 3 (.tmp 37) rfl gt (i0 * 5) rfl (.int .i64 (u.q : Int)) (fun _ h => h.2) Try.underlying3 rfl) hHeld ?_
            simp only [PT]
            refine' tkT 11 8 (oi := ⟨some 39, _, _, _, _, _⟩) (v := _) rfl (by kernel_rfl) (yields_addI (by rfl) (.tmp 34) (.tmp 38) rfl (c : Int) (u.q : Int) hwr rfl rfl) hHeld ?_
            simp only [PT]
            refine wpAnyT_ready (rs := [9]) (by kernel_rfl) (by simp) ?_
            refine (AllReadyT.cons (o := ⟨some 40, _, _, _, _, _⟩) rfl (fun K hK => ?_) AllReadyT.nil)
            (go_simp)
            refine hK.out _ _ (fun _ => ?_) (fun hHeld => ?_)
            focus (exact ⟨Below.cellH HC1 (HB.out.trans (Below.mono bup HB.out.size)), Below.cellH HC0 (HB.out.trans (Below.mono bup HB.out.size))⟩)
            replace hHeld := hHeld (by decide)
            clear hK K
            try simp only [PT]
            refine wpAnyT_ready (rs := [10]) (by kernel_rfl) (by simp) ?_
            refine (AllReadyT.cons (o := ⟨some 41, _, _, _, _, _⟩) rfl (fun K hK => ?_) AllReadyT.nil)
            (go_simp)
            refine hK.out _ _ (fun _ => ?_) (fun hHeld => ?_)
            focus (exact ⟨Below.cellH HC1 (HB.out.trans (Below.mono bup HB.out.size)), Below.cellH HC0 (HB.out.trans (Below.mono bup HB.out.size))⟩)
            replace hHeld := hHeld (by decide)
            clear hK K
            try simp only [PT]
            refine wpAnyT_ready (rs := [11]) (by kernel_rfl) (by simp) ?_
            refine (AllReadyT.cons (o := ⟨none, _, _, _, _, _⟩) rfl (fun K hK => ?_) AllReadyT.nil)
            (go_must (refine step_storeTu rfl (.tmp 41) (.tmp 39) rfl (HF.out.keep (HB.out.trans (Below.mono bup HB.out.size))) i0 1 hi1 (by omega) ((c : Int) + (u.q : Int)) ⟨u.q, c + u.q, u.off, u.skip, k⟩ (by rw [HTV.out]; rfl) rfl rfl ?_); intro w1 hf hg; go_must (have HBTn := Lib.hid ((HBT.out.trans (But.of_below (HB.out.trans (Below.mono bup HB.out.size)))).trans (But.of_p hg))); clear HF HBT HB; have HBT := HBTn; have HF := Lib.hid hf; have HB := Lib.hid (Below.refl w1.heap.size w1); go_must (have hcr : w1.cell? ⟨gt, i0 * 5 + 1, none⟩ = some (.int .i64 ((c : Int) + (u.q : Int))) := hf.tc (by rw [List.length_set]; exact hi1) (j := 1) (by omega) (by rw [List.getElem_set_self]; rfl)); clear hf hg HBTn)
            refine hK.out _ _ (fun h => absurd rfl h) (fun hHeld => ?_)
            clear hK K
            try simp only [PT]
            refine wpAnyT_done (by kernel_rfl) ?_ _
            go_upto_if 63 with (first
              | ((with_reducible show wpList _ _ _ (⟨none, .store _ (.tmp 55) (.tmp 53), _, _, _, _⟩ :: _) _ _); go_must (refine wpL_storeTu rfl (.tmp 55) (.tmp 53) rfl (HF.out.keep (HB.out.trans (Below.mono bup HB.out.size))) i0 1 (by rw [List.length_set]; exact hi1) (by omega) ((c : Int) + (u.q : Int) - (G : Int)) ⟨u.q, c + u.q - G, u.off, u.skip, k⟩ (by rw [List.getElem_set_self]; exact cells_cr HZ.out) rfl rfl ?_); intro w2 hf hg; go_must (rw [List.set_set] at hf); go_must (have HBTn := Lib.hid ((HBT.out.trans (But.of_below (HB.out.trans (Below.mono bup HB.out.size)))).trans (But.of_p hg))); clear HF HBT HB; have HBT := HBTn; have HF := Lib.hid hf; have HB := Lib.hid (Below.refl w2.heap.size w2); clear hf hg HBTn; simp only [PT])
              | (go_at_call 41; go_must (refine (take_fill bt gt ct bs gs cs (ts'.set i0 ⟨u.q, c + u.q - G, u.off, u.skip, k⟩) s'.sl n HLS.out i0 (by rw [List.length_set]; exact hi1) ⟨u.q, c + u.q - G, u.off, u.skip, k⟩ (List.getElem_set_self _) i0 kf ⟨by omega, by omega⟩ (Nat.lt_of_lt_of_le HUQ.out.2.2.2.2.1 (by omega)) (Nat.lt_of_lt_of_le HUQ.out.2.2.2.2.2.2 (by omega)) (by omega) hkk (by rw [← HCH.out]; exact HF2.out) (fun j _ hj => by rw [← HCH.out]; exact HF3.out j hj) (fun j => by rw [← HCH.out]; exact (HU.out.ord hiu).lt j) _ (HF.out.keep (HB.out.trans (Below.mono bup HB.out.size)))).mono ?_); rintro e w3 ⟨rfl, hf, hb⟩; go_must (rw [List.set_set] at hf); go_must (have HBTn := Lib.hid ((HBT.out.trans (But.of_below (HB.out.trans (Below.mono bup HB.out.size)))).trans hb)); clear HF HBT HB; have HBT := HBTn; have HF := Lib.hid hf; have HB := Lib.hid (Below.refl w3.heap.size w3); clear hf hb HBTn))
            have HSN : Hid ((⟨s'.cr.set i0 (c + u.q - G), s'.sl.set (choiceN u.off u.skip n kf) (i0 : Int), s'.left - 1⟩ : Stt) = R (t * m + (i0 + 1))) := Lib.hid (by rw [HSP.out]; unfold stepS; rw [HQS.out, ← HCE.out, if_neg hge, ← HKF.out, HCH.out])
            have HTN := Lib.hid (HTW.out.took hiu hic (c + u.q - G) (s'.left - 1) hf1 (z := (i0 : Int)) (by omega) (by rw [HLS.out]; exact (HU.out.ord hiu).lt kf) HF3.out)
            rw [← HUE.out, HCH.out] at HTN
            have hle1 : ((s'.left - 1 : Nat) : Int) = (s'.left : Int) - 1 := by omega
            by_cases hlast : s'.left = 1
            · have hbl : ((s'.left : Int) - 1 == 0) = true := by rw [hlast]; rfl
              go_wp2_with fail
              rw [Exit.noGoto_normal]
              go_end0
              refine ⟨rfl, t * m + (i0 + 1), ts'.set i0 ⟨u.q, c + u.q - G, u.off, u.skip, kf + 1⟩, HDN.out _ (by rw [← HSN.out]; show s'.left - 1 = 0; omega) (fun v hv => HPO.out v (by omega)), ?_, HBT.out⟩
              rw [← HRS.out, ← HSN.out]
              exact HF.out
            · have hbl : ((s'.left : Int) - 1 == 0) = false := by
                rw [beq_eq_false_iff_ne]
                omega
              have hbl2 : ¬ (s'.left : Int) - 1 = 0 := by omega
              go_wp2_with fail
              go_roundg (m - (i0 + 1))
              case measure => omega
              case rel => exact ⟨i0 + 1, _, _, rfl, by omega, by go_num, congrArg (Value.int .i64) hle1.symm, by show 0 < s'.left - 1; omega, by show s'.left - 1 ≤ s.left; omega, (fun h => by show s'.left - 1 < s.left; omega), HSN, Lib.hid (fun v hv => by
                rcases Nat.lt_or_ge v (t * m + (i0 + 1)) with h1 | h1
                · exact HPO.out v (by omega)
                · obtain rfl : v = t * m + (i0 + 1) := by omega
                  rw [← HSN.out]
                  show 0 < s'.left - 1
                  omega), HF, HTN, HBT⟩
    have hlt : k < m := by omega
    have hku : k < us.length := by rw [← HM.out]; exact hlt
    obtain ⟨u, hu⟩ : ∃ u, u = us[k] := ⟨_, rfl⟩
    have HR := Lib.hid (show wr.rangeAt gt (k * 5) u.cells by rw [hu]; exact (HFI.out.keep HB.out).row hku)
    have HTK : Hid (maxQ (us.take (k + 1)) = max (maxQ (us.take k)) u.q) := Lib.hid (by rw [hu, List.take_succ_eq_append_getElem hku, maxQ_snoc])
    have HIU : Hid ((Try.prog.info? 55).map (fun i => (i.zero, i.size)) = some (some (.agg zeroU.cells.toArray), u.cells.toArray.size)) := Lib.hid tu_info
    have hq2 : u.q ≤ 1024000 := by rw [hu]; exact (HU.out.one _ (List.getElem_mem hku)).2.2.2.1
    have hg2 : maxQ (us.take k) ≤ 1024000 := maxQ_bound fun u hu => (HU.out.one u (List.mem_of_mem_take hu)).2.2.2.1
    obtain ⟨g0, hg0⟩ : ∃ g0, g0 = maxQ (us.take k) := ⟨_, rfl⟩
    rw [← hg0] at HTK hg2 ⊢
    clear hu hg0
    go_wp2_with (first
      | ((with_reducible refine sl 15 ?_); go_must (refine wpL_load rfl 55 (.tmp 14) rfl gt (k * 5) rfl u.cells _ HR.out Try.underlying55 rfl (tu_one u) ?_); simp only [PT])
      | ((with_reducible refine sl 6 ?_); go_must (refine wpL_newG rfl rfl 55 rfl (.tmp 6) (.tmp 15) rfl u.cells.toArray zeroU.cells.toArray HIU.out rfl (tu_allone _) (fun _ => rfl) (fun _ => rfl) ?_); intro wn6 g6 le_6 hg__ hb__; have hE__ := cU HB bup hb__; replace HB := ck HB hE__; clear hE__ hb__; have HG6 := Lib.hid hg__; clear hg__; simp only [PT])
      | ((with_reducible refine sl 18 ?_); go_must (refine wpL_loadF rfl 3 (.tmp 17) rfl g6 0 rfl (.int .i64 (u.q : Int)) HG6.out rfl Try.underlying3 rfl ?_); simp only [PT]))
    all_goals
      go_roundw
      case rel => exact ⟨k + 1, by omega, by go_num, by rw [HTK.out]; first | rfl | (congr 1; omega), Lib.hid (HB.out.trans (Below.mono bup HB.out.size))⟩
      case measure => first | (simp [intOf]; done) | (simp [intOf]; omega)
end Go.Proofs.Ytaadpldijnegkaa
/-
  Chapter 17: shares sorted by their names: slices.SortFunc, SortedFunc, sorted: walked (written by gen/mg3.py).
-/
namespace Go.Proofs.Ytaadpldijnegkaa
open Go.Shelf Go.RowKit Go.Lib Go.Sort
set_option linter.unusedVariables false
set_option linter.unusedSimpArgs false
set_option maxRecDepth 100000
set_option maxHeartbeats 8000000
shelf_lay_g SlLaysF0.n6 Slsf 6 at Try 46 as sortShares

theorem cb_self : ∀ a : List UInt8, Lib.compareBytes a a = 0
  | [] => rfl
  | x :: a => by simp [Lib.compareBytes, UInt8.lt_irrefl, cb_self a]
theorem cb_eq : ∀ a b : List UInt8, Lib.compareBytes a b = 0 → a = b
  | [], [], _ => rfl
  | [], _ :: _, h => by simp [Lib.compareBytes] at h
  | _ :: _, [], h => by simp [Lib.compareBytes] at h
  | x :: a, y :: b, h => by
    unfold Lib.compareBytes at h
    split at h
    · simp at h
    · split at h
      · simp at h
      · rename_i h1 h2
        have e : x = y := UInt8.le_antisymm (UInt8.not_lt.1 h2) (UInt8.not_lt.1 h1)
        rw [e, cb_eq a b h]
theorem cb_swap : ∀ a b : List UInt8, Lib.compareBytes b a = - Lib.compareBytes a b
  | [], [] => rfl
  | [], _ :: _ => rfl
  | _ :: _, [] => rfl
  | x :: a, y :: b => by
    unfold Lib.compareBytes
    by_cases h1 : x < y
    · have h2 : ¬ y < x := fun h => UInt8.lt_irrefl _ (UInt8.lt_trans h1 h)
      rw [if_pos h1, if_neg h2, if_pos h1]; rfl
    · by_cases h2 : y < x
      · simp [h1, h2]
      · rw [if_neg h1, if_neg h2, if_neg h2, if_neg h1, cb_swap a b]
theorem cb_trans : ∀ a b c : List UInt8, Lib.compareBytes a b < 0 → Lib.compareBytes b c < 0 → Lib.compareBytes a c < 0
  | [], [], _, h, _ => by simp [Lib.compareBytes] at h
  | [], _ :: _, [], _, h => by simp [Lib.compareBytes] at h
  | [], _ :: _, _ :: _, _, _ => by simp [Lib.compareBytes]
  | _ :: _, [], _, h, _ => by simp [Lib.compareBytes] at h
  | _ :: _, _ :: _, [], _, h => by simp [Lib.compareBytes] at h
  | x :: a, y :: b, z :: c, h, k => by
    unfold Lib.compareBytes at h k ⊢
    by_cases h1 : x < y
    · by_cases h2 : y < z
      · rw [if_pos (UInt8.lt_trans h1 h2)]; decide
      · by_cases h3 : z < y
        · rw [if_neg h2, if_pos h3] at k; simp at k
        · have e : y = z := UInt8.le_antisymm (UInt8.not_lt.1 h3) (UInt8.not_lt.1 h2)
          subst e
          rw [if_pos h1]; decide
    · by_cases h2 : y < x
      · rw [if_neg h1, if_pos h2] at h; simp at h
      · have e : x = y := UInt8.le_antisymm (UInt8.not_lt.1 h2) (UInt8.not_lt.1 h1)
        subst e
        rw [if_neg (UInt8.lt_irrefl _), if_neg (UInt8.lt_irrefl _)] at h
        by_cases h3 : x < z
        · rw [if_pos h3]; decide
        · by_cases h4 : z < x
          · rw [if_neg h3, if_pos h4] at k; simp at k
          · rw [if_neg h3, if_neg h4] at k ⊢
            exact cb_trans a b c h k
theorem nmC_self (a : ByteArray) : nmC a a = 0 := cb_self _
theorem nmC_swap (a b : ByteArray) : nmC b a = - nmC a b := cb_swap _ _
theorem nmC_trans {a b c : ByteArray} (h : nmC a b < 0) (k : nmC b c < 0) : nmC a c < 0 := cb_trans _ _ _ h k
theorem nmC_eq {a b : ByteArray} (h : nmC a b = 0) : a = b := by
  have := cb_eq _ _ h
  obtain ⟨⟨a⟩⟩ := a
  obtain ⟨⟨b⟩⟩ := b
  simp at this
  rw [this]
/-- one name ahead of another -/
def nmL (a b : ByteArray) : Bool := decide (nmC a b < 0)
theorem nmL_irr (a : ByteArray) : nmL a a = false := by simp [nmL, nmC_self]
theorem nmL_trans {a b c : ByteArray} (h : nmL a b = true) (k : nmL b c = true) : nmL a c = true := by
  simp only [nmL, decide_eq_true_eq] at *
  exact nmC_trans h k
theorem nmL_tri {a b : ByteArray} (h : nmL a b = false) (k : nmL b a = false) : a = b := by
  simp only [nmL, decide_eq_false_iff_not] at h k
  have := nmC_swap a b
  exact nmC_eq (by omega)
theorem nmL_asym {a b : ByteArray} (h : nmL a b = true) : nmL b a = false := by
  cases k : nmL b a with
  | false => rfl
  | true => have := nmL_trans h k; rw [nmL_irr] at this; cases this
def encSh (y : ShV) : List Value := y.cells
def cfS (a b : ShV) : Int := nmC a.name b.name
theorem ltS (a b : ShV) : ltOf cfS a b = nmL a.name b.name := rfl
theorem swoS : SWO (ltOf cfS) where
  irrefl x := by rw [ltS]; exact nmL_irr _
  trans x y z h k := by rw [ltS] at *; exact nmL_trans h k
  ntrans x y z h k := by
    rw [ltS] at *
    cases hz : nmL x.name z.name with
    | false => rfl
    | true =>
      exfalso
      cases h2 : nmL y.name x.name with
      | true => have := nmL_trans h2 hz; rw [this] at k; cases k
      | false =>
        have e := nmL_tri h h2
        rw [e, k] at hz
        cases hz
theorem cmpLaysS (blk off size : Nat) (w : World) : CmpLays Try.prog 36 #[] encSh 2 cfS blk off size w :=
  fun m os dk hs a b => (calls_drawn (byName_any a b _)).mono fun e w' ⟨he, hb, hd⟩ => ⟨he, grown_of_below hb hd⟩
theorem isAggS (w : World) : (isAgg 48).run Try.prog w = .ok true w := by
  unfold isAgg
  rw [Sem.run_bind, run_underlying Try.underlying48 w]
  rfl
theorem sizeOfS (w : World) : (Go.sizeOf 48).run Try.prog w = .ok 2 w := by
  have h := sh_size
  cases hi : Try.prog.info? 48 with
  | none => rw [hi] at h; cases h
  | some i =>
    rw [hi] at h
    simp only [Option.map_some, Option.some.injEq] at h
    simp [Go.sizeOf, typeInfo, hi, h]
theorem flatK_list (d : Array ShV) : (flatK encSh 2 d).toList = shC d.toList := by
  apply List.ext_getElem?
  intro i
  have hl : (shC d.toList).length = d.size * 2 := by rw [shC_length]; simp
  by_cases h : i < d.size * 2
  · have hj : i % 2 < 2 := Nat.mod_lt _ (by omega)
    have hi : i / 2 < d.size := by omega
    have e := shC_at d.toList (i / 2) (i % 2) (by simpa using hi) hj
    rw [show i / 2 * 2 + i % 2 = i by omega] at e
    rw [e, List.getElem?_eq_getElem (by simpa using h)]
    have g := get_flatK encSh 2 d i h
    rw [getElem!_pos (flatK encSh 2 d) i (by simpa using h), getElem!_pos d (i / 2) hi] at g
    rw [Array.getElem_toList, g]
    have hc : i % 2 < (encSh d[i / 2]).length := by show _ < (d[i / 2].cells).length; rw [ShV.length]; exact hj
    rw [getElem!_pos (encSh d[i / 2]) (i % 2) hc]
    simp only [Array.getElem_toList]
    exact (List.getElem?_eq_getElem hc).symm
  · rw [List.getElem?_eq_none (by simp; omega), List.getElem?_eq_none (by rw [hl]; omega)]
theorem holdsN {w : World} {g : Nat} {cur : Array Value} {e : TypeId} {l : List ShV} (h : w.heap[g]? = some (.cells cur e (0, 0))) (ht : cur.toList.take (l.length * 2) = shC l) : HoldsK encSh 2 w g 0 l.toArray := by
  intro j hj
  rw [size_flatK] at hj
  have hj' : j < l.length * 2 := by simpa using hj
  have e : (flatK encSh 2 l.toArray).toList[j]? = cur[j]? := by
    rw [flatK_list, ← ht, List.getElem?_take, if_pos hj', Array.getElem?_toList]
  have hlt : j < (flatK encSh 2 l.toArray).size := by rw [size_flatK]; exact hj
  rw [Array.getElem?_toList, Array.getElem?_eq_getElem hlt] at e
  refine ⟨?_, by simp [World.frozen?, h]⟩
  rw [getElem!_pos (flatK encSh 2 l.toArray) j hlt, Nat.zero_add]
  simp only [World.cell?, h]
  simpa using e.symm
theorem put_size {α : Type} [Inhabited α] (enc : α → Value) (off : Nat) (d : Array α) (c : Array Value) : (putCells enc off d c).size = c.size := by simp [putCells]
theorem put_take (F : Array Value) (c : Array Value) (h : F.size ≤ c.size) : (putCells id 0 F c).toList.take F.size = F.toList := by
  apply List.ext_getElem?
  intro i
  rw [List.getElem?_take]
  by_cases hi : i < F.size
  · rw [if_pos hi, Array.getElem?_toList]
    unfold putCells
    rw [Array.getElem?_mapIdx, Array.getElem?_eq_getElem (by omega : i < c.size), Option.map_some, if_pos ⟨Nat.zero_le _, by omega⟩, Nat.sub_zero, getElem!_pos F i hi]
    rw [Array.getElem?_toList, Array.getElem?_eq_getElem hi]
    rfl
  · rw [if_neg hi, List.getElem?_eq_none (by simpa using hi)]
/-- the world behind the sort -/
theorem sortWorld_own {w : World} {base g n c : Nat} {l l' : List ShV} {m : Nat} {os : Array Obj} (h : w.ownsRow base 48 2 (.slice (some ⟨g, 0, none⟩) n c) n (shC l)) (hn : l.length = n) (hl : l'.length = n) :
    (sortWorldK encSh 2 w g 0 m l'.toArray os).ownsRow base 48 2 (.slice (some ⟨g, 0, none⟩) n c) n (shC l') ∧ w.grownBy (sortWorldK encSh 2 w g 0 m l'.toArray os) (some g) := by
  obtain ⟨h1, h2⟩ := h
  rcases h2 with ⟨h2, _⟩ | ⟨g', cap, cur, hv, hb, hg, hnc, hcm, hcs, ht⟩
  · cases h2
  · cases hv
    have lt := lt_of_block hg
    have hF : (flatK encSh 2 l'.toArray).size = n * 2 := by rw [size_flatK]; simp [hl]
    have hle : (flatK encSh 2 l'.toArray).size ≤ cur.size := by rw [hF, hcs]; exact Nat.mul_le_mul_right _ hnc
    have hblk : (sortWorldK encSh 2 w g 0 m l'.toArray os).heap[g]? = some (.cells (putCells id 0 (flatK encSh 2 l'.toArray) cur) 48 (0, 0)) := by
      have e : (putRowK encSh 2 (Sort.ahead w m) g 0 l'.toArray).heap[g]? = some (.cells (putCells id 0 (flatK encSh 2 l'.toArray) cur) 48 (0, 0)) := by
        show ((w.heap.modify g (onCells (putCells id 0 (flatK encSh 2 l'.toArray))))[g]?) = _
        rw [Array.getElem?_modify, if_pos rfl, hg]
        rfl
      show ((putRowK encSh 2 (Sort.ahead w m) g 0 l'.toArray).heap ++ os)[g]? = _
      rw [Array.getElem?_append_left (by have := lt_of_block e; exact this)]
      exact e
    refine ⟨⟨by rw [shC_length]; simp [hl], .inr ⟨g, c, _, rfl, hb, hblk, hnc, hcm, by rw [put_size]; exact hcs, ?_⟩⟩, ⟨rfl, rfl, rfl, ?_, ?_⟩⟩
    · have e := put_take _ cur hle
      rw [hF, flatK_list] at e
      exact e
    · show w.heap.size ≤ ((w.heap.modify g _) ++ os).size
      simp
    · intro k hk hne
      show (((w.heap.modify g _) ++ os)[k]?) = _
      rw [Array.getElem?_append_left (by simpa using hk), Array.getElem?_modify, if_neg (fun e => hne (by rw [e]))]
/-- **SORTED** -/
theorem sort_any (base : Nat) (ad : Option Addr) (n c : Nat) (l : List ShV) (hn : l.length = n) (hsz : n ≤ 1000000) (w : World) (h : w.ownsRow base 48 2 (.slice ad n c) n (shC l)) :
    Calls Try.prog 46 #[.slice ad n c, .func (.func 36) #[] #[]] w fun e w' => e = .returned (.tuple #[]) ∧ ∃ l' : List ShV, l'.Perm l ∧ l'.Pairwise (fun a b => nmL b.name a.name = false) ∧ w'.ownsRow base 48 2 (.slice ad n c) n (shC l') ∧ w.grownBy w' (Value.ownBlock (.slice ad n c)) := by
  have hcase := h
  obtain ⟨h1, h2⟩ := hcase
  rcases h2 with ⟨h2, h0⟩ | ⟨g, cap, cur, hv, hb, hg, hnc, hcm, hcs, ht⟩
  · cases h2
    have hc := AnyF.slices_SortFunc_none sortShares none 0 (.func (.func 36) #[] #[]) w
    refine Calls.mono hc fun e w' ⟨he, hw⟩ => ?_
    subst hw
    exact ⟨he, l, List.Perm.refl _, by cases l with | nil => exact List.Pairwise.nil | cons a b => simp at hn, h, ⟨rfl, rfl, rfl, Nat.le_refl _, fun _ _ _ => rfl⟩⟩
  · simp only [Value.slice.injEq] at hv
    obtain ⟨rfl, -, rfl⟩ := hv
    have eg : ∀ args w, (callFunc 36 args).run Try.prog w = .ok (.enter 36 args) w := enters_of Try.func36 (by kernel_rfl) rfl
    have hc := AnyQ.slices_SortFunc sortShares 2 isAggS sizeOfS encSh (fun y => ShV.length y) (fun y v hv => ShV.one y v hv) cfS swoS 36 #[] g 0 c l.toArray w eg (cmpLaysS g 0 _ w) (holdsN hg (by rw [hn]; exact ht)) (lt_of_block hg) (by simp; omega)
    simp only [List.size_toArray, hn] at hc
    refine Calls.mono hc fun e w' ⟨he, d', m, os, hp, hs, hw⟩ => ?_
    subst hw
    have hsize : d'.size = n := by have := hp.1; simpa [hn] using this
    have hd' : d' = d'.toList.toArray := by simp
    have hext : ∀ (d : Array ShV), d.size = n → d.extract 0 n = d := fun d hd => by rw [← hd]; simp
    have hperm : d'.toList.Perm l := by
      have := hp.2.2
      rw [hext d' hsize, hext l.toArray (by simpa using hn)] at this
      simpa using this
    have ho := sortWorld_own (l' := d'.toList) (m := m) (os := os) h hn (by simpa using hsize)
    rw [← hd'] at ho
    refine ⟨he, d'.toList, hperm, ?_, ho.1, ho.2⟩
    rw [List.pairwise_iff_getElem]
    intro i j hi hj hij
    have hi' : i < d'.size := by simpa using hi
    have hj' : j < d'.size := by simpa using hj
    have := hs i j (Nat.zero_le _) hij (by rw [← hsize]; exact hj')
    rw [ltS, getElem!_pos d' i hi', getElem!_pos d' j hj'] at this
    simpa using this
/-- what the sorted shares are -/
def RetS (l : List ShV) (w : World) (e : Ending) (w' : World) : Prop :=
  ∃ ad c, ∃ l' : List ShV, e = .returned (.slice ad l'.length c) ∧ l'.Perm l ∧ l'.Pairwise (fun a b => nmL b.name a.name = false) ∧ w'.ownsRow w.heap.size 48 2 (.slice ad l'.length c) l'.length (shC l') ∧ RowKit.Below w.heap.size w w'
theorem sortedFunc_any (B : Nat) (adl : Option Addr) (m cl : Nat) (xs : List ShV) (hm : m ≤ 1000000) (w : World) (ht : Shs w adl m cl xs) (hBB : w.heap[B]? = some (.cells #[.slice adl m cl] 23 (0, 0))) :
    Calls Try.prog 34 #[.func (.func 47) #[] #[.pointer (some ⟨B, 0, none⟩)], .func (.func 36) #[] #[]] w (RetS xs w) := by
  have HT := Lib.hid ht
  have HBB := Lib.hid hBB
  have HLN := Lib.hid ht.len
  obtain ⟨n, hn⟩ : ∃ n, n = xs.length := ⟨_, rfl⟩
  have HNN := Lib.hid hn
  have hn2 : n ≤ 1000000 := by have := HLN.out; omega
  clear ht hBB hn
  go_enter Try.func34, Try.ntmps34
  go_wp2_with (first
    | (go_at_call 45; go_must (refine (collect_any B adl m cl xs _ HT.out hm HBB.out).mono ?_); rintro e w2 ⟨ad, c, rfl, ho, hb⟩; rw [← HNN.out] at ho ⊢; have HO := Lib.hid ho; have HB := Lib.hid hb; clear ho hb)
    | (go_at_call 46; go_must (refine (sort_any _ ad n c xs (by rw [HNN.out]) hn2 _ HO.out).mono ?_); rintro e w3 ⟨rfl, l', hp, hs, ho3, hg3⟩; have HP := Lib.hid hp; have HS := Lib.hid hs; have HO3 := Lib.hid ho3; have HB3 := Lib.hid (HB.out.grown hg3 HB.out.size (ownBlock_ge HO.out)); clear hp hs ho3 hg3))
  go_ret
  have e : l'.length = n := by rw [HP.out.length_eq, HNN.out]
  exact ⟨ad, c, l', by rw [e]; rfl, HP.out, HS.out, by rw [e]; exact HO3.out, HB3.out⟩
theorem sorted_any (ad : Option Addr) (m c : Nat) (xs : List ShV) (hm : m ≤ 1000000) (w : World) (h : Shs w ad m c xs) :
    Calls Try.prog 25 #[.slice ad m c] w (RetS xs w) := by
  have HT := Lib.hid h
  have HB := Lib.hid (RowKit.Below.refl w.heap.size w)
  clear h
  go_enter Try.func25, Try.ntmps25
  go_wp2_with (first
    | (go_at_call 35; go_must (refine (values_any ad m c _).mono ?_); intro e w6 hr; obtain ⟨B, rfl, hBB, le_B, hb__⟩ := hr; have hE__ := cU HB bup hb__; replace HB := ck HB hE__; replace HT := ck HT hE__; clear hE__; have HBB := Lib.hid hBB; clear hb__ hBB)
    | (go_at_call 34; go_must (refine (sortedFunc_any B ad m c xs hm _ HT.out HBB.out).mono ?_); intro e w7 hr; obtain ⟨ad', c', l, rfl, h1, h2, h3, h4⟩ := hr; have H1 := Lib.hid h1; have H2 := Lib.hid h2; have H3 := Lib.hid (own_base h3 HB.out.size); have hE__ := cU HB bup h4; replace HB := ck HB hE__; clear hE__; clear h1 h2 h3 h4))
  go_ret
  exact ⟨ad', c', l, rfl, H1.out, H2.out, H3.out, HB.out⟩
end Go.Proofs.Ytaadpldijnegkaa
/-
  Chapter 17: what Build has in memory while it gathers names and turns.
-/
namespace Go.Proofs.Ytaadpldijnegkaa
open Go.RowKit Go.Sort
set_option linter.unusedVariables false
set_option linter.unusedSimpArgs false
set_option maxRecDepth 100000
set_option maxHeartbeats 4000000

def stV (l : List ByteArray) : List Value := l.map Value.string
theorem stV_length (l : List ByteArray) : (stV l).length = l.length := by simp [stV]
theorem stV_snoc (l : List ByteArray) (s : ByteArray) : stV (l ++ [s]) = stV l ++ [.string s] := by simp [stV]
theorem own_farB {w : World} {b e s : Nat} {ad : Option Addr} {n c : Nat} {xs : List Value} (h : w.ownsRow b e s (.slice ad n c) n xs) {g T : Nat} {cs : Array Value} (hg : w.heap[g]? = some (.cells cs T (0, 0))) (hne : e ≠ T) : Value.ownBlock (.slice ad n c) ≠ some g := by
  rcases h.2 with ⟨h0, _⟩ | ⟨g', cap, cur, hv, hb, hg', _⟩
  · rw [h0]; intro e; cases e
  · rw [hv]
    intro e
    obtain rfl : g' = g := Option.some.inj e
    rw [hg'] at hg
    cases hg
    exact hne rfl
theorem own_farR {w : World} {b e s b2 e2 s2 : Nat} {ad ad2 : Option Addr} {n c n2 c2 : Nat} {xs ys : List Value} (h : w.ownsRow b e s (.slice ad n c) n xs) (k : w.ownsRow b2 e2 s2 (.slice ad2 n2 c2) n2 ys) (hne : e ≠ e2) : Value.ownBlock (.slice ad n c) = none ∨ Value.ownBlock (.slice ad n c) ≠ Value.ownBlock (.slice ad2 n2 c2) := by
  rcases k.2 with ⟨h0, _⟩ | ⟨g', cap, cur, hv, hb, hg', _⟩
  · rw [h0]
    cases h1 : Value.ownBlock (.slice ad n c) with
    | none => exact .inl rfl
    | some g => exact .inr (fun e => by cases e)
  · rw [hv]
    exact .inr (own_farB h hg' hne)
/-- what Build has in memory -/
structure Bst (W w : World) (kb : List UInt8) (g3 g6 g8 : Nat) (sv : Value) (a1 : Option Addr) (c1 : Nat) (nms : List ByteArray) (a2 : Option Addr) (c2 : Nat) (us : List TurnV) : Prop where
  b3 : w.heap[g3]? = some (.cells (BV kb).toArray 22 (0, 0))
  b6 : w.heap[g6]? = some (.cells #[.slice none 0 0, .slice none 0 0] 30 (0, 0))
  b8 : w.heap[g8]? = some (.cells #[sv, .slice none 0 0] 30 (0, 0))
  nm : w.ownsRow W.heap.size 9 1 (.slice a1 nms.length c1) nms.length (stV nms)
  tu : w.ownsRow W.heap.size 55 5 (.slice a2 us.length c2) us.length (tuC us)
  bel : Below W.heap.size W w
  l8 : W.heap.size ≤ g8
  ne : g6 ≠ g8
section
variable {W w w' : World} {kb : List UInt8} {g3 g6 g8 : Nat} {sv : Value} {a1 : Option Addr} {c1 : Nat} {nms : List ByteArray} {a2 : Option Addr} {c2 : Nat} {us : List TurnV}
theorem Bst.below (h : Bst W w kb g3 g6 g8 sv a1 c1 nms a2 c2 us) (hb : Below w.heap.size w w') : Bst W w' kb g3 g6 g8 sv a1 c1 nms a2 c2 us :=
  ⟨(hb.block g3 (lt_of_block h.b3)).trans h.b3, (hb.block g6 (lt_of_block h.b6)).trans h.b6, (hb.block g8 (lt_of_block h.b8)).trans h.b8, own_keep h.nm hb, own_keep h.tu hb, h.bel.trans (hb.mono h.bel.size), h.l8, h.ne⟩
theorem Bst.pushN (h : Bst W w kb g3 g6 g8 sv a1 c1 nms a2 c2 us) {a' : Option Addr} {c' : Nat} {s : ByteArray} (ho : w'.ownsRow W.heap.size 9 1 (.slice a' (nms.length + 1) c') (nms.length + 1) (stV nms ++ [.string s])) (hg : w.grownBy w' (Value.ownBlock (.slice a1 nms.length c1))) :
    Bst W w' kb g3 g6 g8 sv a' c' (nms ++ [s]) a2 c2 us :=
  ⟨(hg.block g3 (lt_of_block h.b3) (own_farB h.nm h.b3 (by decide)).symm).trans h.b3, (hg.block g6 (lt_of_block h.b6) (own_farB h.nm h.b6 (by decide)).symm).trans h.b6, (hg.block g8 (lt_of_block h.b8) (own_farB h.nm h.b8 (by decide)).symm).trans h.b8,
    by rw [List.length_append, List.length_singleton, stV_snoc]; exact ho, h.tu.kept hg (own_farR h.tu h.nm (by decide)), h.bel.grown hg h.bel.size (fun k hk => ownBlock_ge h.nm k hk), h.l8, h.ne⟩
theorem Bst.pushT (h : Bst W w kb g3 g6 g8 sv a1 c1 nms a2 c2 us) {a' : Option Addr} {c' : Nat} {u : TurnV} (ho : w'.ownsRow W.heap.size 55 5 (.slice a' (us.length + 1) c') (us.length + 1) (tuC us ++ u.cells)) (hg : w.grownBy w' (Value.ownBlock (.slice a2 us.length c2))) :
    Bst W w' kb g3 g6 g8 sv a1 c1 nms a' c' (us ++ [u]) :=
  ⟨(hg.block g3 (lt_of_block h.b3) (own_farB h.tu h.b3 (by decide)).symm).trans h.b3, (hg.block g6 (lt_of_block h.b6) (own_farB h.tu h.b6 (by decide)).symm).trans h.b6, (hg.block g8 (lt_of_block h.b8) (own_farB h.tu h.b8 (by decide)).symm).trans h.b8,
    h.nm.kept hg (own_farR h.nm h.tu (by decide)), by rw [List.length_append, List.length_singleton, tuC_snoc]; exact ho, h.bel.grown hg h.bel.size (fun k hk => ownBlock_ge h.tu k hk), h.l8, h.ne⟩
theorem Bst.far6 (h : Bst W w kb g3 g6 g8 sv a1 c1 nms a2 c2 us) : Value.ownBlock (.slice a1 nms.length c1) ≠ some g6 := own_farB h.nm h.b6 (by decide)
theorem Bst.far8 (h : Bst W w kb g3 g6 g8 sv a1 c1 nms a2 c2 us) : Value.ownBlock (.slice a1 nms.length c1) ≠ some g8 := own_farB h.nm h.b8 (by decide)
theorem Bst.farT8 (h : Bst W w kb g3 g6 g8 sv a1 c1 nms a2 c2 us) : Value.ownBlock (.slice a2 us.length c2) ≠ some g8 := own_farB h.tu h.b8 (by decide)
theorem Bst.farT6 (h : Bst W w kb g3 g6 g8 sv a1 c1 nms a2 c2 us) : Value.ownBlock (.slice a2 us.length c2) ≠ some g6 := own_farB h.tu h.b6 (by decide)
theorem Bst.farNT (h : Bst W w kb g3 g6 g8 sv a1 c1 nms a2 c2 us) : Value.ownBlock (.slice a1 nms.length c1) = none ∨ Value.ownBlock (.slice a1 nms.length c1) ≠ Value.ownBlock (.slice a2 us.length c2) := own_farR h.nm h.tu (by decide)
theorem Bst.st8 (h : Bst W w kb g3 g6 g8 sv a1 c1 nms a2 c2 us) {sv' : Value} (hs : w'.heap[g8]? = some (.cells #[sv', .slice none 0 0] 30 (0, 0))) (hg : w.grownBy w' (some g8)) :
    Bst W w' kb g3 g6 g8 sv' a1 c1 nms a2 c2 us :=
  ⟨(hg.block g3 (lt_of_block h.b3) (fun e => by
      obtain rfl : g3 = g8 := Option.some.inj e
      have := h.b3.symm.trans h.b8
      simp at this)).trans h.b3, (hg.block g6 (lt_of_block h.b6) (fun e => h.ne (Option.some.inj e))).trans h.b6, hs,
    h.nm.kept hg (.inr (own_farB h.nm h.b8 (by decide))), h.tu.kept hg (.inr (own_farB h.tu h.b8 (by decide))), h.bel.grown hg h.bel.size (fun k hk => by cases hk; exact h.l8), h.l8, h.ne⟩
end
instance {W w w' : World} {kb : List UInt8} {g3 g6 g8 : Nat} {sv : Value} {a1 : Option Addr} {c1 : Nat} {nms : List ByteArray} {a2 : Option Addr} {c2 : Nat} {us : List TurnV} : Ck (Bst W w kb g3 g6 g8 sv a1 c1 nms a2 c2 us) w' w (Bst W w' kb g3 g6 g8 sv a1 c1 nms a2 c2 us) := ⟨fun h hE => h.below hE⟩
theorem elStr : Elem Try.prog 27 9 1 16 (.string ByteArray.empty) := ⟨Try.underlying27, by kernel_rfl, rfl, by omega⟩
theorem elTu : Elem Try.prog 53 55 5 40 (.agg zeroU.cells.toArray) := ⟨Try.underlying53, by kernel_rfl, rfl, by omega⟩
theorem fill_tu (x : TurnV) : Instr.fill (fun i => some (i * 5, 5)) ((Array.range (1 * 5)).map (zeroU.cells.toArray[· % zeroU.cells.toArray.size]!)) [(0, .agg x.cells.toArray)] = some x.cells.toArray :=
  fill_whole1 5 _ _ x.cells (by simp) rfl (TurnV.length x)
theorem tb_info : (Try.prog.info? 30).map (fun i => (i.zero, i.size)) = some (some (.agg #[.slice none 0 0, .slice none 0 0]), 2) := by kernel_rfl
theorem tb_size : (Try.prog.info? 30).map (·.size) = some 2 := by kernel_rfl
theorem key_size : (Try.prog.info? 22).map (·.size) = some 16 := by kernel_rfl
/-- the names and turns of shares -/
def hasQ (xs : List ShV) : List ShV := xs.filter fun x => decide (0 < x.q)
def nmsOf (xs : List ShV) : List ByteArray := (hasQ xs).map ShV.name
def turnOf (kb : List UInt8) (size : Nat) (x : ShV) : TurnV := ⟨x.q.toNat, 0, offN kb x.name size, skipN kb x.name size, 0⟩
def tusOf (kb : List UInt8) (size : Nat) (xs : List ShV) : List TurnV := (hasQ xs).map (turnOf kb size)
theorem hasQ_yes {xs : List ShV} {x : ShV} (h : 0 < x.q) : hasQ (xs ++ [x]) = hasQ xs ++ [x] := by simp [hasQ, h]
theorem hasQ_no {xs : List ShV} {x : ShV} (h : ¬ 0 < x.q) : hasQ (xs ++ [x]) = hasQ xs := by simp [hasQ]; omega
theorem tus_len (kb : List UInt8) (size : Nat) (xs : List ShV) : (tusOf kb size xs).length = (nmsOf xs).length := by simp [tusOf, nmsOf]
theorem nms_le (xs : List ShV) : (nmsOf xs).length ≤ xs.length := by simp [nmsOf, hasQ]; exact List.length_filter_le _ _
end Go.Proofs.Ytaadpldijnegkaa
/-
  Chapter 17: Build: walked.
-/
namespace Go.Proofs.Ytaadpldijnegkaa
open Go.RowKit Go.Sort
set_option linter.unusedVariables false
set_option linter.unusedSimpArgs false
set_option maxRecDepth 100000
set_option maxHeartbeats 8000000

/-- the slots of sorted shares -/
def slotsOf (kb : List UInt8) (n : Nat) (ys : List ShV) (sl : List Int) : Prop :=
  (hasQ ys = [] ∧ sl = []) ∨ (hasQ ys ≠ [] ∧ ∃ N, Done (maxQ (tusOf kb n ys)) n (tusOf kb n ys).length (qsU (tusOf kb n ys)) (chU (tusOf kb n ys) n) N ∧ sl = (runS (maxQ (tusOf kb n ys)) n (tusOf kb n ys).length (qsU (tusOf kb n ys)) (chU (tusOf kb n ys) n) N).sl)
def noB (size : Int) (ys : List ShV) : Prop := 65537 < size ∨ pr size.toNat = false ∨ mayB ys = false
def RetB17 (kb : List UInt8) (size : Int) (xs : List ShV) (w : World) (e : Ending) (w' : World) : Prop :=
  ∃ ys : List ShV, ys.Perm xs ∧ ys.Pairwise (fun a b => nmL b.name a.name = false) ∧ Below w.heap.size w w' ∧
    ((noB size ys ∧ e = .returned (.tuple #[.agg #[.slice none 0 0, .slice none 0 0], .int .i64 1])) ∨
     (¬ noB size ys ∧ ∃ a1 c1 a2 c2 sl, e = .returned (.tuple #[.agg #[.slice a1 (nmsOf ys).length c1, .slice a2 sl.length c2], .int .i64 0]) ∧
       w'.ownsRow w.heap.size 9 1 (.slice a1 (nmsOf ys).length c1) (nmsOf ys).length (stV (nmsOf ys)) ∧ w'.ownsRow w.heap.size 3 1 (.slice a2 sl.length c2) sl.length (iV sl) ∧ slotsOf kb size.toNat ys sl))
theorem tb_all {x y : Value} (hx : x.oneCell' = true) (hy : y.oneCell' = true) : (#[x, y]).all (·.oneCell') = true := by simp [hx, hy]
theorem own_lower {w : World} {b b' e s n c : Nat} {ad : Option Addr} {xs : List Value} (h : w.ownsRow b e s (.slice ad n c) n xs) (hb : b' ≤ b) : w.ownsRow b' e s (.slice ad n c) n xs := by
  rcases h.2 with h0 | ⟨g, cap, cur, h1, h2, h3⟩
  · exact ⟨h.1, .inl h0⟩
  · exact ⟨h.1, .inr ⟨g, cap, cur, h1, Nat.le_trans hb h2, h3⟩⟩
theorem tus_nil {kb : List UInt8} {n : Nat} {ys : List ShV} (h : (tusOf kb n ys).length = 0) : hasQ ys = [] := by
  unfold tusOf at h
  rw [List.length_map] at h
  exact List.eq_nil_of_length_eq_zero h
theorem own_some {w : World} {b e s n c : Nat} {ad : Option Addr} {xs : List Value} (h : w.ownsRow b e s (.slice ad n c) n xs) (hn : ¬ n = 0) : ∃ g, ad = some ⟨g, 0, none⟩ := by
  rcases h.2 with ⟨h0, h1⟩ | ⟨g, cap, cur, h1, h2, h3⟩
  · exact absurd h1 hn
  · cases h1; exact ⟨g, rfl⟩
theorem far_some {v : Value} {g n c : Nat} (h : v.ownBlock = none ∨ v.ownBlock ≠ Value.ownBlock (.slice (some ⟨g, 0, none⟩) n c)) : v.ownBlock ≠ some g := by
  rcases h with h | h
  · rw [h]; intro e; cases e
  · exact h
theorem far_ne {g k n c m d : Nat} (h : Value.ownBlock (.slice (some ⟨g, 0, none⟩) n c) = none ∨ Value.ownBlock (.slice (some ⟨g, 0, none⟩) n c) ≠ Value.ownBlock (.slice (some ⟨k, 0, none⟩) m d)) : g ≠ k := by
  rcases h with h | h
  · cases h
  · intro e; subst e; exact h rfl
theorem own_but3 {w w' : World} {p q b e s n c : Nat} {ad : Option Addr} {xs : List Value} (h : w.ownsRow b e s (.slice ad n c) n xs) (hb : But p q w w') (h1 : Value.ownBlock (.slice ad n c) ≠ some p) (h2 : Value.ownBlock (.slice ad n c) ≠ some q) : w'.ownsRow b e s (.slice ad n c) n xs := by
  rcases h.2 with h0 | ⟨g, cap, cur, hv, hbb, hg, hr⟩
  · exact ⟨h.1, .inl h0⟩
  · refine ⟨h.1, .inr ⟨g, cap, cur, hv, hbb, hb.keep hg ?_ ?_, hr⟩⟩
    · intro e; apply h1; rw [hv, e]; rfl
    · intro e; apply h2; rw [hv, e]; rfl
theorem tus_us {kb : List UInt8} {n : Nat} {ys : List ShV} (h2 : 2 ≤ n) (h3 : n ≤ 65537) (hp : pr n = true) (hm : mayP ys) (h0 : 0 < (tusOf kb n ys).length) : Us (tusOf kb n ys) n := by
  refine ⟨h0, h2, h3, hp, fun u hu => ?_⟩
  obtain ⟨x, hx, rfl⟩ := List.mem_map.1 hu
  obtain ⟨hx1, hx2⟩ := List.mem_filter.1 hx
  have hx2 := of_decide_eq_true hx2
  obtain ⟨i, hi, rfl⟩ := List.mem_iff_getElem.1 hx1
  have hq : ys[i].q ≤ 1024000 := by
    have h := hm.2 i hi
    unfold mayStop at h
    rw [List.getD_eq_getElem?_getD, List.getElem?_eq_getElem hi] at h
    rcases Int.lt_or_le 1024000 ys[i].q with g | g
    · exact absurd (.inr (.inl g)) h
    · exact g
  have hm1 : tagN kb ys[i].name 1 % (n - 1) < n - 1 := Nat.mod_lt _ (by omega)
  refine ⟨rfl, rfl, ?_, ?_, Nat.mod_lt _ (by omega), ?_, ?_⟩
  · show 0 < ys[i].q.toNat; omega
  · show ys[i].q.toNat ≤ 1024000; omega
  · show 0 < skipN kb ys[i].name n; unfold skipN; omega
  · show skipN kb ys[i].name n < n; unfold skipN; omega
theorem build_any (kb : List UInt8) (hkb : kb.length = 16) (size : Int) (hs1 : -9223372036854775808 ≤ size) (hs2 : size ≤ 4611686018427387904) (ad : Option Addr) (m c : Nat) (xs : List ShV) (hm : m ≤ 1000000) (hx : ∀ x ∈ xs, x.name.size ≤ 1000000) (w : World) (h : Shs w ad m c xs) :
    Calls Try.prog 12 #[.agg (BV kb).toArray, .int .i64 size, .slice ad m c] w (RetB17 kb size xs w) := by
  have HXS := Lib.hid h
  have HNM := Lib.hid hx
  have HB := Lib.hid (Below.refl w.heap.size w)
  obtain ⟨pb, hpb⟩ : ∃ pb, pr size.toNat = pb := ⟨_, rfl⟩
  have HPB := Lib.hid hpb
  have hml := h.len
  clear h hx hpb
  have hml2 := Lib.hid hml
  clear hml
  go_enter Try.func12, Try.ntmps12
  by_cases hs0 : 65537 < size
  · go_wp2_with (first
      | ((with_reducible refine sl 3 ?_); go_must (refine wpL_boxG rfl 22 (.tmp 0) rfl (BV kb).toArray rfl ?_); intro w1 g3 he__ le_g3 lt_g3 hg__ hb__; have HG3 := Lib.hid hg__; have hE__ := cU HB bup hb__; replace HB := ck HB hE__; replace HXS := ck HXS hE__; clear hE__; clear hg__ hb__ he__; simp only [PT])
      | ((with_reducible refine sl 6 ?_); go_must (refine wpL_allocG rfl 30 rfl (.agg #[.slice none 0 0, .slice none 0 0]) #[.slice none 0 0, .slice none 0 0] 2 tb_info rfl ?_); intro w2 g6 he__ le_g6 lt_g6 hg__ hb__; have le_g6W : w.heap.size ≤ g6 := Nat.le_trans HB.out.size le_g6; have HG6 := Lib.hid hg__; have hE__ := cU HB bup hb__; replace HB := ck HB hE__; replace HXS := ck HXS hE__; replace HG3 := ck HG3 hE__; clear hE__; clear hg__ hb__ he__; simp only [PT])
      | (go_at_call 25; go_must (refine (sorted_any ad m c xs hm _ HXS.out).mono ?_); rintro e wS ⟨ad2, cS, ys, rfl, hperm, hpw, hown, hb__⟩; have hszS := HB.out.size; have hE__ := cU HB bup hb__; replace HB := ck HB hE__; replace HG3 := ck HG3 hE__; replace HG6 := ck HG6 hE__; clear hE__; have lt_g3S := lt_of_block HG3.out; have lt_g6S := lt_of_block HG6.out; have HYS := Lib.hid (Shs.of_own hown); have HPM := Lib.hid hperm; have HPW := Lib.hid hpw; clear hb__ hown hperm hpw)
      | ((with_reducible show wpList _ _ _ (⟨none, .store _ (.tmp 6) (.tmp 28), _, _, _, _⟩ :: _) _ _); go_must (refine wpL_storeRow rfl 30 (.tmp 6) (.tmp 28) rfl g6 #[.slice none 0 0, .slice none 0 0] rfl rfl HG6.out tb_size rfl (tb_all rfl rfl) ?_); intro w5 hs__ hr__; have HBz := Lib.hid (HB.out.grown hr__ HB.out.size (fun k hk => by cases hk; exact le_g6W)); clear HB HG6; have HG6 := Lib.hid hs__; clear hs__ hr__; simp only [PT]))
    refine bodyPost_cellx1 rfl rfl (range_block (cs := [.slice none 0 0, .slice none 0 0]) HG6.out) Try.underlying30 rfl tb_size rfl ?_
    exact ⟨ys, HPM.out, HPW.out, HBz.out, .inl ⟨.inl hs0, rfl⟩⟩
  cases pb
  · go_wp2_with (first
      | ((with_reducible refine sl 3 ?_); go_must (refine wpL_boxG rfl 22 (.tmp 0) rfl (BV kb).toArray rfl ?_); intro w1 g3 he__ le_g3 lt_g3 hg__ hb__; have HG3 := Lib.hid hg__; have hE__ := cU HB bup hb__; replace HB := ck HB hE__; replace HXS := ck HXS hE__; clear hE__; clear hg__ hb__ he__; simp only [PT])
      | ((with_reducible refine sl 6 ?_); go_must (refine wpL_allocG rfl 30 rfl (.agg #[.slice none 0 0, .slice none 0 0]) #[.slice none 0 0, .slice none 0 0] 2 tb_info rfl ?_); intro w2 g6 he__ le_g6 lt_g6 hg__ hb__; have le_g6W : w.heap.size ≤ g6 := Nat.le_trans HB.out.size le_g6; have HG6 := Lib.hid hg__; have hE__ := cU HB bup hb__; replace HB := ck HB hE__; replace HXS := ck HXS hE__; replace HG3 := ck HG3 hE__; clear hE__; clear hg__ hb__ he__; simp only [PT])
      | (go_at_call 25; go_must (refine (sorted_any ad m c xs hm _ HXS.out).mono ?_); rintro e wS ⟨ad2, cS, ys, rfl, hperm, hpw, hown, hb__⟩; have hszS := HB.out.size; have hE__ := cU HB bup hb__; replace HB := ck HB hE__; replace HG3 := ck HG3 hE__; replace HG6 := ck HG6 hE__; clear hE__; have lt_g3S := lt_of_block HG3.out; have lt_g6S := lt_of_block HG6.out; have HYS := Lib.hid (Shs.of_own hown); have HPM := Lib.hid hperm; have HPW := Lib.hid hpw; clear hb__ hown hperm hpw)
      | (go_at_call 26; go_must (refine (prime_eq size false HPB.out (by omega) (by omega) _).mono ?_); rintro e w' ⟨rfl, rfl⟩)
      | ((with_reducible show wpList _ _ _ (⟨none, .store _ (.tmp 6) (.tmp 28), _, _, _, _⟩ :: _) _ _); go_must (refine wpL_storeRow rfl 30 (.tmp 6) (.tmp 28) rfl g6 #[.slice none 0 0, .slice none 0 0] rfl rfl HG6.out tb_size rfl (tb_all rfl rfl) ?_); intro w5 hs__ hr__; have HBz := Lib.hid (HB.out.grown hr__ HB.out.size (fun k hk => by cases hk; exact le_g6W)); clear HB HG6; have HG6 := Lib.hid hs__; clear hs__ hr__; simp only [PT]))
    refine bodyPost_cellx1 rfl rfl (range_block (cs := [.slice none 0 0, .slice none 0 0]) HG6.out) Try.underlying30 rfl tb_size rfl ?_
    exact ⟨ys, HPM.out, HPW.out, HBz.out, .inl ⟨.inr (.inl HPB.out), rfl⟩⟩
  have HN2 : Hid (2 ≤ size.toNat) := Lib.hid (by have := HPB.out; unfold pr at this; simp at this; exact this.1)
  obtain ⟨n, rfl⟩ : ∃ n : Nat, size = (n : Int) := ⟨size.toNat, by have := HN2.out; omega⟩
  rw [Int.toNat_natCast] at HN2
  have h3n : n ≤ 65537 := by omega
  go_wp2_with (first
    | ((with_reducible refine sl 3 ?_); go_must (refine wpL_boxG rfl 22 (.tmp 0) rfl (BV kb).toArray rfl ?_); intro w1 g3 he__ le_g3 lt_g3 hg__ hb__; have HG3 := Lib.hid hg__; have hE__ := cU HB bup hb__; replace HB := ck HB hE__; replace HXS := ck HXS hE__; clear hE__; clear hg__ hb__ he__; simp only [PT])
    | ((with_reducible refine sl 6 ?_); go_must (refine wpL_allocG rfl 30 rfl (.agg #[.slice none 0 0, .slice none 0 0]) #[.slice none 0 0, .slice none 0 0] 2 tb_info rfl ?_); intro w2 g6 he__ le_g6 lt_g6 hg__ hb__; have le_g6W : w.heap.size ≤ g6 := Nat.le_trans HB.out.size le_g6; have HG6 := Lib.hid hg__; have hE__ := cU HB bup hb__; replace HB := ck HB hE__; replace HXS := ck HXS hE__; replace HG3 := ck HG3 hE__; clear hE__; clear hg__ hb__ he__; simp only [PT])
    | (go_at_call 25; go_must (refine (sorted_any ad m c xs hm _ HXS.out).mono ?_); rintro e wS ⟨ad2, cS, ys, rfl, hperm, hpw, hown, hb__⟩; have hszS := HB.out.size; have hE__ := cU HB bup hb__; replace HB := ck HB hE__; replace HG3 := ck HG3 hE__; replace HG6 := ck HG6 hE__; clear hE__; have lt_g3S := lt_of_block HG3.out; have lt_g6S := lt_of_block HG6.out; have HYS := Lib.hid (Shs.of_own hown); have HPM := Lib.hid hperm; have HPW := Lib.hid hpw; clear hb__ hown hperm hpw)
    | (go_at_call 26; go_must (refine (prime_eq (n : Int) true HPB.out (by omega) (by omega) _).mono ?_); rintro e w' ⟨rfl, rfl⟩)
    | (go_at_call 27; go_must (refine (may_any ad2 ys.length cS ys _ HYS.out).mono ?_); rintro e wM ⟨he__, hb__⟩; obtain ⟨mb, hmb⟩ : ∃ mb, mayB ys = mb := ⟨_, rfl⟩; rw [hmb] at he__; subst he__; have HMB := Lib.hid hmb; have hE__ := cU HB bup hb__; replace HB := ck HB hE__; replace HYS := ck HYS hE__; replace HG3 := ck HG3 hE__; replace HG6 := ck HG6 hE__; clear hE__; have lt_g6M := lt_of_block HG6.out; clear hb__ hmb)
    | ((with_reducible show wpList _ _ _ (⟨none, .store _ (.tmp 6) (.tmp 28), _, _, _, _⟩ :: _) _ _); go_must (refine wpL_storeRow rfl 30 (.tmp 6) (.tmp 28) rfl g6 #[.slice none 0 0, .slice none 0 0] rfl rfl HG6.out tb_size rfl (tb_all rfl rfl) ?_); intro w5 hs__ hr__; have HBz := Lib.hid (HB.out.grown hr__ HB.out.size (fun k hk => by cases hk; exact le_g6W)); clear HB HG6; have HG6 := Lib.hid hs__; clear hs__ hr__; simp only [PT])
    | ((with_reducible refine sl 8 ?_); go_must (refine wpL_allocG rfl 30 rfl (.agg #[.slice none 0 0, .slice none 0 0]) #[.slice none 0 0, .slice none 0 0] 2 tb_info rfl ?_); intro w8 g8 he__ le_g8 lt_g8 hg__ hb__; have hb8 := Lib.hid hb__; replace HG3 := ckk HG3 bup hb__; replace HG6 := ckk HG6 bup hb__; have HG8 := Lib.hid hg__; clear hg__ hb__ he__; simp only [PT]))
  · have hmf : mb = false := by cases mb with | false => rfl | true => (exfalso; have h_ := ‹65537 < (n : Int) ∨ (!true) = true›; rcases h_ with h_ | h_; omega; cases h_)
    subst hmf
    refine bodyPost_cellx1 rfl rfl (range_block (cs := [.slice none 0 0, .slice none 0 0]) HG6.out) Try.underlying30 rfl tb_size rfl ?_
    exact ⟨ys, HPM.out, HPW.out, HBz.out, .inl ⟨.inr (.inr HMB.out), rfl⟩⟩
  have hmt : mb = true := by cases mb with | true => rfl | false => (exfalso; first | exact absurd (Or.inr rfl) ‹¬ (65537 < (n : Int) ∨ (!false) = true)› | (have h_ := ‹(n : Int) ≤ 65537 ∧ (!false) = false›; cases h_.2) | (have h_ := ‹(n : Int) ≤ 65537 ∧ ¬ (!false) = true›; exact h_.2 rfl) | (have h_ := ‹(!false) = false›; cases h_) | (have h_ := ‹¬ (!false) = true›; exact h_ rfl))
  subst hmt
  simp only [Bool.not_true, Bool.or_false]
  have h2n := HN2.out
  have hNB : Hid (¬ noB (n : Int) ys) := Lib.hid (by
    rintro (h1 | h1 | h1)
    · omega
    · rw [HPB.out] at h1; cases h1
    · rw [HMB.out] at h1; cases h1)
  have hne68 : g6 ≠ g8 := by omega
  have HBS : Hid (Bst wM w8 kb g3 g6 g8 (.slice none 0 0) none 0 [] none 0 []) := Lib.hid ⟨HG3.out, HG6.out, HG8.out, World.ownsRow_nil _ _ _ _, World.ownsRow_nil _ _ _ _, hb8.out, le_g8, hne68⟩
  have hyl : ys.length ≤ 1024 := by
    have := HMB.out
    unfold mayB at this
    exact (of_decide_eq_true this).1
  have HIS : Hid ((Try.prog.info? 48).map (fun i => (i.zero, i.size)) = some (some (.agg zeroS.cells.toArray), 2)) := Lib.hid sh_info
  have HKS : Hid ((Try.prog.info? 22).map (·.size) = some (BV kb).length) := Lib.hid (by rw [BV_length, hkb]; exact key_size)
  have HSS : Hid ((Try.prog.info? 27).map (·.size) = some 1) := Lib.hid (by kernel_rfl)
  obtain ⟨wl, hwl⟩ : ∃ wl, wl = w8 := ⟨_, rfl⟩
  rw [← hwl] at HBS
  go_loopw [9, 31] (fun v i wr => ∃ (k : Nat) (a1 : Option Addr) (c1 : Nat) (a2 : Option Addr) (c2 : Nat), k ≤ ys.length ∧ i = .int .i64 (k : Int) ∧ v = .slice a2 (tusOf kb n (ys.take k)).length c2 ∧ Hid (Bst wM wr kb g3 g6 g8 (.slice a1 (nmsOf (ys.take k)).length c1) a1 c1 (nmsOf (ys.take k)) a2 c2 (tusOf kb n (ys.take k)))) (fun _ i _ => ys.length - (intOf i).toNat)
  case atStart => exact ⟨0, none, 0, none, 0, by omega, rfl, rfl, by rw [hwl] at HBS; exact HBS⟩
  case round =>
    clear HBS hwl wl HG3 HG6 HG8
    obtain ⟨k, a1, c1, a2, c2, hk, rfl, rfl, HBS⟩ := hrel
    by_cases hlt : k < ys.length
    · have hlt' : (k : Int) < (ys.length : Int) := by omega
      obtain ⟨b, off, rfl, hbl, hat⟩ := HYS.out.at (by omega)
      obtain ⟨x, hx⟩ : ∃ x, x = ys[k] := ⟨_, rfl⟩
      obtain ⟨nm, hnm⟩ : ∃ nm, nm = x.name := ⟨_, rfl⟩
      have hr := range_below (show wM.rangeAt b (off + k * 2) x.cells by rw [hx]; exact hat k hlt) hbl HBS.out.bel
      have hnl : nm.size ≤ 1000000 := by rw [hnm, hx]; exact HNM.out _ (HPM.out.subset (List.getElem_mem hlt))
      have HTK : Hid (ys.take (k + 1) = ys.take k ++ [x]) := Lib.hid (by rw [hx]; exact List.take_succ_eq_append_getElem hlt)
      have hnml : (nmsOf (ys.take k)).length ≤ 1024 := by have := nms_le (ys.take k); rw [List.length_take] at this; omega
      have htul : (tusOf kb n (ys.take k)).length ≤ 1024 := by rw [tus_len]; exact hnml
      unfold ShV.cells at hr
      rw [← hnm] at hr
      clear hat hx
      by_cases hq : 0 < x.q
      · obtain ⟨q, hqq⟩ : ∃ q : Nat, x.q = (q : Int) := ⟨x.q.toNat, by omega⟩
        obtain ⟨oA, hoA⟩ : ∃ oA, oA = offN kb nm n := ⟨_, rfl⟩
        obtain ⟨sA, hsA⟩ : ∃ sA, sA = skipN kb nm n := ⟨_, rfl⟩
        have HOA := Lib.hid hoA
        have HSA := Lib.hid hsA
        have hte : Value.agg #[.int .i64 (q : Int), .int .i64 0, .int .i64 (oA : Int), .int .i64 (sA : Int), .int .i64 0] = .agg (turnOf kb n x).cells.toArray := by
          rw [hoA, hsA, hnm]
          unfold turnOf TurnV.cells nI
          rw [hqq]
          rfl
        have HTE := Lib.hid hte
        rw [hqq] at hr hq
        have HR := Lib.hid hr
        have hq2 : (0 : Int) < (q : Int) := hq
        have hTS : Hid (tusOf kb n (ys.take (k + 1)) = tusOf kb n (ys.take k) ++ [turnOf kb n x]) := Lib.hid (by unfold tusOf; rw [HTK.out, hasQ_yes (by rw [hqq]; exact hq), List.map_append]; rfl)
        have hNS : Hid (nmsOf (ys.take (k + 1)) = nmsOf (ys.take k) ++ [nm]) := Lib.hid (by unfold nmsOf; rw [HTK.out, hasQ_yes (by rw [hqq]; exact hq), List.map_append, hnm]; rfl)
        clear hr hoA hsA hte hqq hnm
        go_wp2_with (first
          | ((with_reducible refine sl 34 ?_); go_must (refine wpL_load rfl 48 (.tmp 33) rfl b (off + k * 2) rfl [.string nm, .int .i64 (q : Int)] _ HR.out Try.underlying48 rfl sh_size ?_); simp only [PT])
          | ((with_reducible refine sl 11 ?_); go_must (refine wpL_newG rfl rfl 48 rfl (.tmp 11) (.tmp 34) rfl #[.string nm, .int .i64 (q : Int)] zeroS.cells.toArray HIS.out rfl (tb_all rfl rfl) (fun _ => rfl) (fun _ => rfl) ?_); intro w11 g11 le_11 hg__ hb__; have hne811 : g11 ≠ g8 := (by have := lt_of_block HBS.out.b8; omega); go_must (replace HBS := ckk HBS bup hb__); have HG11 := Lib.hid hg__; clear hg__ hb__; simp only [PT])
          | ((with_reducible refine sl 36 ?_); go_must (refine wpL_loadF rfl 3 (.tmp 35) rfl g11 1 rfl (.int .i64 (q : Int)) HG11.out rfl Try.underlying3 rfl ?_); simp only [PT])
          | ((with_reducible refine sl 39 ?_); go_must (refine wpL_load rfl 22 (.tmp 3) rfl g3 0 rfl (BV kb) _ (range_block (HBS.out.below bup).b3) Try.underlying22 rfl HKS.out ?_); simp only [PT])
          | ((with_reducible refine sl 41 ?_); go_must (refine wpL_loadF rfl 9 (.tmp 40) rfl g11 0 rfl (.string nm) HG11.out rfl Try.underlying9 rfl ?_); simp only [PT])
          | (go_at_call 28; go_must (refine (permOf_any kb hkb nm hnl n h2n h3n _).mono ?_); go_must (rintro e w6 ⟨he, hb__⟩; rw [← HOA.out, ← HSA.out] at he; subst he); go_must (replace HBS := ckk HBS bup hb__); go_must (replace HG11 := ckk HG11 bup hb__); clear hb__)
          | ((with_reducible refine sl 47 ?_); go_must (refine wpL_loadF rfl 27 (.tmp 46) rfl g8 0 rfl (.slice a1 (nmsOf (ys.take k)).length c1) (HBS.out.below bup).b8 rfl Try.underlying27 rfl ?_); simp only [PT])
          | ((with_reducible refine sl 49 ?_); go_must (refine wpL_loadF rfl 9 (.tmp 48) rfl g11 0 rfl (.string nm) HG11.out rfl Try.underlying9 rfl ?_); simp only [PT])
          | ((with_reducible refine sl 51 ?_); go_must (refine wpL_push elStr rfl (.tmp 47) (.tmp 50) rfl wM.heap.size rfl (HBS.out.below bup).nm _ 1 rfl rfl rfl (by intro u hu; simp at hu; subst hu; rfl) (by omega) (by omega) (by omega) (HBS.out.below bup).bel.size (HBS.out.below bup).bel (Nat.le_refl _) ?_); intro ad3 c3 w3 ho3 hb3 hg3; go_must (have HG11n := Lib.hid ((hg3.block g11 (lt_of_block HG11.out) (own_farB (HBS.out.below bup).nm (show _ = some (Obj.cells #[.string nm, .int .i64 (q : Int)] 48) from HG11.out) (by decide)).symm).trans HG11.out)); clear HG11; have HG11 := HG11n; go_must (replace HBS := Lib.hid ((HBS.out.below bup).pushN ho3 hg3)); clear ho3 hb3 hg3; simp only [PT])
          | ((with_reducible show wpList _ _ _ (⟨none, .store _ (.tmp 52) (.tmp 51), _, _, _, _⟩ :: _) _ _); go_must (refine wpL_storeF rfl 27 (.tmp 52) (.tmp 51) rfl g8 0 (.slice ad3 ((nmsOf (ys.take k)).length + 1) c3) rfl rfl rfl (HBS.out.below bup).b8 (by simp) HSS.out _ rfl ?_); intro w52 hs__ hr__; go_must (have HG11n := Lib.hid ((hr__.block g11 (lt_of_block HG11.out) (fun e => hne811 (Option.some.inj e))).trans HG11.out)); clear HG11; have HG11 := HG11n; go_must (replace HBS := Lib.hid ((HBS.out.below bup).st8 hs__ hr__)); clear hs__ hr__; simp only [PT])
          | ((with_reducible refine sl 55 ?_); go_must (refine wpL_loadF rfl 3 (.tmp 54) rfl g11 1 rfl (.int .i64 (q : Int)) HG11.out rfl Try.underlying3 rfl ?_); simp only [PT])
          | ((with_reducible refine sl 59 ?_); go_must (refine wpL_lit1 rfl 53 55 (.tmp 58) rfl (turnOf kb n x).cells.toArray _ HTE.out 5 Try.underlying53 tu_info (by omega) (by omega) (fill_tu _) ?_); intro w59 gL le_gL lt_gL hg__ hb__; have HL := Lib.hid hg__; go_must (replace HBS := ckk HBS bup hb__); clear hg__ hb__; simp only [PT])
          | ((with_reducible refine sl 60 ?_); go_must (refine wpL_append elTu rfl (.tmp 53) (.tmp 59) rfl wM.heap.size rfl (HBS.out.below bup).tu rfl (by have h := sl_block (cs := (turnOf kb n x).cells) HL.out; exact h) (TurnV.one _) (by unfold maxLen; omega) (by omega) (HBS.out.below bup).bel.size ?_); intro ad4 c4 w4 ho4 hg4 hz1__ hz2__; go_must (replace HBS := Lib.hid ((HBS.out.below bup).pushT ho4 hg4)); clear ho4 hg4 hz1__ hz2__; simp only [PT]))
        go_roundw
        case rel => exact ⟨k + 1, ad3, c3, ad4, c4, by omega, by go_num, by rw [hTS.out, List.length_append]; rfl, by rw [hTS.out, hNS.out, List.length_append]; exact Lib.hid (HBS.out.below bup)⟩
        case measure => simp [intOf]; omega
      · have hq2 : ¬ 0 < x.q := hq
        have HR := Lib.hid hr
        clear hr
        go_wp2_with (first
          | ((with_reducible refine sl 34 ?_); go_must (refine wpL_load rfl 48 (.tmp 33) rfl b (off + k * 2) rfl [.string nm, .int .i64 x.q] _ HR.out Try.underlying48 rfl sh_size ?_); simp only [PT])
          | ((with_reducible refine sl 11 ?_); go_must (refine wpL_newG rfl rfl 48 rfl (.tmp 11) (.tmp 34) rfl #[.string nm, .int .i64 x.q] zeroS.cells.toArray HIS.out rfl (tb_all rfl rfl) (fun _ => rfl) (fun _ => rfl) ?_); intro w11 g11 le_11 hg__ hb__; have hne811 : g11 ≠ g8 := (by have := lt_of_block HBS.out.b8; omega); go_must (replace HBS := ckk HBS bup hb__); have HG11 := Lib.hid hg__; clear hg__ hb__; simp only [PT])
          | ((with_reducible refine sl 36 ?_); go_must (refine wpL_loadF rfl 3 (.tmp 35) rfl g11 1 rfl (.int .i64 x.q) HG11.out rfl Try.underlying3 rfl ?_); simp only [PT]))
        go_roundw
        case rel => exact ⟨k + 1, a1, c1, a2, c2, by omega, by go_num, by unfold tusOf; rw [HTK.out, hasQ_no hq2], by unfold tusOf nmsOf; rw [HTK.out, hasQ_no hq2]; exact Lib.hid (HBS.out.below bup)⟩
        case measure => simp [intOf]; omega
    · have hge : ¬ (k : Int) < (ys.length : Int) := by omega
      obtain rfl : k = ys.length := by omega
      rw [List.take_length] at HBS ⊢
      have hnml : (nmsOf ys).length ≤ 1024 := Nat.le_trans (nms_le ys) hyl
      have htul : (tusOf kb n ys).length ≤ 1024 := by rw [tus_len]; exact hnml
      obtain ⟨us, hus⟩ : ∃ us, us = tusOf kb n ys := ⟨_, rfl⟩
      have HUS := Lib.hid hus
      rw [← hus] at HBS htul ⊢
      clear hus
      by_cases hz : us.length = 0
      · have hzb : ((us.length : Int) == 0) = true := by rw [hz]; rfl
        go_wp2_with (first
          | ((with_reducible refine sl 65 ?_); go_must (refine wpL_load rfl 30 (.tmp 8) rfl g8 0 rfl [.slice a1 (nmsOf ys).length c1, .slice none 0 0] _ (range_block (cs := [.slice a1 (nmsOf ys).length c1, .slice none 0 0]) (HBS.out.below bup).b8) Try.underlying30 rfl tb_size ?_); simp only [PT])
          | ((with_reducible show wpList _ _ _ (⟨none, .store _ (.tmp 6) (.tmp 65), _, _, _, _⟩ :: _) _ _); go_must (refine wpL_storeRow rfl 30 (.tmp 6) (.tmp 65) rfl g6 #[.slice a1 (nmsOf ys).length c1, .slice none 0 0] rfl rfl (HBS.out.below bup).b6 tb_size rfl (tb_all rfl rfl) ?_); intro w66 hs__ hr__; go_must (have HNz := Lib.hid (own_lower ((HBS.out.below bup).nm.kept hr__ (.inr HBS.out.far6)) HB.out.size)); go_must (have HBz := Lib.hid ((HB.out.trans ((HBS.out.below bup).bel.mono HB.out.size)).grown hr__ (Nat.le_trans HB.out.size (HBS.out.below bup).bel.size) (fun k hk => by cases hk; exact le_g6W))); have HG6z := Lib.hid hs__; clear hs__ hr__; simp only [PT]))
        refine bodyPost_cellx1 rfl rfl (range_block (cs := [.slice a1 (nmsOf ys).length c1, .slice none 0 0]) HG6z.out) Try.underlying30 rfl tb_size rfl ?_
        exact ⟨ys, HPM.out, HPW.out, HBz.out, .inr ⟨hNB.out, a1, c1, none, 0, [], rfl, HNz.out, World.ownsRow_nil _ _ _ _, .inl ⟨tus_nil (by rw [← HUS.out]; exact hz), rfl⟩⟩⟩
      · have hzb : ((us.length : Int) == 0) = false := by rw [beq_eq_false_iff_ne]; omega
        obtain ⟨gt, rfl⟩ : ∃ gt, a2 = some ⟨gt, 0, none⟩ := own_some HBS.out.tu hz
        have hu : Us us n := by rw [HUS.out]; exact tus_us h2n h3n (by have h := HPB.out; rwa [Int.toNat_natCast] at h) (of_decide_eq_true HMB.out) (by rw [← HUS.out]; omega)
        have HU := Lib.hid hu
        have HSI : Hid ((Try.prog.info? 28).map (·.size) = some 1) := Lib.hid (by kernel_rfl)
        have hm1 : Hid (∀ (wz : World) (g : Nat), (wz.alloc (.cells #[.int .i64 (-1)] 3)).cell? ⟨wz.heap.size, 0, none⟩ = some (.int .i64 (-1))) := Lib.hid (fun wz g => by simp)
        clear hu
        go_upto_region 18 with (first
          | (go_at_call 29; go_must (refine (repeat_any _ 1 (-1) n (by omega) h3n _ (hm1.out _ 0)).mono ?_); rintro e wR ⟨⟨gR, rfl, hoR⟩, hb__⟩; go_must (have HR := Lib.hid (own_lower hoR (HBS.out.below bup).bel.size)); go_must (replace HBS := ckk HBS bup hb__); go_must (have hR8 : Value.ownBlock (.slice (some ⟨gR, 0, none⟩) n n) ≠ some g8 := own_farB HR.out HBS.out.b8 (by decide)); go_must (have hR6 : Value.ownBlock (.slice (some ⟨gR, 0, none⟩) n n) ≠ some g6 := own_farB HR.out HBS.out.b6 (by decide)); go_must (have hNR := own_farR HBS.out.nm HR.out (by decide)); go_must (have hTR := own_farR HBS.out.tu HR.out (by decide)); have hgeR := (World.ownsRow.lt HR.out gR rfl).1; have hget := (World.ownsRow.lt HBS.out.tu gt rfl).1; clear hoR hb__)
          | ((with_reducible show wpList _ _ _ (⟨none, .store _ (.tmp 69) (.tmp 68), _, _, _, _⟩ :: _) _ _); go_must (refine wpL_storeF rfl 28 (.tmp 69) (.tmp 68) rfl g8 1 (.slice (some ⟨gR, 0, none⟩) n n) rfl rfl rfl (HBS.out.below bup).b8 (by simp) HSI.out #[.slice a1 (nmsOf ys).length c1, .slice (some ⟨gR, 0, none⟩) n n] rfl ?_); intro w70 hs__ hr__; have HG8 := Lib.hid hs__; go_must (have HN := Lib.hid ((HBS.out.below bup).nm.kept hr__ (.inr HBS.out.far8))); go_must (have HT := Lib.hid ((HBS.out.below bup).tu.kept hr__ (.inr HBS.out.farT8))); go_must (have HRn := Lib.hid ((own_keep HR.out bup).kept hr__ (.inr hR8))); go_must (have HG6 := Lib.hid ((hr__.block g6 (lt_of_block (HBS.out.below bup).b6) (fun e => HBS.out.ne (Option.some.inj e))).trans (HBS.out.below bup).b6)); go_must (have HL := Lib.hid ((HBS.out.below bup).bel.grown hr__ (HBS.out.below bup).bel.size (fun k hk => by cases hk; exact HBS.out.l8))); go_must (have HFI : Hid (Fil w70 wM.heap.size gt c2 wM.heap.size gR n us (List.replicate n (-1))) := Lib.hid ⟨HT.out, by rw [List.length_replicate]; unfold iV; rw [List.map_replicate]; exact HRn.out, far_ne hTR⟩); clear hs__ hr__; simp only [PT])
          | ((with_reducible refine sl 72 ?_); go_must (refine wpL_loadF rfl 28 (.tmp 71) rfl g8 1 rfl (.slice (some ⟨gR, 0, none⟩) n n) HG8.out rfl Try.underlying28 rfl ?_); simp only [PT])
          | (go_at_call 30; go_must (refine (fill_any wM.heap.size gt c2 wM.heap.size gR n us n HU.out htul _ (HFI.out.keep bup)).mono ?_); rintro e wF ⟨rfl, N, ts, hdone, hfil, hbut⟩; obtain ⟨sl, hsl⟩ : ∃ sl, sl = (runS (maxQ us) n us.length (qsU us) (chU us n) N).sl := ⟨_, rfl⟩; rw [← hsl] at hfil; have hsln : sl.length = n := (by rw [hsl]; exact (HU.out.ok hdone.some).ls); go_must (have HNF := Lib.hid (own_but3 (own_keep HN.out bup) hbut (far_some HBS.out.farNT) (far_some hNR))); go_must (have HG8F := Lib.hid (hbut.keep HG8.out (fun e => HBS.out.farT8 (congrArg some e.symm)) (fun e => hR8 (congrArg some e.symm)))); go_must (have HG6F := Lib.hid (hbut.keep HG6.out (fun e => HBS.out.farT6 (congrArg some e.symm)) (fun e => hR6 (congrArg some e.symm)))); go_must (have HLF := Lib.hid (hbut.below (HL.out.trans (Below.mono bup HL.out.size)) hget hgeR (Nat.le_refl _))); have HSF := Lib.hid hfil.s; have HDN := Lib.hid hdone; have HSL := Lib.hid hsl; clear hfil hbut hdone hsl))
        refine wp_region_list ?_
        refine wpL_load rfl 30 (.tmp 8) rfl g8 0 rfl [.slice a1 (nmsOf ys).length c1, .slice (some ⟨gR, 0, none⟩) n n] _ (range_block (cs := [.slice a1 (nmsOf ys).length c1, .slice (some ⟨gR, 0, none⟩) n n]) HG8F.out) Try.underlying30 rfl tb_size ?_
        simp only [PT]
        refine wpL_storeRow rfl 30 (.tmp 6) (.tmp 74) rfl g6 #[.slice a1 (nmsOf ys).length c1, .slice (some ⟨gR, 0, none⟩) n n] rfl rfl HG6F.out tb_size rfl (tb_all rfl rfl) ?_
        intro w66 hs__ hr__
        have HNz := Lib.hid (own_lower (HNF.out.kept hr__ (.inr HBS.out.far6)) HB.out.size)
        have HSz := Lib.hid (own_lower (HSF.out.kept hr__ (.inr hR6)) HB.out.size)
        have HBz := Lib.hid ((HB.out.trans (HLF.out.mono HB.out.size)).grown hr__ (Nat.le_trans HB.out.size HLF.out.size) (fun k hk => by cases hk; exact le_g6W))
        have HG6z := Lib.hid hs__
        clear hs__ hr__
        simp only [PT]
        go_wp2_with fail
        refine bodyPost_cellx1 rfl rfl (range_block (cs := [.slice a1 (nmsOf ys).length c1, .slice (some ⟨gR, 0, none⟩) n n]) HG6z.out) Try.underlying30 rfl tb_size rfl ?_
        refine ⟨ys, HPM.out, HPW.out, HBz.out, .inr ⟨hNB.out, a1, c1, some ⟨gR, 0, none⟩, n, sl, ?_, HNz.out, HSz.out, .inr ⟨fun e => hz (by rw [HUS.out]; unfold tusOf; rw [e]; rfl), N, ?_, ?_⟩⟩⟩
        · rw [hsln]; rfl
        · rw [Int.toNat_natCast, ← HUS.out]; exact HDN.out
        · rw [Int.toNat_natCast, ← HUS.out]; exact HSL.out
end Go.Proofs.Ytaadpldijnegkaa
/-
  Chapter 17: a table; Count: walked.
-/
namespace Go.Proofs.Ytaadpldijnegkaa
open Go.RowKit Go.Sort
set_option linter.unusedVariables false
set_option linter.unusedSimpArgs false
set_option maxRecDepth 100000
set_option maxHeartbeats 8000000

/-- how many slots each of m names has -/
def cntI (sl : List Int) (m : Nat) : List Int := (List.range m).map fun i : Nat => ((sl.filter (fun z => decide (z = (i : Int)))).length : Int)
theorem cntI_length (sl : List Int) (m : Nat) : (cntI sl m).length = m := by simp [cntI]
theorem cntI_at (sl : List Int) (m i : Nat) (hi : i < m) : (cntI sl m)[i]? = some ((sl.filter (fun z => decide (z = (i : Int)))).length : Int) := by simp [cntI, hi]
theorem cntI_nil (m : Nat) : cntI [] m = List.replicate m 0 := by
  apply List.ext_getElem?
  intro i
  by_cases hi : i < m
  · rw [cntI_at _ _ _ hi, List.getElem?_replicate, if_pos hi]; rfl
  · rw [List.getElem?_eq_none (by rw [cntI_length]; omega), List.getElem?_eq_none (by simp; omega)]
theorem cntI_snoc (sl : List Int) (m j : Nat) (hj : j < m) {y : Int} (hy : (cntI sl m)[j]? = some y) : cntI (sl ++ [(j : Int)]) m = (cntI sl m).set j (y + 1) := by
  rw [cntI_at _ _ _ hj] at hy
  cases hy
  apply List.ext_getElem?
  intro i
  by_cases hi : i < m
  · rw [cntI_at _ _ _ hi, List.getElem?_set, cntI_at _ _ _ hi, List.filter_append]
    by_cases e : j = i
    · subst e
      rw [if_pos rfl, if_pos (by rw [cntI_length]; exact hi)]
      simp
    · rw [if_neg e]
      have : ¬ (j : Int) = (i : Int) := by omega
      simp [this]
  · rw [List.getElem?_eq_none (by rw [cntI_length]; omega), List.getElem?_eq_none (by rw [List.length_set, cntI_length]; omega)]
theorem iV_at' {w : World} {ad : Option Addr} {n c : Nat} {l : List Int} (h : Sl w ad n c 1 (iV l)) {j : Nat} (hj : j < l.length) :
    ∃ b off, ad = some ⟨b, off, none⟩ ∧ b < w.heap.size ∧ ∀ i (hi : i < l.length), w.cell? ⟨b, off + i, none⟩ = some (.int .i64 l[i]) := by
  obtain ⟨b, off, ha, hb, hc⟩ := Sl.at h (j := j) (by rw [iV_length]; exact hj)
  refine ⟨b, off, ha, hb, fun i hi => ?_⟩
  rw [hc i (by rw [iV_length]; exact hi)]
  simp [iV]
theorem count_any (a1 : Option Addr) (n1 c1 : Nat) (a2 : Option Addr) (n2 c2 : Nat) (sl : List Int) (hn1 : n1 ≤ 1024) (hn2 : n2 ≤ 65537) (hr : ∀ z ∈ sl, 0 ≤ z ∧ z < (n1 : Int)) (w : World) (h : Sl w a2 n2 c2 1 (iV sl)) :
    Calls Try.prog 22 #[.agg #[.slice a1 n1 c1, .slice a2 n2 c2]] w fun e w' => (∃ g, e = .returned (.slice (some ⟨g, 0, none⟩) n1 n1) ∧ w'.ownsRow w.heap.size 3 1 (.slice (some ⟨g, 0, none⟩) n1 n1) n1 (iV (cntI sl n1))) ∧ Below w.heap.size w w' := by
  have hlen : n2 = sl.length := by have := Sl.len h; rw [iV_length] at this; omega
  have hle : n2 ≤ c2 := h.2.1
  have HS := Lib.hid h
  have HRR := Lib.hid hr
  have HB := Lib.hid (Below.refl w.heap.size w)
  subst hlen
  clear h hr
  go_enter Try.func22, Try.ntmps22
  go_upto_region 1 with fail
  obtain ⟨w1, hw1⟩ : ∃ w1, w1 = w.alloc (.cells #[.slice a1 n1 c1, .slice a2 sl.length c2] 30) := ⟨_, rfl⟩
  have HG1 : Hid (w1.heap[w.heap.size]? = some (.cells #[.slice a1 n1 c1, .slice a2 sl.length c2] 30 (0, 0))) := Lib.hid (by rw [hw1]; exact heap_alloc_last w _)
  have HB1 : Hid (Below w.heap.size w w1) := Lib.hid (by rw [hw1]; exact (Below.refl _ _).alloc (Nat.le_refl _) _)
  rw [← hw1]
  clear hw1 HB
  have cg0 : w1.cell? ⟨w.heap.size, 0, none⟩ = some (.slice a1 n1 c1) := cells_get (cs := [.slice a1 n1 c1, .slice a2 sl.length c2]) HG1.out 0
  go_upto_region 2 with (first
    | (at_make; go_must (refine wpL_make elI rfl (.tmp 8) (.tmp 8) rfl w.heap.size n1 rfl rfl rfl rfl (by omega) (by unfold maxLen; omega) HB1.out.size ?_); intro w3 ho3 hg3; have HG3 := Lib.hid ((hg3.block w.heap.size (lt_of_block HG1.out) (by simp)).trans HG1.out); have HB3 := Lib.hid (HB1.out.grown hg3 HB1.out.size (fun k hk => by cases hk)); have HO3 := Lib.hid ho3; clear ho3 hg3; simp only [PT]))
  have cg1 : w3.cell? ⟨w.heap.size, 1, none⟩ = some (.slice a2 sl.length c2) := cells_get (cs := [.slice a1 n1 c1, .slice a2 sl.length c2]) HG3.out 1
  go_wp2_with fail
  obtain ⟨g, hgE⟩ : ∃ g, g = w1.heap.size := ⟨_, rfl⟩
  have HO : Hid (w3.ownsRow w.heap.size 3 1 (.slice (some ⟨g, 0, none⟩) n1 n1) n1 (iV (cntI [] n1))) := Lib.hid (by
    rw [hgE, cntI_nil]
    have h := HO3.out
    rw [Nat.mul_one] at h
    have e : (madeCells (Value.int .i64 0).cells n1).toList = iV (List.replicate n1 0) := by unfold iV; rw [List.map_replicate]; exact toList_madeCells_one _ _
    rwa [e] at h)
  rw [← hgE]
  clear HO3 hgE
  go_loopw [13] (fun i wr => ∃ k : Nat, k ≤ sl.length ∧ i = .int .i64 (k : Int) ∧ Hid (wr.ownsRow w.heap.size 3 1 (.slice (some ⟨g, 0, none⟩) n1 n1) n1 (iV (cntI (sl.take k) n1))) ∧ Hid (Below w.heap.size w wr)) (fun i _ => sl.length - (intOf i).toNat)
  case atStart => exact ⟨0, by omega, rfl, HO, HB3⟩
  case round =>
    clear HO HB3
    obtain ⟨k, hk, rfl, HO, HB⟩ := hrel
    by_cases hlt : k < sl.length
    · have hlt' : (k : Int) < (sl.length : Int) := by omega
      obtain ⟨b, off, rfl, hbl, hat⟩ := iV_at' HS.out hlt
      have hz := HRR.out _ (List.getElem_mem hlt)
      obtain ⟨j, hj⟩ : ∃ j : Nat, sl[k] = (j : Int) := ⟨sl[k].toNat, by omega⟩
      have hj1 : j < n1 := by omega
      have hj2 : (j : Int) < (n1 : Int) := by omega
      have c16 : wr.cell? ⟨b, off + k, none⟩ = some (.int .i64 (j : Int)) := by rw [← hj]; exact (HB.out.cell (p := ⟨b, off + k, none⟩) hbl).trans (hat k hlt)
      have hTK : Hid (sl.take (k + 1) = sl.take k ++ [(j : Int)]) := Lib.hid (by rw [← hj]; exact List.take_succ_eq_append_getElem hlt)
      have hy := cntI_at (sl.take k) n1 j hj1
      obtain ⟨y, hyE⟩ : ∃ y : Nat, y = ((sl.take k).filter (fun z => decide (z = (j : Int)))).length := ⟨_, rfl⟩
      have hyl : y ≤ 65537 := by rw [hyE]; exact Nat.le_trans (List.length_filter_le _ _) (by rw [List.length_take]; omega)
      rw [← hyE] at hy
      have HY := Lib.hid hy
      have c20 : wr.cell? ⟨g, j, none⟩ = some (.int .i64 (y : Int)) := by rw [HO.out.cellAt j (by omega), iV_at, hy]; rfl
      have hwy : IntKind.i64.wrap ((y : Int) + 1) = (y : Int) + 1 := by rw [IntKind.wrap_i64]; omega
      clear hat hz hj hy hyE
      go_wp2_with (first
        | ((with_reducible show wpList _ _ _ (⟨none, .store _ (.tmp 22) (.tmp 21), _, _, _, _⟩ :: _) _ _); go_must (refine wpL_storeO rfl 3 (.tmp 22) (.tmp 21) rfl (own_keep HO.out bup) j (by rw [iV_length, cntI_length]; exact hj1) (.int .i64 ((y : Int) + 1)) rfl rfl rfl rfl (by kernel_rfl) ?_); intro w5 ho5 hg5; go_must (have HBn := Lib.hid ((HB.out.trans (Below.mono bup HB.out.size)).grown hg5 (Nat.le_trans HB.out.size (bsz bup)) (fun k hk => by cases hk; exact (World.ownsRow.lt HO.out g rfl).1))); rw [iV_set, ← cntI_snoc _ _ _ hj1 HY.out, ← hTK.out] at ho5; have HOn := Lib.hid ho5; clear ho5 hg5; simp only [PT]))
      go_roundw
      case rel => exact ⟨k + 1, by omega, by go_num, HOn, HBn⟩
      case measure => simp [intOf]; omega
    · have hge : ¬ (k : Int) < (sl.length : Int) := by omega
      obtain rfl : k = sl.length := by omega
      rw [List.take_length] at HO
      go_wp2_with fail
      go_ret
      exact ⟨⟨g, rfl, HO.out⟩, HB.out⟩
end Go.Proofs.Ytaadpldijnegkaa
/-
  Chapter 17: Pick, both sides: walked.
-/
namespace Go.Proofs.Ytaadpldijnegkaa
open Go.RowKit Go.Sort
set_option linter.unusedVariables false
set_option linter.unusedSimpArgs false
set_option maxRecDepth 100000
set_option maxHeartbeats 8000000

/-- what is picked -/
def pickN (nms : List ByteArray) (sl : List Int) (h : Nat) : ByteArray := if sl = [] then ByteArray.empty else nms.getD (sl.getD (h % sl.length) 0).toNat ByteArray.empty
theorem stV_at' {w : World} {ad : Option Addr} {n c : Nat} {l : List ByteArray} (h : Sl w ad n c 1 (stV l)) {j : Nat} (hj : j < l.length) :
    ∃ b off, ad = some ⟨b, off, none⟩ ∧ b < w.heap.size ∧ ∀ i (hi : i < l.length), w.cell? ⟨b, off + i, none⟩ = some (.string l[i]) := by
  obtain ⟨b, off, ha, hb, hc⟩ := Sl.at h (j := j) (by rw [stV_length]; exact hj)
  refine ⟨b, off, ha, hb, fun i hi => ?_⟩
  rw [hc i (by rw [stV_length]; exact hi)]
  simp [stV]
theorem pick_any (a1 : Option Addr) (n1 c1 : Nat) (a2 : Option Addr) (n2 c2 : Nat) (nms : List ByteArray) (sl : List Int) (hr : ∀ z ∈ sl, 0 ≤ z ∧ z < (n1 : Int)) (hn2 : n2 ≤ 65537) (h : Nat) (hh : h < 18446744073709551616) (w : World) (k1 : Sl w a1 n1 c1 1 (stV nms)) (k2 : Sl w a2 n2 c2 1 (iV sl)) :
    Calls Try.prog 17 #[.agg #[.slice a1 n1 c1, .slice a2 n2 c2], .int .u64 (h : Int)] w fun e w' => e = .returned (.tuple #[.string (pickN nms sl h), .bool (decide (0 < sl.length))]) ∧ Below w.heap.size w w' := by
  have hlen : n2 = sl.length := by have := Sl.len k2; rw [iV_length] at this; omega
  have hlen1 : n1 = nms.length := by have := Sl.len k1; rw [stV_length] at this; omega
  have hle : n2 ≤ c2 := k2.2.1
  have hle1 : n1 ≤ c1 := k1.2.1
  have HK1 := Lib.hid k1
  have HK2 := Lib.hid k2
  have HRR := Lib.hid hr
  have HB := Lib.hid (Below.refl w.heap.size w)
  have HL1 := Lib.hid hlen1
  subst hlen
  clear k1 k2 hr hlen1
  by_cases hz : sl.length = 0
  · have HZB : Hid (((sl.length : Int) == 0) = true) := Lib.hid (by rw [hz]; rfl)
    have HE : Hid (pickN nms sl h = ByteArray.empty ∧ decide (0 < sl.length) = false) := Lib.hid ⟨by unfold pickN; rw [if_pos (List.eq_nil_of_length_eq_zero hz)], by rw [hz]; rfl⟩
    clear hz
    go_enter Try.func17, Try.ntmps17
    go_upto_region 1 with fail
    obtain ⟨w1, hw1⟩ : ∃ w1, w1 = w.alloc (.cells #[.slice a1 n1 c1, .slice a2 sl.length c2] 30) := ⟨_, rfl⟩
    have HG1 : Hid (w1.heap[w.heap.size]? = some (.cells #[.slice a1 n1 c1, .slice a2 sl.length c2] 30 (0, 0))) := Lib.hid (by rw [hw1]; exact heap_alloc_last w _)
    have HB1 : Hid (Below w.heap.size w w1) := Lib.hid (by rw [hw1]; exact (Below.refl _ _).alloc (Nat.le_refl _) _)
    rw [← hw1]
    clear hw1 HB
    have cg1 : w1.cell? ⟨w.heap.size, 1, none⟩ = some (.slice a2 sl.length c2) := cells_get (cs := [.slice a1 n1 c1, .slice a2 sl.length c2]) HG1.out 1
    have hzb := HZB.out
    go_wp2_with fail
    go_ret2
    rw [HE.out.1, HE.out.2]
    exact ⟨rfl, HB1.out⟩
  · have hzb : ((sl.length : Int) == 0) = false := by rw [beq_eq_false_iff_ne]; omega
    obtain ⟨j, hj⟩ : ∃ j, j = h % sl.length := ⟨_, rfl⟩
    have hjl : j < sl.length := by rw [hj]; exact Nat.mod_lt _ (by omega)
    have hji : (h : Int) % (sl.length : Int) = (j : Int) := by rw [hj, Int.natCast_emod]
    obtain ⟨b2, o2, rfl, hb2, hat2⟩ := iV_at' HK2.out hjl
    have hzz := HRR.out _ (List.getElem_mem hjl)
    obtain ⟨i, hi⟩ : ∃ i : Nat, sl[j] = (i : Int) := ⟨sl[j].toNat, by omega⟩
    have hil : i < n1 := by omega
    have hil' : i < nms.length := by rw [← HL1.out]; exact hil
    obtain ⟨b1, o1, rfl, hb1, hat1⟩ := stV_at' HK1.out hil'
    obtain ⟨nm, hnm⟩ : ∃ nm, nm = nms[i] := ⟨_, rfl⟩
    have HC1 : Hid (w.cell? ⟨b1, o1 + i, none⟩ = some (.string nm)) := Lib.hid (by rw [hnm]; exact hat1 i hil')
    have HC2 : Hid (w.cell? ⟨b2, o2 + j, none⟩ = some (.int .i64 (i : Int))) := Lib.hid (by rw [← hi]; exact hat2 j hjl)
    have HE : Hid (pickN nms sl h = nm ∧ decide (0 < sl.length) = true) := Lib.hid ⟨by
      unfold pickN
      rw [if_neg (fun e => hz (by rw [e]; rfl)), ← hj, List.getD_eq_getElem?_getD, List.getD_eq_getElem?_getD, List.getElem?_eq_getElem hjl]
      simp only [Option.getD_some, hi, Int.toNat_natCast, List.getElem?_eq_getElem hil', hnm], decide_eq_true (by omega)⟩
    have hi0 : (0 : Int) ≤ (i : Int) := by omega
    have hi1 : (i : Int) < (n1 : Int) := by omega
    have hj0 : (0 : Int) ≤ (j : Int) := by omega
    have hj1 : (j : Int) < (sl.length : Int) := by omega
    have hwn : IntKind.u64.wrap (sl.length : Int) = (sl.length : Int) := by rw [IntKind.wrap_u64]; omega
    clear hat1 hat2 hzz hi hnm hj
    go_enter Try.func17, Try.ntmps17
    go_upto_region 1 with fail
    obtain ⟨w1, hw1⟩ : ∃ w1, w1 = w.alloc (.cells #[.slice (some ⟨b1, o1, none⟩) n1 c1, .slice (some ⟨b2, o2, none⟩) sl.length c2] 30) := ⟨_, rfl⟩
    have HG1 : Hid (w1.heap[w.heap.size]? = some (.cells #[.slice (some ⟨b1, o1, none⟩) n1 c1, .slice (some ⟨b2, o2, none⟩) sl.length c2] 30 (0, 0))) := Lib.hid (by rw [hw1]; exact heap_alloc_last w _)
    have HB1 : Hid (Below w.heap.size w w1) := Lib.hid (by rw [hw1]; exact (Below.refl _ _).alloc (Nat.le_refl _) _)
    rw [← hw1]
    clear hw1 HB
    have cg0 : w1.cell? ⟨w.heap.size, 0, none⟩ = some (.slice (some ⟨b1, o1, none⟩) n1 c1) := cells_get (cs := [.slice (some ⟨b1, o1, none⟩) n1 c1, .slice (some ⟨b2, o2, none⟩) sl.length c2]) HG1.out 0
    have cg1 : w1.cell? ⟨w.heap.size, 1, none⟩ = some (.slice (some ⟨b2, o2, none⟩) sl.length c2) := cells_get (cs := [.slice (some ⟨b1, o1, none⟩) n1 c1, .slice (some ⟨b2, o2, none⟩) sl.length c2]) HG1.out 1
    have c1' : w1.cell? ⟨b1, o1 + i, none⟩ = some (.string nm) := (HB1.out.cell (p := ⟨b1, o1 + i, none⟩) hb1).trans HC1.out
    have c2' : w1.cell? ⟨b2, o2 + j, none⟩ = some (.int .i64 (i : Int)) := (HB1.out.cell (p := ⟨b2, o2 + j, none⟩) hb2).trans HC2.out
    go_wp2_with fail
    go_quiet (fail)
    go_wp2_with fail
    go_ret2
    rw [HE.out.1, HE.out.2]
    exact ⟨rfl, by first | exact HB1.out | exact HB1.out.trans (below_drewN _ _ _) | exact HB1.out.drew⟩
theorem refPick_any (a1 : Option Addr) (n1 c1 : Nat) (a2 : Option Addr) (n2 c2 : Nat) (nms : List ByteArray) (sl : List Int) (hr : ∀ z ∈ sl, 0 ≤ z ∧ z < (n1 : Int)) (hn2 : n2 ≤ 65537) (h : Nat) (hh : h < 18446744073709551616) (w : World) (k1 : Sl w a1 n1 c1 1 (stV nms)) (k2 : Sl w a2 n2 c2 1 (iV sl)) :
    Calls Try.prog 18 #[.agg #[.slice a1 n1 c1, .slice a2 n2 c2], .int .u64 (h : Int)] w fun e w' => e = .returned (.tuple #[.string (pickN nms sl h), .bool (decide (0 < sl.length))]) ∧ Below w.heap.size w w' := by
  have hlen : n2 = sl.length := by have := Sl.len k2; rw [iV_length] at this; omega
  have hlen1 : n1 = nms.length := by have := Sl.len k1; rw [stV_length] at this; omega
  have hle : n2 ≤ c2 := k2.2.1
  have hle1 : n1 ≤ c1 := k1.2.1
  have HK1 := Lib.hid k1
  have HK2 := Lib.hid k2
  have HRR := Lib.hid hr
  have HB := Lib.hid (Below.refl w.heap.size w)
  have HL1 := Lib.hid hlen1
  subst hlen
  clear k1 k2 hr hlen1
  by_cases hz : sl.length = 0
  · have HZB : Hid (((sl.length : Int) == 0) = true) := Lib.hid (by rw [hz]; rfl)
    have HE : Hid (pickN nms sl h = ByteArray.empty ∧ decide (0 < sl.length) = false) := Lib.hid ⟨by unfold pickN; rw [if_pos (List.eq_nil_of_length_eq_zero hz)], by rw [hz]; rfl⟩
    clear hz
    go_enter Try.func18, Try.ntmps18
    go_upto_region 1 with fail
    obtain ⟨w1, hw1⟩ : ∃ w1, w1 = w.alloc (.cells #[.slice a1 n1 c1, .slice a2 sl.length c2] 30) := ⟨_, rfl⟩
    have HG1 : Hid (w1.heap[w.heap.size]? = some (.cells #[.slice a1 n1 c1, .slice a2 sl.length c2] 30 (0, 0))) := Lib.hid (by rw [hw1]; exact heap_alloc_last w _)
    have HB1 : Hid (Below w.heap.size w w1) := Lib.hid (by rw [hw1]; exact (Below.refl _ _).alloc (Nat.le_refl _) _)
    rw [← hw1]
    clear hw1 HB
    have cg1 : w1.cell? ⟨w.heap.size, 1, none⟩ = some (.slice a2 sl.length c2) := cells_get (cs := [.slice a1 n1 c1, .slice a2 sl.length c2]) HG1.out 1
    have hzb := HZB.out
    go_wp2_with fail
    go_ret2
    rw [HE.out.1, HE.out.2]
    exact ⟨rfl, HB1.out⟩
  · have hzb : ((sl.length : Int) == 0) = false := by rw [beq_eq_false_iff_ne]; omega
    obtain ⟨j, hj⟩ : ∃ j, j = h % sl.length := ⟨_, rfl⟩
    have hjl : j < sl.length := by rw [hj]; exact Nat.mod_lt _ (by omega)
    have hji : (h : Int) % (sl.length : Int) = (j : Int) := by rw [hj, Int.natCast_emod]
    obtain ⟨b2, o2, rfl, hb2, hat2⟩ := iV_at' HK2.out hjl
    have hzz := HRR.out _ (List.getElem_mem hjl)
    obtain ⟨i, hi⟩ : ∃ i : Nat, sl[j] = (i : Int) := ⟨sl[j].toNat, by omega⟩
    have hil : i < n1 := by omega
    have hil' : i < nms.length := by rw [← HL1.out]; exact hil
    obtain ⟨b1, o1, rfl, hb1, hat1⟩ := stV_at' HK1.out hil'
    obtain ⟨nm, hnm⟩ : ∃ nm, nm = nms[i] := ⟨_, rfl⟩
    have HC1 : Hid (w.cell? ⟨b1, o1 + i, none⟩ = some (.string nm)) := Lib.hid (by rw [hnm]; exact hat1 i hil')
    have HC2 : Hid (w.cell? ⟨b2, o2 + j, none⟩ = some (.int .i64 (i : Int))) := Lib.hid (by rw [← hi]; exact hat2 j hjl)
    have HE : Hid (pickN nms sl h = nm ∧ decide (0 < sl.length) = true) := Lib.hid ⟨by
      unfold pickN
      rw [if_neg (fun e => hz (by rw [e]; rfl)), ← hj, List.getD_eq_getElem?_getD, List.getD_eq_getElem?_getD, List.getElem?_eq_getElem hjl]
      simp only [Option.getD_some, hi, Int.toNat_natCast, List.getElem?_eq_getElem hil', hnm], decide_eq_true (by omega)⟩
    have hi0 : (0 : Int) ≤ (i : Int) := by omega
    have hi1 : (i : Int) < (n1 : Int) := by omega
    have hj0 : (0 : Int) ≤ (j : Int) := by omega
    have hj1 : (j : Int) < (sl.length : Int) := by omega
    have hwj : IntKind.i64.wrap (j : Int) = (j : Int) := by rw [IntKind.wrap_i64]; omega
    have hwn : IntKind.u64.wrap (sl.length : Int) = (sl.length : Int) := by rw [IntKind.wrap_u64]; omega
    clear hat1 hat2 hzz hi hnm hj
    go_enter Try.func18, Try.ntmps18
    go_upto_region 1 with fail
    obtain ⟨w1, hw1⟩ : ∃ w1, w1 = w.alloc (.cells #[.slice (some ⟨b1, o1, none⟩) n1 c1, .slice (some ⟨b2, o2, none⟩) sl.length c2] 30) := ⟨_, rfl⟩
    have HG1 : Hid (w1.heap[w.heap.size]? = some (.cells #[.slice (some ⟨b1, o1, none⟩) n1 c1, .slice (some ⟨b2, o2, none⟩) sl.length c2] 30 (0, 0))) := Lib.hid (by rw [hw1]; exact heap_alloc_last w _)
    have HB1 : Hid (Below w.heap.size w w1) := Lib.hid (by rw [hw1]; exact (Below.refl _ _).alloc (Nat.le_refl _) _)
    rw [← hw1]
    clear hw1 HB
    have cg0 : w1.cell? ⟨w.heap.size, 0, none⟩ = some (.slice (some ⟨b1, o1, none⟩) n1 c1) := cells_get (cs := [.slice (some ⟨b1, o1, none⟩) n1 c1, .slice (some ⟨b2, o2, none⟩) sl.length c2]) HG1.out 0
    have cg1 : w1.cell? ⟨w.heap.size, 1, none⟩ = some (.slice (some ⟨b2, o2, none⟩) sl.length c2) := cells_get (cs := [.slice (some ⟨b1, o1, none⟩) n1 c1, .slice (some ⟨b2, o2, none⟩) sl.length c2]) HG1.out 1
    have c1' : w1.cell? ⟨b1, o1 + i, none⟩ = some (.string nm) := (HB1.out.cell (p := ⟨b1, o1 + i, none⟩) hb1).trans HC1.out
    have c2' : w1.cell? ⟨b2, o2 + j, none⟩ = some (.int .i64 (i : Int)) := (HB1.out.cell (p := ⟨b2, o2 + j, none⟩) hb2).trans HC2.out
    go_wp2_with fail
    go_quiet (fail)
    go_wp2_with fail
    go_ret2
    rw [HE.out.1, HE.out.2]
    exact ⟨rfl, by first | exact HB1.out | exact HB1.out.trans (below_drewN _ _ _) | exact HB1.out.drew⟩
end Go.Proofs.Ytaadpldijnegkaa
