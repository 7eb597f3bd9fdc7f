/-
  Chapter 25: a value found, walked.
-/
import Derived.Test.YtmigbcoobbcahaaOpt4
namespace Go.Proofs.Ytmigbcoobbcahaa
open Go.RowKit Go.Sort
set_option linter.unusedVariables false
set_option linter.unusedSimpArgs false

theorem find1_any (o : OptV) (code : Int) (g : Nat) (w : World) (hg : g < w.heap.size) (hc : w.cell? ⟨g, 0, none⟩ = some (.int .i64 code)) :
    Calls Try.prog 32 #[.agg o.cells.toArray, .pointer (some ⟨g, 0, none⟩)] w fun e w' => e = .returned (.bool (o.code == code)) ∧ Below w.heap.size w w' := by
  have hb : Below w.heap.size w (w.alloc (.cells o.cells.toArray 43)) := (Below.refl _ _).alloc (Nat.le_refl _) _
  have HB := Lib.hid hb
  have q0 : (w.alloc (.cells o.cells.toArray 43)).cell? ⟨w.heap.size, 0, none⟩ = some (.int .i64 o.code) := by simp [OptV.cells]
  have q1 := Below.cellAt hc hb hg
  clear hc hb
  go_enter Try.func32, Try.ntmps32
  go_wp2_with fail
  go_ret
  exact ⟨rfl, HB.out⟩

/-- where the first of a code is; -1: nowhere -/
def FindAt (os : List OptV) (code i : Int) : Prop := (∃ k, ∃ h : k < os.length, i = (k : Int) ∧ os[k].code = code ∧ ∀ j (hj : j < k), (os[j]'(by omega)).code ≠ code) ∨ (i = -1 ∧ ∀ j (hj : j < os.length), os[j].code ≠ code)

set_option maxRecDepth 100000 in
set_option maxHeartbeats 1000000 in
theorem index_any (ad : Option Addr) (n c : Nat) (os : List OptV) (code : Int) (g : Nat) (w : World) (hs : Ops w ad n c os) (hg : g < w.heap.size) (hc : w.cell? ⟨g, 0, none⟩ = some (.int .i64 code)) :
    Calls Try.prog 31 #[.slice ad n c, .func (.func 32) #[] #[.pointer (some ⟨g, 0, none⟩)]] w fun e w' => ∃ i, FindAt os code i ∧ e = .returned (.int .i64 i) ∧ Below w.heap.size w w' := by
  have hn := hs.len
  have hle := hs.le
  have HS := Lib.hid hs
  have HN := Lib.hid hn
  have HC := Lib.hid hc
  have HI : Hid ((Try.prog.info? 43).map (·.size) = some 2) := Lib.hid (by kernel_rfl)
  clear hs hn hc
  go_enter Try.func31, Try.ntmps31
  go_wp2_with fail
  go_loopw [8] (fun i wr => ∃ k : Nat, k ≤ n ∧ i = .int .i64 k ∧ Hid (∀ j (hj : j < os.length), j < k → os[j].code ≠ code) ∧ Below w.heap.size w wr) (fun i _ => n - (intOf i).toNat)
  case atStart => exact ⟨0, by omega, rfl, Lib.hid (fun j _ h => absurd h (by omega)), Below.refl _ _⟩
  case round =>
    obtain ⟨k, hk, rfl, HT, hb⟩ := hrel
    have HB := Lib.hid hb
    by_cases hlt : k < n
    · have hkl : k < os.length := by have := HN.out; omega
      obtain ⟨b, off, rfl, hbl, hat⟩ := (HS.out.below hb).at (j := k) hkl
      obtain ⟨q1, q2, hbs⟩ := hat k hkl
      obtain ⟨o, ho⟩ : ∃ o, o = os[k] := ⟨_, rfl⟩
      rw [← ho] at q1 q2
      have HR := Lib.hid (ocell_range q1 q2)
      have HO := Lib.hid ho
      clear hat hbs q1 q2 hb ho
      by_cases h1 : o.code = code
      · have hd : (o.code == code) = true := by simpa using h1
        have HD := Lib.hid hd
        have HH := Lib.hid h1
        clear hd h1
        go_wp2_with (first
          | ((with_reducible show wpList _ _ _ (⟨some 15, _, _, _, _, _⟩ :: _) _ _); go_must (refine wpL_load rfl 43 (.tmp 14) rfl b (off + k * 2) rfl o.cells _ HR.out Try.underlying43 rfl HI.out ?_); simp only [Act.put, List.setIfInBounds_toArray, List.set_cons_zero, List.set_cons_succ])
          | (go_at_call 32; go_must (refine (find1_any o code g _ (Nat.lt_of_lt_of_le hg HB.out.size) (Below.cellAt HC.out HB.out hg)).mono ?_); intro e w5 hr5; rw [HD.out] at hr5; obtain ⟨rfl, hb5⟩ := hr5; have hE__ := cU HB (by repeat (first | exact Below.refl _ _ | refine Below.drew ?_ | refine Below.trans ?_ (below_drewN _ _ _) | refine Below.alloc ?_ (by first | exact Nat.le_refl _ | (simp; done) | (simp; omega)) _)) hb5; (first | replace HB := cK1 HB hE__); clear hE__; clear hb5))
        go_ret
        exact ⟨(k : Int), .inl ⟨k, by have := HN.out; omega, rfl, by rw [← HO.out]; exact HH.out, fun j hj => HT.out j (by have := HN.out; omega) hj⟩, rfl, HB.out⟩
      · have hd : (o.code == code) = false := by simpa using h1
        have HD := Lib.hid hd
        have HH := Lib.hid h1
        clear hd h1
        go_wp2_with (first
          | ((with_reducible show wpList _ _ _ (⟨some 15, _, _, _, _, _⟩ :: _) _ _); go_must (refine wpL_load rfl 43 (.tmp 14) rfl b (off + k * 2) rfl o.cells _ HR.out Try.underlying43 rfl HI.out ?_); simp only [Act.put, List.setIfInBounds_toArray, List.set_cons_zero, List.set_cons_succ])
          | (go_at_call 32; go_must (refine (find1_any o code g _ (Nat.lt_of_lt_of_le hg HB.out.size) (Below.cellAt HC.out HB.out hg)).mono ?_); intro e w5 hr5; rw [HD.out] at hr5; obtain ⟨rfl, hb5⟩ := hr5; have hE__ := cU HB (by repeat (first | exact Below.refl _ _ | refine Below.drew ?_ | refine Below.trans ?_ (below_drewN _ _ _) | refine Below.alloc ?_ (by first | exact Nat.le_refl _ | (simp; done) | (simp; omega)) _)) hb5; (first | replace HB := cK1 HB hE__); clear hE__; clear hb5))
        go_roundw
        case rel => exact ⟨k + 1, by omega, by go_num, Lib.hid (fun j hj h => by
          by_cases e : j < k
          · exact HT.out j hj e
          · obtain rfl : j = k := by omega
            rw [← HO.out]
            exact HH.out), HB.out⟩
        case measure => simp [intOf]; omega
    · go_wp2_with fail
      go_ret
      exact ⟨-1, .inr ⟨rfl, fun j hj => HT.out j hj (by have := HN.out; omega)⟩, rfl, HB.out⟩

theorem findAt_one {os : List OptV} {code i : Int} (h : FindAt os code i) {k : Nat} (hk : k < os.length) (h1 : os[k].code = code) (h2 : ∀ j (hj : j < k), (os[j]'(by omega)).code ≠ code) : i = (k : Int) := by
  rcases h with ⟨m, hm, rfl, e1, e2⟩ | ⟨_, e2⟩
  · rcases Nat.lt_trichotomy m k with h | h | h
    · exact absurd e1 (h2 m h)
    · rw [h]
    · exact absurd h1 (e2 k h)
  · exact absurd h1 (e2 k hk)
theorem findAt_none {os : List OptV} {code i : Int} (h : FindAt os code i) (h1 : ∀ j (hj : j < os.length), os[j].code ≠ code) : i = -1 := by
  rcases h with ⟨m, hm, rfl, e1, e2⟩ | ⟨e, _⟩
  · exact absurd e1 (h1 m hm)
  · exact e

set_option maxRecDepth 100000 in
set_option maxHeartbeats 1000000 in
theorem find_none (ad : Option Addr) (n c : Nat) (os : List OptV) (code : Int) (w : World) (hs : Ops w ad n c os) (h1 : ∀ j (hj : j < os.length), os[j].code ≠ code) :
    Calls Try.prog 21 #[.slice ad n c, .int .i64 code] w fun e w' => e = .returned (.tuple #[.slice none 0 0, .bool false]) ∧ Below w.heap.size w w' := by
  have HS := Lib.hid hs
  have H1 := Lib.hid h1
  have HB := Lib.hid (Below.refl w.heap.size w)
  clear hs h1
  go_enter Try.func21, Try.ntmps21
  go_wp2_with (first
    | (go_at_call 31; go_must (refine (index_any ad n c os code w.heap.size _ (HS.out.below (by repeat (first | exact Below.refl _ _ | refine Below.drew ?_ | refine Below.trans ?_ (below_drewN _ _ _) | refine Below.alloc ?_ (by first | exact Nat.le_refl _ | (simp; done) | (simp; omega)) _))) (by simp) (by simp)).mono ?_); rintro e w5 ⟨i, hf, he, hb5⟩; have hi := findAt_none hf H1.out; subst hi; subst he; have hE__ := cU HB (by repeat (first | exact Below.refl _ _ | refine Below.drew ?_ | refine Below.trans ?_ (below_drewN _ _ _) | refine Below.alloc ?_ (by first | exact Nat.le_refl _ | (simp; done) | (simp; omega)) _)) hb5; (first | replace HB := cK1 HB hE__); clear hE__; clear hb5 hf))
  go_ret2
  exact ⟨rfl, HB.out⟩
set_option maxRecDepth 100000 in
set_option maxHeartbeats 1000000 in
theorem find_some (ad : Option Addr) (n c : Nat) (os : List OptV) (code : Int) (w : World) (hs : Ops w ad n c os) (k : Nat) (hk : k < os.length) (h1 : os[k].code = code) (h2 : ∀ j (hj : j < k), (os[j]'(by omega)).code ≠ code) (hsz : os[k].l.length ≤ 140737488351232) :
    Calls Try.prog 21 #[.slice ad n c, .int .i64 code] w fun e w' => ∃ ad' c', e = .returned (.tuple #[.slice ad' os[k].l.length c', .bool true]) ∧ w'.ownsRow w.heap.size 5 1 (.slice ad' os[k].l.length c') os[k].l.length (BV os[k].l) ∧ Below w.heap.size w w' := by
  have HS := Lib.hid hs
  have H1 := Lib.hid h1
  have H2 := Lib.hid h2
  have HB := Lib.hid (Below.refl w.heap.size w)
  have hn := hs.len
  have hkn : k < n := by omega
  obtain ⟨b, off, rfl, hbl, hat⟩ := hs.at hk
  obtain ⟨_, q1, hbs⟩ := hat k hk
  obtain ⟨o, ho⟩ : ∃ o, o = os[k] := ⟨_, rfl⟩
  rw [← ho] at q1 hbs hsz ⊢
  have hol := hbs.len
  have HQ := Lib.hid q1
  have HBS := Lib.hid hbs
  have HOL := Lib.hid hol
  have hon : o.n ≤ 140737488351232 := by omega
  rw [← hol]
  clear hs h1 h2 hn hat q1 hbs ho hol hsz
  go_enter Try.func21, Try.ntmps21
  go_wp2_with (first
    | (go_at_call 31; go_must (refine (index_any _ n c os code w.heap.size _ (HS.out.below (by repeat (first | exact Below.refl _ _ | refine Below.drew ?_ | refine Below.trans ?_ (below_drewN _ _ _) | refine Below.alloc ?_ (by first | exact Nat.le_refl _ | (simp; done) | (simp; omega)) _))) (by simp) (by simp)).mono ?_); rintro e w5 ⟨i, hf, he, hb5⟩; have hi := findAt_one hf hk H1.out H2.out; subst hi; subst he; have hE__ := cU HB (by repeat (first | exact Below.refl _ _ | refine Below.drew ?_ | refine Below.trans ?_ (below_drewN _ _ _) | refine Below.alloc ?_ (by first | exact Nat.le_refl _ | (simp; done) | (simp; omega)) _)) hb5; (first | replace HB := cK1 HB hE__); clear hE__; have q5 := Below.cellAt HQ.out HB.out hbl; clear hb5 hf)
    | (go_at_call 33; go_must (refine (bclone_any o.ad o.n o.c o.l _ (HBS.out.below HB.out) (by omega)).mono ?_); intro e w6 hr6; unfold RetB at hr6; rw [← HOL.out] at hr6; obtain ⟨ad6, c6, rfl, ho6, hb6⟩ := hr6; have HO := Lib.hid (own_base ho6 HB.out.size); have hE__ := cU HB (by repeat (first | exact Below.refl _ _ | refine Below.drew ?_ | refine Below.trans ?_ (below_drewN _ _ _) | refine Below.alloc ?_ (by first | exact Nat.le_refl _ | (simp; done) | (simp; omega)) _)) hb6; (first | replace HB := cK1 HB hE__); clear hE__; clear hb6 ho6))
  go_ret2
  exact ⟨ad6, c6, rfl, HO.out, HB.out⟩
end Go.Proofs.Ytmigbcoobbcahaa
