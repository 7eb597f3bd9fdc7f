/-
  Chapter 25: the law OptionFinds, walked.
-/
import Derived.Test.YtmigbcoobbcahaaOpt16
namespace Go.Proofs.Ytmigbcoobbcahaa
open Go.RowKit Go.Sort
set_option linter.unusedVariables false
set_option linter.unusedSimpArgs false

theorem find_cases (os : List OptV) (code : Int) : (∃ k, ∃ h : k < os.length, os[k].code = code ∧ ∀ j (hj : j < k), (os[j]'(by omega)).code ≠ code) ∨ ∀ j (hj : j < os.length), os[j].code ≠ code := by
  have key : ∀ n, n ≤ os.length → (∃ k, ∃ h : k < os.length, os[k].code = code ∧ ∀ j (hj : j < k), (os[j]'(by omega)).code ≠ code) ∨ ∀ j (hj : j < os.length), j < n → os[j].code ≠ code := by
    intro n
    induction n with
    | zero => intro _; exact .inr (fun j _ h => absurd h (by omega))
    | succ n ih =>
      intro hn
      rcases ih (by omega) with h | h
      · exact .inl h
      · by_cases hc : (os[n]'(by omega)).code = code
        · exact .inl ⟨n, by omega, hc, fun j hj => h j (by omega) hj⟩
        · refine .inr (fun j hj hlt => ?_)
          by_cases e : j < n
          · exact h j hj e
          · obtain rfl : j = n := by omega
            exact hc
  rcases key os.length (Nat.le_refl _) with h | h
  · exact .inl h
  · exact .inr (fun j hj => h j hj hj)

set_option maxRecDepth 100000 in
set_option maxHeartbeats 8000000 in
theorem finds_walk (ad : Option Addr) (n c : Nat) (os : List OptV) (ad2 : Option Addr) (n2 c2 : Nat) (ps : List OptV) (code : Int) (w : World) (hs : Ops w ad n c os) (hs2 : Ops w ad2 n2 c2 ps) :
    Calls Try.prog 7 #[.slice ad n c, .slice ad2 n2 c2, .int .i64 code] w fun e w' => e = .returned (.bool true) ∧ Below w.heap.size w w' := by
  have HB := Lib.hid (Below.refl w.heap.size w)
  have hn := hs.len
  have hle := hs.le
  have HS := Lib.hid hs
  have HS2 := Lib.hid hs2
  have HN := Lib.hid hn
  clear hs hs2 hn
  by_cases hf : fewO (vals os) = true
  · by_cases hf2 : fewO (vals ps) = true
    · obtain ⟨hz, _⟩ := few_size hf
      have HF := Lib.hid hf
      have HF2 := Lib.hid hf2
      have HZ := Lib.hid hz
      obtain ⟨D, hD⟩ : ∃ D, D = decide (vals os = vals ps) := ⟨_, rfl⟩
      have HD := Lib.hid hD.symm
      clear hf hf2 hz hD
      rcases find_cases os code with ⟨K, hK, hc, hno⟩ | hno
      · have hKn : K < n := by have := HN.out; omega
        have HNO := Lib.hid hno
        have HC := Lib.hid hc
        have HL : Hid ((os[K]).l.length ≤ 140737488351232) := Lib.hid (by
          have h1 : K < (vals os).length := by rw [vals_length]; exact hK
          have h2 := sizeO_take (vals os) K h1
          have h3 := sizeO_take_le (vals os) (K + 1)
          have h4 := HZ.out
          rw [vals_get os K hK h1] at h2
          unfold lenO OptV.val at h2
          simp only at h2
          omega)
        obtain ⟨ol, hol⟩ : ∃ ol, ol = (os[K]).l := ⟨_, rfl⟩
        have HOL := Lib.hid hol
        clear hno hc hol
        cases D
        all_goals
          go_enter Try.func7, Try.ntmps7
          go_wp2_with (first
            | (go_at_call 9; go_must (refine (optAwake_any _).mono ?_); rintro e w6 ⟨rfl, hb6⟩; have hE__ := cU HB (by repeat (first | exact Below.refl _ _ | refine Below.drew ?_ | refine Below.trans ?_ (below_drewN _ _ _) | refine Below.alloc ?_ (by first | exact Nat.le_refl _ | (simp; done) | (simp; omega)) _)) hb6; (first | replace HB := cK1 HB hE__); clear hE__; clear hb6)
            | ((with_reducible show Calls _ 10 #[.slice ad n c] _ _); go_must (refine (few_any ad n c os _ (HS.out.below HB.out)).mono ?_); intro e w' hr; rw [HF.out] at hr; obtain ⟨rfl, rfl⟩ := hr)
            | ((with_reducible show Calls _ 10 #[.slice ad2 n2 c2] _ _); go_must (refine (few_any ad2 n2 c2 ps _ (HS2.out.below HB.out)).mono ?_); intro e w' hr; rw [HF2.out] at hr; obtain ⟨rfl, rfl⟩ := hr)
            | (go_at_call 21; go_must (refine (find_some ad n c os code _ (HS.out.below HB.out) K hK HC.out HNO.out HL.out).mono ?_); intro e w3 hr; rw [← HOL.out] at hr; obtain ⟨ad3, c3, rfl, ho3, hb3⟩ := hr; have H3 := Lib.hid (Bs.of_own ho3); have HB3 := Lib.hid (Below.refl w3.heap.size w3); have hE__ := cU HB (by repeat (first | exact Below.refl _ _ | refine Below.drew ?_ | refine Below.trans ?_ (below_drewN _ _ _) | refine Below.alloc ?_ (by first | exact Nat.le_refl _ | (simp; done) | (simp; omega)) _)) hb3; (first | replace HB := cK1 HB hE__); clear hE__; clear hb3 ho3))
          go_loop [9] (fun i => ∃ k : Nat, k ≤ K ∧ i = .int .i64 k) (fun i => K - (intOf i).toNat)
          case atStart => exact ⟨0, by omega, rfl⟩
          case round =>
            obtain ⟨k, hk, rfl⟩ := hrel
            have hkn : k < n := by omega
            have hko : k < os.length := by have := HN.out; omega
            obtain ⟨b, off, rfl, hbl, hat⟩ := (HS.out.below HB.out).at (j := k) hko
            obtain ⟨q1, q2, hbs⟩ := hat k hko
            by_cases hlt : k < K
            · have hne : (os[k].code == code) = false := by simpa using HNO.out k hlt
              obtain ⟨o, ho⟩ : ∃ o, o = os[k] := ⟨_, rfl⟩
              rw [← ho] at q1 q2 hbs hne
              have hne2 : ¬ (o.code = code) := by simpa using hne
              clear hat hbs q2 ho hne
              go_wp2_with fail
              go_round
              case rel => exact ⟨k + 1, by omega, by go_num⟩
              case measure => simp [intOf]; omega
            · obtain rfl : k = K := by omega
              have hcc := HC.out
              obtain ⟨o, ho⟩ : ∃ o, o = os[k] := ⟨_, rfl⟩
              rw [← ho] at q1 q2 hbs hcc
              have hOL : o.l = ol := by rw [HOL.out, ho]
              rw [hOL] at hbs
              rw [hcc] at q1
              have HBS := Lib.hid hbs
              have HQ2 := Lib.hid q2
              have HBL := Lib.hid (Nat.lt_of_lt_of_le hbl (Nat.le_refl _))
              have HW := Lib.hid (Below.refl w3.heap.size w3)
              clear hat hbs q2 ho hcc HC HNO HL HOL HB3 hbl
              go_wp2_with fail
              refine wp_region_held_drew (S := fun v => v.cell? ⟨b, off + k * 2 + 1, none⟩ = some (.slice o.ad o.n o.c) ∧ Bs v ad3 ol.length c3 ol ∧ Bs v o.ad o.n o.c ol) (by kernel_rfl) ?_ (fun hHeld => ?_)
              focus (exact ⟨((HW.out.trans (Below.mono (by repeat (first | exact Below.refl _ _ | refine Below.drew ?_ | refine Below.trans ?_ (below_drewN _ _ _) | refine Below.alloc ?_ (by first | exact Nat.le_refl _ | (simp; done) | (simp; omega)) _)) HW.out.size)).cell (p := ⟨b, off + k * 2 + 1, none⟩) HBL.out).trans HQ2.out, H3.out.below (HW.out.trans (Below.mono (by repeat (first | exact Below.refl _ _ | refine Below.drew ?_ | refine Below.trans ?_ (below_drewN _ _ _) | refine Below.alloc ?_ (by first | exact Nat.le_refl _ | (simp; done) | (simp; omega)) _)) HW.out.size)), HBS.out.below (HW.out.trans (Below.mono (by repeat (first | exact Below.refl _ _ | refine Below.drew ?_ | refine Below.trans ?_ (below_drewN _ _ _) | refine Below.alloc ?_ (by first | exact Nat.le_refl _ | (simp; done) | (simp; omega)) _)) HW.out.size))⟩)
              refine wpAnyH_take (i := 0) (oi := { dst := some 42, op := Op.move (Operand.tmp 8), type := 4, pos := "law.go:129", after := #[], guard := none }) (v := ?_) rfl (by kernel_rfl) (by kernel_rfl) (by kernel_rfl) (fun _ _ _ h => h) (Or.inl ⟨by rfl, ?_⟩) hHeld ?_; rotate_left; focus (intro w hSw; (try dsimp only at hSw); go_simp; try with_reducible rfl)
              simp only [Act.put, List.setIfInBounds_toArray, List.set_cons_zero, List.set_cons_succ]
              refine wpAnyH_take (i := 1) (oi := { dst := some 43, op := Op.move (Operand.tmp 42), type := 4, pos := "law.go:129", after := #[{ on := 0, ground := Ground.data }], guard := none }) (v := ?_) rfl (by kernel_rfl) (by kernel_rfl) (by kernel_rfl) (fun _ _ _ h => h) (Or.inl ⟨by rfl, ?_⟩) hHeld ?_; rotate_left; focus (intro w hSw; (try dsimp only at hSw); go_simp; try with_reducible rfl)
              simp only [Act.put, List.setIfInBounds_toArray, List.set_cons_zero, List.set_cons_succ]
              first | (refine wpAnyH_take (i := 2) (oi := { dst := some 44, op := Op.move (Operand.tmp 7), type := 25, pos := "law.go:129", after := #[{ on := 1, ground := Ground.guard }], guard := some (1, true) }) (v := undef) rfl (by kernel_rfl) (by kernel_rfl) (by kernel_rfl) (fun _ _ _ h => h) (Or.inr ⟨by rfl, rfl⟩) hHeld ?_) | (refine wpAnyH_take (i := 2) (oi := { dst := some 44, op := Op.move (Operand.tmp 7), type := 25, pos := "law.go:129", after := #[{ on := 1, ground := Ground.guard }], guard := some (1, true) }) (v := ?_) rfl (by kernel_rfl) (by kernel_rfl) (by kernel_rfl) (fun _ _ _ h => h) (Or.inl ⟨by rfl, ?_⟩) hHeld ?_; rotate_left; focus (intro w hSw; (try dsimp only at hSw); go_simp; try with_reducible rfl))
              simp only [Act.put, List.setIfInBounds_toArray, List.set_cons_zero, List.set_cons_succ]
              first | (refine wpAnyH_take (i := 3) (oi := { dst := some 45, op := Op.convert 25 9 (Operand.tmp 44), type := 9, pos := "law.go:129", after := #[{ on := 2, ground := Ground.data }, { on := 1, ground := Ground.guard }], guard := some (1, true) }) (v := undef) rfl (by kernel_rfl) (by kernel_rfl) (by kernel_rfl) (fun _ _ _ h => h) (Or.inr ⟨by rfl, rfl⟩) hHeld ?_) | (refine' wpAnyH_take (i := 3) (oi := { dst := some 45, op := Op.convert 25 9 (Operand.tmp 44), type := 9, pos := "law.go:129", after := #[{ on := 2, ground := Ground.data }, { on := 1, ground := Ground.guard }], guard := some (1, true) }) (v := _) rfl (by kernel_rfl) (by kernel_rfl) (by kernel_rfl) (fun _ _ _ h => h) (yields_str elB.1 (by kernel_rfl) (by kernel_rfl) (by rfl) _ rfl rfl (fun v h => h.2.1)) hHeld ?_)
              simp only [Act.put, List.setIfInBounds_toArray, List.set_cons_zero, List.set_cons_succ]
              first | (refine wpAnyH_take (i := 4) (oi := { dst := some 46, op := Op.move (Operand.tmp 0), type := 22, pos := "law.go:129", after := #[{ on := 1, ground := Ground.guard }], guard := some (1, true) }) (v := undef) rfl (by kernel_rfl) (by kernel_rfl) (by kernel_rfl) (fun _ _ _ h => h) (Or.inr ⟨by rfl, rfl⟩) hHeld ?_) | (refine wpAnyH_take (i := 4) (oi := { dst := some 46, op := Op.move (Operand.tmp 0), type := 22, pos := "law.go:129", after := #[{ on := 1, ground := Ground.guard }], guard := some (1, true) }) (v := ?_) rfl (by kernel_rfl) (by kernel_rfl) (by kernel_rfl) (fun _ _ _ h => h) (Or.inl ⟨by rfl, ?_⟩) hHeld ?_; rotate_left; focus (intro w hSw; (try dsimp only at hSw); go_simp; try with_reducible rfl))
              simp only [Act.put, List.setIfInBounds_toArray, List.set_cons_zero, List.set_cons_succ]
              first | (refine wpAnyH_take (i := 5) (oi := { dst := some 47, op := Op.move (Operand.tmp 9), type := 3, pos := "law.go:129", after := #[{ on := 1, ground := Ground.guard }], guard := some (1, true) }) (v := undef) rfl (by kernel_rfl) (by kernel_rfl) (by kernel_rfl) (fun _ _ _ h => h) (Or.inr ⟨by rfl, rfl⟩) hHeld ?_) | (refine wpAnyH_take (i := 5) (oi := { dst := some 47, op := Op.move (Operand.tmp 9), type := 3, pos := "law.go:129", after := #[{ on := 1, ground := Ground.guard }], guard := some (1, true) }) (v := ?_) rfl (by kernel_rfl) (by kernel_rfl) (by kernel_rfl) (fun _ _ _ h => h) (Or.inl ⟨by rfl, ?_⟩) hHeld ?_; rotate_left; focus (intro w hSw; (try dsimp only at hSw); go_simp; try with_reducible rfl))
              simp only [Act.put, List.setIfInBounds_toArray, List.set_cons_zero, List.set_cons_succ]
              first | (refine wpAnyH_take (i := 6) (oi := { dst := some 48, op := Op.indexAddr 22 (Operand.tmp 46) (Operand.tmp 47), type := 0, pos := "law.go:129", after := #[{ on := 4, ground := Ground.data }, { on := 5, ground := Ground.data }, { on := 1, ground := Ground.guard }], guard := some (1, true) }) (v := undef) rfl (by kernel_rfl) (by kernel_rfl) (by kernel_rfl) (fun _ _ _ h => h) (Or.inr ⟨by rfl, rfl⟩) hHeld ?_) | (refine wpAnyH_take (i := 6) (oi := { dst := some 48, op := Op.indexAddr 22 (Operand.tmp 46) (Operand.tmp 47), type := 0, pos := "law.go:129", after := #[{ on := 4, ground := Ground.data }, { on := 5, ground := Ground.data }, { on := 1, ground := Ground.guard }], guard := some (1, true) }) (v := ?_) rfl (by kernel_rfl) (by kernel_rfl) (by kernel_rfl) (fun _ _ _ h => h) (Or.inl ⟨by rfl, ?_⟩) hHeld ?_; rotate_left; focus (intro w hSw; (try dsimp only at hSw); go_simp; try with_reducible rfl))
              simp only [Act.put, List.setIfInBounds_toArray, List.set_cons_zero, List.set_cons_succ]
              first | (refine wpAnyH_take (i := 7) (oi := { dst := some 49, op := Op.fieldAddr 43 (Operand.tmp 48) 1, type := 0, pos := "law.go:129", after := #[{ on := 6, ground := Ground.data }, { on := 1, ground := Ground.guard }], guard := some (1, true) }) (v := undef) rfl (by kernel_rfl) (by kernel_rfl) (by kernel_rfl) (fun _ _ _ h => h) (Or.inr ⟨by rfl, rfl⟩) hHeld ?_) | (refine wpAnyH_take (i := 7) (oi := { dst := some 49, op := Op.fieldAddr 43 (Operand.tmp 48) 1, type := 0, pos := "law.go:129", after := #[{ on := 6, ground := Ground.data }, { on := 1, ground := Ground.guard }], guard := some (1, true) }) (v := ?_) rfl (by kernel_rfl) (by kernel_rfl) (by kernel_rfl) (fun _ _ _ h => h) (Or.inl ⟨by rfl, ?_⟩) hHeld ?_; rotate_left; focus (intro w hSw; (try dsimp only at hSw); go_simp; try with_reducible rfl))
              simp only [Act.put, List.setIfInBounds_toArray, List.set_cons_zero, List.set_cons_succ]
              first | (refine wpAnyH_take (i := 8) (oi := { dst := some 50, op := Op.load 25 (Operand.tmp 49), type := 25, pos := "law.go:129", after := #[{ on := 7, ground := Ground.data }, { on := 1, ground := Ground.guard }], guard := some (1, true) }) (v := undef) rfl (by kernel_rfl) (by kernel_rfl) (by kernel_rfl) (fun _ _ _ h => h) (Or.inr ⟨by rfl, rfl⟩) hHeld ?_) | (refine wpAnyH_take (i := 8) (oi := { dst := some 50, op := Op.load 25 (Operand.tmp 49), type := 25, pos := "law.go:129", after := #[{ on := 7, ground := Ground.data }, { on := 1, ground := Ground.guard }], guard := some (1, true) }) (v := ?_) rfl (by kernel_rfl) (by kernel_rfl) (by kernel_rfl) (fun _ _ _ h => h) (Or.inl ⟨by rfl, ?_⟩) hHeld ?_; rotate_left; focus (intro w hSw; (try dsimp only at hSw); go_simp; try with_reducible rfl))
              simp only [Act.put, List.setIfInBounds_toArray, List.set_cons_zero, List.set_cons_succ]
              first | (refine wpAnyH_take (i := 9) (oi := { dst := some 51, op := Op.convert 25 9 (Operand.tmp 50), type := 9, pos := "law.go:129", after := #[{ on := 8, ground := Ground.data }, { on := 1, ground := Ground.guard }], guard := some (1, true) }) (v := undef) rfl (by kernel_rfl) (by kernel_rfl) (by kernel_rfl) (fun _ _ _ h => h) (Or.inr ⟨by rfl, rfl⟩) hHeld ?_) | (refine' wpAnyH_take (i := 9) (oi := { dst := some 51, op := Op.convert 25 9 (Operand.tmp 50), type := 9, pos := "law.go:129", after := #[{ on := 8, ground := Ground.data }, { on := 1, ground := Ground.guard }], guard := some (1, true) }) (v := _) rfl (by kernel_rfl) (by kernel_rfl) (by kernel_rfl) (fun _ _ _ h => h) (yields_str elB.1 (by kernel_rfl) (by kernel_rfl) (by rfl) _ rfl rfl (fun v h => h.2.2)) hHeld ?_)
              simp only [Act.put, List.setIfInBounds_toArray, List.set_cons_zero, List.set_cons_succ]
              first | (refine wpAnyH_take (i := 10) (oi := { dst := some 52, op := Op.binOp BinOp.eql 9 (Operand.tmp 45) (Operand.tmp 51) 9, type := 4, pos := "law.go:129", after := #[{ on := 3, ground := Ground.data }, { on := 9, ground := Ground.data }, { on := 1, ground := Ground.guard }], guard := some (1, true) }) (v := undef) rfl (by kernel_rfl) (by kernel_rfl) (by kernel_rfl) (fun _ _ _ h => h) (Or.inr ⟨by rfl, rfl⟩) hHeld ?_) | (refine wpAnyH_take (i := 10) (oi := { dst := some 52, op := Op.binOp BinOp.eql 9 (Operand.tmp 45) (Operand.tmp 51) 9, type := 4, pos := "law.go:129", after := #[{ on := 3, ground := Ground.data }, { on := 9, ground := Ground.data }, { on := 1, ground := Ground.guard }], guard := some (1, true) }) (v := ?_) rfl (by kernel_rfl) (by kernel_rfl) (by kernel_rfl) (fun _ _ _ h => h) (Or.inl ⟨by rfl, ?_⟩) hHeld ?_; rotate_left; focus (intro w hSw; (try dsimp only at hSw); go_simp; try with_reducible rfl))
              simp only [Act.put, List.setIfInBounds_toArray, List.set_cons_zero, List.set_cons_succ]
              refine wpAnyH_take (i := 11) (oi := { dst := some 53, op := Op.pick (Operand.tmp 43) (Operand.tmp 52) (Operand.const (Value.bool false)), type := 4, pos := "law.go:129", after := #[{ on := 1, ground := Ground.data }, { on := 10, ground := Ground.data }], guard := none }) (v := ?_) rfl (by kernel_rfl) (by kernel_rfl) (by kernel_rfl) (fun _ _ _ h => h) (Or.inl ⟨by rfl, ?_⟩) hHeld ?_; rotate_left; focus (intro w hSw; (try dsimp only at hSw); go_simp; try with_reducible rfl)
              simp only [Act.put, List.setIfInBounds_toArray, List.set_cons_zero, List.set_cons_succ]
              refine wpAnyH_take (i := 12) (oi := { dst := some 54, op := Op.move (Operand.tmp 53), type := 4, pos := "law.go:129", after := #[{ on := 11, ground := Ground.data }, { on := 1, ground := Ground.chain }], guard := none }) (v := ?_) rfl (by kernel_rfl) (by kernel_rfl) (by kernel_rfl) (fun _ _ _ h => h) (Or.inl ⟨by rfl, ?_⟩) hHeld ?_; rotate_left; focus (intro w hSw; (try dsimp only at hSw); go_simp; try with_reducible rfl)
              simp only [Act.put, List.setIfInBounds_toArray, List.set_cons_zero, List.set_cons_succ]
              first | (refine wpAnyH_take (i := 13) (oi := { dst := some 55, op := Op.move (Operand.tmp 0), type := 22, pos := "law.go:129", after := #[{ on := 12, ground := Ground.guard }], guard := some (12, true) }) (v := undef) rfl (by kernel_rfl) (by kernel_rfl) (by kernel_rfl) (fun _ _ _ h => h) (Or.inr ⟨by rfl, rfl⟩) hHeld ?_) | (refine wpAnyH_take (i := 13) (oi := { dst := some 55, op := Op.move (Operand.tmp 0), type := 22, pos := "law.go:129", after := #[{ on := 12, ground := Ground.guard }], guard := some (12, true) }) (v := ?_) rfl (by kernel_rfl) (by kernel_rfl) (by kernel_rfl) (fun _ _ _ h => h) (Or.inl ⟨by rfl, ?_⟩) hHeld ?_; rotate_left; focus (intro w hSw; (try dsimp only at hSw); go_simp; try with_reducible rfl))
              simp only [Act.put, List.setIfInBounds_toArray, List.set_cons_zero, List.set_cons_succ]
              first | (refine wpAnyH_take (i := 14) (oi := { dst := some 56, op := Op.move (Operand.tmp 1), type := 22, pos := "law.go:129", after := #[{ on := 12, ground := Ground.guard }], guard := some (12, true) }) (v := undef) rfl (by kernel_rfl) (by kernel_rfl) (by kernel_rfl) (fun _ _ _ h => h) (Or.inr ⟨by rfl, rfl⟩) hHeld ?_) | (refine wpAnyH_take (i := 14) (oi := { dst := some 56, op := Op.move (Operand.tmp 1), type := 22, pos := "law.go:129", after := #[{ on := 12, ground := Ground.guard }], guard := some (12, true) }) (v := ?_) rfl (by kernel_rfl) (by kernel_rfl) (by kernel_rfl) (fun _ _ _ h => h) (Or.inl ⟨by rfl, ?_⟩) hHeld ?_; rotate_left; focus (intro w hSw; (try dsimp only at hSw); go_simp; try with_reducible rfl))
              simp only [Act.put, List.setIfInBounds_toArray, List.set_cons_zero, List.set_cons_succ]
              first | (refine wpAnyH_take (i := 16) (oi := { dst := some 58, op := Op.move (Operand.tmp 0), type := 22, pos := "law.go:129", after := #[{ on := 12, ground := Ground.guard }], guard := some (12, true) }) (v := undef) rfl (by kernel_rfl) (by kernel_rfl) (by kernel_rfl) (fun _ _ _ h => h) (Or.inr ⟨by rfl, rfl⟩) hHeld ?_) | (refine wpAnyH_take (i := 16) (oi := { dst := some 58, op := Op.move (Operand.tmp 0), type := 22, pos := "law.go:129", after := #[{ on := 12, ground := Ground.guard }], guard := some (12, true) }) (v := ?_) rfl (by kernel_rfl) (by kernel_rfl) (by kernel_rfl) (fun _ _ _ h => h) (Or.inl ⟨by rfl, ?_⟩) hHeld ?_; rotate_left; focus (intro w hSw; (try dsimp only at hSw); go_simp; try with_reducible rfl))
              simp only [Act.put, List.setIfInBounds_toArray, List.set_cons_zero, List.set_cons_succ]
              first | (refine wpAnyH_take (i := 17) (oi := { dst := some 59, op := Op.move (Operand.tmp 1), type := 22, pos := "law.go:129", after := #[{ on := 12, ground := Ground.guard }], guard := some (12, true) }) (v := undef) rfl (by kernel_rfl) (by kernel_rfl) (by kernel_rfl) (fun _ _ _ h => h) (Or.inr ⟨by rfl, rfl⟩) hHeld ?_) | (refine wpAnyH_take (i := 17) (oi := { dst := some 59, op := Op.move (Operand.tmp 1), type := 22, pos := "law.go:129", after := #[{ on := 12, ground := Ground.guard }], guard := some (12, true) }) (v := ?_) rfl (by kernel_rfl) (by kernel_rfl) (by kernel_rfl) (fun _ _ _ h => h) (Or.inl ⟨by rfl, ?_⟩) hHeld ?_; rotate_left; focus (intro w hSw; (try dsimp only at hSw); go_simp; try with_reducible rfl))
              simp only [Act.put, List.setIfInBounds_toArray, List.set_cons_zero, List.set_cons_succ]
              refine wpAnyH_ready (rs := [15]) (by kernel_rfl) (by simp) ?_
              refine (AllReadyH.cons (o := { dst := some 57, op := Op.call { callee := Callee.value (Operand.func 20), args := #[Operand.tmp 55, Operand.tmp 56], argTypes := #[22, 22] }, type := 4, pos := "law.go:129", after := #[{ on := 13, ground := Ground.data }, { on := 14, ground := Ground.data }, { on := 12, ground := Ground.chain }, { on := 12, ground := Ground.guard }], guard := some (12, true) }) rfl (fun K hK => ?_) AllReadyH.nil)
              (go_simp; go_must (refine (optSame_any _ n c os ad2 n2 c2 ps _ (HS.out.below (HB.out.trans (Below.mono (by repeat (first | exact Below.refl _ _ | refine Below.drew ?_ | refine Below.trans ?_ (below_drewN _ _ _) | refine Below.alloc ?_ (by first | exact Nat.le_refl _ | (simp; done) | (simp; omega)) _)) HB.out.size))) (HS2.out.below (HB.out.trans (Below.mono (by repeat (first | exact Below.refl _ _ | refine Below.drew ?_ | refine Below.trans ?_ (below_drewN _ _ _) | refine Below.alloc ?_ (by first | exact Nat.le_refl _ | (simp; done) | (simp; omega)) _)) HB.out.size)))).mono ?_); intro e w7 hr; rw [HD.out] at hr; obtain ⟨rfl, hb7⟩ := hr; have hE__ := cU HB (by repeat (first | exact Below.refl _ _ | refine Below.drew ?_ | refine Below.trans ?_ (below_drewN _ _ _) | refine Below.alloc ?_ (by first | exact Nat.le_refl _ | (simp; done) | (simp; omega)) _)) hb7; (first | replace HB := cK1 HB hE__); (first | replace HW := cB1 HW hE__ | replace HW := cO1 HW hE__ | replace HW := cG1 HW hE__ | replace HW := cW1 HW hE__ | replace HW := cV1 HW hE__ | replace HW := cP1 HW hE__ | replace HW := cK1 HW hE__); clear hE__; clear hb7; go_wp2_with fail)
              refine hK.out _ _ ?_ (fun hHeld => ?_)
              focus (exact ⟨((HW.out.trans (Below.mono (by repeat (first | exact Below.refl _ _ | refine Below.drew ?_ | refine Below.trans ?_ (below_drewN _ _ _) | refine Below.alloc ?_ (by first | exact Nat.le_refl _ | (simp; done) | (simp; omega)) _)) HW.out.size)).cell (p := ⟨b, off + k * 2 + 1, none⟩) HBL.out).trans HQ2.out, H3.out.below (HW.out.trans (Below.mono (by repeat (first | exact Below.refl _ _ | refine Below.drew ?_ | refine Below.trans ?_ (below_drewN _ _ _) | refine Below.alloc ?_ (by first | exact Nat.le_refl _ | (simp; done) | (simp; omega)) _)) HW.out.size)), HBS.out.below (HW.out.trans (Below.mono (by repeat (first | exact Below.refl _ _ | refine Below.drew ?_ | refine Below.trans ?_ (below_drewN _ _ _) | refine Below.alloc ?_ (by first | exact Nat.le_refl _ | (simp; done) | (simp; omega)) _)) HW.out.size))⟩)
              clear hK K
              try simp only [Act.put, List.setIfInBounds_toArray, List.set_cons_zero, List.set_cons_succ]
              refine wpAnyH_ready (rs := [18]) (by kernel_rfl) (by simp) ?_
              refine (AllReadyH.cons (o := { dst := some 60, op := Op.call { callee := Callee.value (Operand.func 19), args := #[Operand.tmp 58, Operand.tmp 59], argTypes := #[22, 22] }, type := 4, pos := "law.go:129", after := #[{ on := 16, ground := Ground.data }, { on := 17, ground := Ground.data }, { on := 15, ground := Ground.chain }, { on := 12, ground := Ground.guard }], guard := some (12, true) }) rfl (fun K hK => ?_) AllReadyH.nil)
              (go_simp; go_must (refine (refSame_any _ n c os ad2 n2 c2 ps _ (HS.out.below (HB.out.trans (Below.mono (by repeat (first | exact Below.refl _ _ | refine Below.drew ?_ | refine Below.trans ?_ (below_drewN _ _ _) | refine Below.alloc ?_ (by first | exact Nat.le_refl _ | (simp; done) | (simp; omega)) _)) HB.out.size))) (HS2.out.below (HB.out.trans (Below.mono (by repeat (first | exact Below.refl _ _ | refine Below.drew ?_ | refine Below.trans ?_ (below_drewN _ _ _) | refine Below.alloc ?_ (by first | exact Nat.le_refl _ | (simp; done) | (simp; omega)) _)) HB.out.size)))).mono ?_); intro e w8 hr; rw [HD.out] at hr; obtain ⟨rfl, hb8⟩ := hr; have hE__ := cU HB (by repeat (first | exact Below.refl _ _ | refine Below.drew ?_ | refine Below.trans ?_ (below_drewN _ _ _) | refine Below.alloc ?_ (by first | exact Nat.le_refl _ | (simp; done) | (simp; omega)) _)) hb8; (first | replace HB := cK1 HB hE__); (first | replace HW := cB1 HW hE__ | replace HW := cO1 HW hE__ | replace HW := cG1 HW hE__ | replace HW := cW1 HW hE__ | replace HW := cV1 HW hE__ | replace HW := cP1 HW hE__ | replace HW := cK1 HW hE__); clear hE__; clear hb8; go_wp2_with fail)
              refine hK.out _ _ ?_ (fun hHeld => ?_)
              focus (exact ⟨((HW.out.trans (Below.mono (by repeat (first | exact Below.refl _ _ | refine Below.drew ?_ | refine Below.trans ?_ (below_drewN _ _ _) | refine Below.alloc ?_ (by first | exact Nat.le_refl _ | (simp; done) | (simp; omega)) _)) HW.out.size)).cell (p := ⟨b, off + k * 2 + 1, none⟩) HBL.out).trans HQ2.out, H3.out.below (HW.out.trans (Below.mono (by repeat (first | exact Below.refl _ _ | refine Below.drew ?_ | refine Below.trans ?_ (below_drewN _ _ _) | refine Below.alloc ?_ (by first | exact Nat.le_refl _ | (simp; done) | (simp; omega)) _)) HW.out.size)), HBS.out.below (HW.out.trans (Below.mono (by repeat (first | exact Below.refl _ _ | refine Below.drew ?_ | refine Below.trans ?_ (below_drewN _ _ _) | refine Below.alloc ?_ (by first | exact Nat.le_refl _ | (simp; done) | (simp; omega)) _)) HW.out.size))⟩)
              clear hK K
              try simp only [Act.put, List.setIfInBounds_toArray, List.set_cons_zero, List.set_cons_succ]
              first | (refine wpAnyH_take (i := 19) (oi := { dst := some 61, op := Op.binOp BinOp.eql 4 (Operand.tmp 57) (Operand.tmp 60) 4, type := 4, pos := "law.go:129", after := #[{ on := 15, ground := Ground.data }, { on := 18, ground := Ground.data }, { on := 12, ground := Ground.guard }], guard := some (12, true) }) (v := undef) rfl (by kernel_rfl) (by kernel_rfl) (by kernel_rfl) (fun _ _ _ h => h) (Or.inr ⟨by rfl, rfl⟩) hHeld ?_) | (refine wpAnyH_take (i := 19) (oi := { dst := some 61, op := Op.binOp BinOp.eql 4 (Operand.tmp 57) (Operand.tmp 60) 4, type := 4, pos := "law.go:129", after := #[{ on := 15, ground := Ground.data }, { on := 18, ground := Ground.data }, { on := 12, ground := Ground.guard }], guard := some (12, true) }) (v := ?_) rfl (by kernel_rfl) (by kernel_rfl) (by kernel_rfl) (fun _ _ _ h => h) (Or.inl ⟨by rfl, ?_⟩) hHeld ?_; rotate_left; focus (intro w hSw; (try dsimp only at hSw); go_simp; try with_reducible rfl))
              simp only [Act.put, List.setIfInBounds_toArray, List.set_cons_zero, List.set_cons_succ]
              refine wpAnyH_take (i := 20) (oi := { dst := some 62, op := Op.pick (Operand.tmp 54) (Operand.tmp 61) (Operand.const (Value.bool false)), type := 4, pos := "law.go:129", after := #[{ on := 12, ground := Ground.data }, { on := 19, ground := Ground.data }], guard := none }) (v := ?_) rfl (by kernel_rfl) (by kernel_rfl) (by kernel_rfl) (fun _ _ _ h => h) (Or.inl ⟨by rfl, ?_⟩) hHeld ?_; rotate_left; focus (intro w hSw; (try dsimp only at hSw); go_simp; try with_reducible rfl)
              simp only [Act.put, List.setIfInBounds_toArray, List.set_cons_zero, List.set_cons_succ]
              refine wpAnyH_take (i := 21) (oi := { dst := some 63, op := Op.move (Operand.tmp 62), type := 4, pos := "law.go:129", after := #[{ on := 20, ground := Ground.data }, { on := 18, ground := Ground.chain }], guard := none }) (v := ?_) rfl (by kernel_rfl) (by kernel_rfl) (by kernel_rfl) (fun _ _ _ h => h) (Or.inl ⟨by rfl, ?_⟩) hHeld ?_; rotate_left; focus (intro w hSw; (try dsimp only at hSw); go_simp; try with_reducible rfl)
              simp only [Act.put, List.setIfInBounds_toArray, List.set_cons_zero, List.set_cons_succ]
              first | (refine wpAnyH_take (i := 22) (oi := { dst := some 64, op := Op.move (Operand.tmp 0), type := 22, pos := "law.go:129", after := #[{ on := 21, ground := Ground.guard }], guard := some (21, true) }) (v := undef) rfl (by kernel_rfl) (by kernel_rfl) (by kernel_rfl) (fun _ _ _ h => h) (Or.inr ⟨by rfl, rfl⟩) hHeld ?_) | (refine wpAnyH_take (i := 22) (oi := { dst := some 64, op := Op.move (Operand.tmp 0), type := 22, pos := "law.go:129", after := #[{ on := 21, ground := Ground.guard }], guard := some (21, true) }) (v := ?_) rfl (by kernel_rfl) (by kernel_rfl) (by kernel_rfl) (fun _ _ _ h => h) (Or.inl ⟨by rfl, ?_⟩) hHeld ?_; rotate_left; focus (intro w hSw; (try dsimp only at hSw); go_simp; try with_reducible rfl))
              simp only [Act.put, List.setIfInBounds_toArray, List.set_cons_zero, List.set_cons_succ]
              first | (refine wpAnyH_take (i := 23) (oi := { dst := some 65, op := Op.move (Operand.tmp 0), type := 22, pos := "law.go:129", after := #[{ on := 21, ground := Ground.guard }], guard := some (21, true) }) (v := undef) rfl (by kernel_rfl) (by kernel_rfl) (by kernel_rfl) (fun _ _ _ h => h) (Or.inr ⟨by rfl, rfl⟩) hHeld ?_) | (refine wpAnyH_take (i := 23) (oi := { dst := some 65, op := Op.move (Operand.tmp 0), type := 22, pos := "law.go:129", after := #[{ on := 21, ground := Ground.guard }], guard := some (21, true) }) (v := ?_) rfl (by kernel_rfl) (by kernel_rfl) (by kernel_rfl) (fun _ _ _ h => h) (Or.inl ⟨by rfl, ?_⟩) hHeld ?_; rotate_left; focus (intro w hSw; (try dsimp only at hSw); go_simp; try with_reducible rfl))
              simp only [Act.put, List.setIfInBounds_toArray, List.set_cons_zero, List.set_cons_succ]
              refine wpAnyH_ready (rs := [24]) (by kernel_rfl) (by simp) ?_
              refine (AllReadyH.cons (o := { dst := some 66, op := Op.call { callee := Callee.value (Operand.func 20), args := #[Operand.tmp 64, Operand.tmp 65], argTypes := #[22, 22] }, type := 4, pos := "law.go:129", after := #[{ on := 22, ground := Ground.data }, { on := 23, ground := Ground.data }, { on := 21, ground := Ground.chain }, { on := 21, ground := Ground.guard }], guard := some (21, true) }) rfl (fun K hK => ?_) AllReadyH.nil)
              (go_simp; go_must (refine (optSame_any _ n c os _ n c os _ (HS.out.below (HB.out.trans (Below.mono (by repeat (first | exact Below.refl _ _ | refine Below.drew ?_ | refine Below.trans ?_ (below_drewN _ _ _) | refine Below.alloc ?_ (by first | exact Nat.le_refl _ | (simp; done) | (simp; omega)) _)) HB.out.size))) (HS.out.below (HB.out.trans (Below.mono (by repeat (first | exact Below.refl _ _ | refine Below.drew ?_ | refine Below.trans ?_ (below_drewN _ _ _) | refine Below.alloc ?_ (by first | exact Nat.le_refl _ | (simp; done) | (simp; omega)) _)) HB.out.size)))).mono ?_); intro e w9 hr; rw [show decide (vals os = vals os) = true by simp] at hr; obtain ⟨rfl, hb9⟩ := hr; have hE__ := cU HB (by repeat (first | exact Below.refl _ _ | refine Below.drew ?_ | refine Below.trans ?_ (below_drewN _ _ _) | refine Below.alloc ?_ (by first | exact Nat.le_refl _ | (simp; done) | (simp; omega)) _)) hb9; (first | replace HB := cK1 HB hE__); (first | replace HW := cB1 HW hE__ | replace HW := cO1 HW hE__ | replace HW := cG1 HW hE__ | replace HW := cW1 HW hE__ | replace HW := cV1 HW hE__ | replace HW := cP1 HW hE__ | replace HW := cK1 HW hE__); clear hE__; clear hb9; go_wp2_with fail)
              refine hK.out _ _ ?_ (fun hHeld => ?_)
              focus (exact ⟨((HW.out.trans (Below.mono (by repeat (first | exact Below.refl _ _ | refine Below.drew ?_ | refine Below.trans ?_ (below_drewN _ _ _) | refine Below.alloc ?_ (by first | exact Nat.le_refl _ | (simp; done) | (simp; omega)) _)) HW.out.size)).cell (p := ⟨b, off + k * 2 + 1, none⟩) HBL.out).trans HQ2.out, H3.out.below (HW.out.trans (Below.mono (by repeat (first | exact Below.refl _ _ | refine Below.drew ?_ | refine Below.trans ?_ (below_drewN _ _ _) | refine Below.alloc ?_ (by first | exact Nat.le_refl _ | (simp; done) | (simp; omega)) _)) HW.out.size)), HBS.out.below (HW.out.trans (Below.mono (by repeat (first | exact Below.refl _ _ | refine Below.drew ?_ | refine Below.trans ?_ (below_drewN _ _ _) | refine Below.alloc ?_ (by first | exact Nat.le_refl _ | (simp; done) | (simp; omega)) _)) HW.out.size))⟩)
              clear hK K
              try simp only [Act.put, List.setIfInBounds_toArray, List.set_cons_zero, List.set_cons_succ]
              refine wpAnyH_take (i := 25) (oi := { dst := some 67, op := Op.pick (Operand.tmp 63) (Operand.tmp 66) (Operand.const (Value.bool false)), type := 4, pos := "law.go:129", after := #[{ on := 21, ground := Ground.data }, { on := 24, ground := Ground.data }], guard := none }) (v := ?_) rfl (by kernel_rfl) (by kernel_rfl) (by kernel_rfl) (fun _ _ _ h => h) (Or.inl ⟨by rfl, ?_⟩) hHeld ?_; rotate_left; focus (intro w hSw; (try dsimp only at hSw); go_simp; try with_reducible rfl)
              simp only [Act.put, List.setIfInBounds_toArray, List.set_cons_zero, List.set_cons_succ]
              refine wpAnyH_take (i := 26) (oi := { dst := some 6, op := Op.assign (Operand.tmp 67), type := 4, pos := "law.go:129", after := #[{ on := 25, ground := Ground.data }, { on := 24, ground := Ground.chain }, { on := 0, ground := Ground.phase }, { on := 1, ground := Ground.phase }, { on := 2, ground := Ground.phase }, { on := 3, ground := Ground.phase }, { on := 4, ground := Ground.phase }, { on := 5, ground := Ground.phase }, { on := 6, ground := Ground.phase }, { on := 7, ground := Ground.phase }, { on := 8, ground := Ground.phase }, { on := 9, ground := Ground.phase }, { on := 10, ground := Ground.phase }, { on := 11, ground := Ground.phase }, { on := 12, ground := Ground.phase }, { on := 13, ground := Ground.phase }, { on := 14, ground := Ground.phase }, { on := 15, ground := Ground.phase }, { on := 16, ground := Ground.phase }, { on := 17, ground := Ground.phase }, { on := 18, ground := Ground.phase }, { on := 19, ground := Ground.phase }, { on := 20, ground := Ground.phase }, { on := 21, ground := Ground.phase }, { on := 22, ground := Ground.phase }, { on := 23, ground := Ground.phase }, { on := 24, ground := Ground.phase }, { on := 25, ground := Ground.phase }], guard := none }) (v := ?_) rfl (by kernel_rfl) (by kernel_rfl) (by kernel_rfl) (fun _ _ _ h => h) (Or.inl ⟨by rfl, ?_⟩) hHeld ?_; rotate_left; focus (intro w hSw; (try dsimp only at hSw); go_simp; try with_reducible rfl)
              simp only [Act.put, List.setIfInBounds_toArray, List.set_cons_zero, List.set_cons_succ]
              refine wpAnyH_done (by kernel_rfl) ?_ _
              all_goals
                go_wp2_with fail
                go_ret
                exact ⟨rfl, HB.out.trans (Below.mono (by repeat (first | exact Below.refl _ _ | refine Below.drew ?_ | refine Below.trans ?_ (below_drewN _ _ _) | refine Below.alloc ?_ (by first | exact Nat.le_refl _ | (simp; done) | (simp; omega)) _)) HB.out.size)⟩
      · have HNO := Lib.hid hno
        clear hno
        cases D
        all_goals
          go_enter Try.func7, Try.ntmps7
          go_wp2_with (first
            | (go_at_call 9; go_must (refine (optAwake_any _).mono ?_); rintro e w6 ⟨rfl, hb6⟩; have hE__ := cU HB (by repeat (first | exact Below.refl _ _ | refine Below.drew ?_ | refine Below.trans ?_ (below_drewN _ _ _) | refine Below.alloc ?_ (by first | exact Nat.le_refl _ | (simp; done) | (simp; omega)) _)) hb6; (first | replace HB := cK1 HB hE__); clear hE__; clear hb6)
            | ((with_reducible show Calls _ 10 #[.slice ad n c] _ _); go_must (refine (few_any ad n c os _ (HS.out.below HB.out)).mono ?_); intro e w' hr; rw [HF.out] at hr; obtain ⟨rfl, rfl⟩ := hr)
            | ((with_reducible show Calls _ 10 #[.slice ad2 n2 c2] _ _); go_must (refine (few_any ad2 n2 c2 ps _ (HS2.out.below HB.out)).mono ?_); intro e w' hr; rw [HF2.out] at hr; obtain ⟨rfl, rfl⟩ := hr)
            | (go_at_call 21; go_must (refine (find_none ad n c os code _ (HS.out.below HB.out) HNO.out).mono ?_); rintro e w3 ⟨rfl, hb3⟩; have hE__ := cU HB (by repeat (first | exact Below.refl _ _ | refine Below.drew ?_ | refine Below.trans ?_ (below_drewN _ _ _) | refine Below.alloc ?_ (by first | exact Nat.le_refl _ | (simp; done) | (simp; omega)) _)) hb3; (first | replace HB := cK1 HB hE__); clear hE__; clear hb3))
          go_loop [9] (fun i => ∃ k : Nat, k ≤ n ∧ i = .int .i64 k) (fun i => n - (intOf i).toNat)
          case atStart => exact ⟨0, by omega, rfl⟩
          case round =>
            obtain ⟨k, hk, rfl⟩ := hrel
            by_cases hlt : k < n
            · have hko : k < os.length := by have := HN.out; omega
              obtain ⟨b, off, rfl, hbl, hat⟩ := (HS.out.below HB.out).at (j := k) hko
              obtain ⟨q1, q2, hbs⟩ := hat k hko
              have hne2 : ¬ (os[k].code = code) := HNO.out k hko
              obtain ⟨o, ho⟩ : ∃ o, o = os[k] := ⟨_, rfl⟩
              rw [← ho] at q1 q2 hbs hne2
              clear hat hbs q2 ho
              go_wp2_with fail
              go_round
              case rel => exact ⟨k + 1, by omega, by go_num⟩
              case measure => simp [intOf]; omega
            · go_wp2_with (first
                | ((with_reducible show Calls _ 20 #[.slice ad n c, .slice ad2 n2 c2] _ _); go_must (refine (optSame_any ad n c os ad2 n2 c2 ps _ (HS.out.below HB.out) (HS2.out.below HB.out)).mono ?_); intro e w7 hr; rw [HD.out] at hr; obtain ⟨rfl, hb7⟩ := hr; have hE__ := cU HB (by repeat (first | exact Below.refl _ _ | refine Below.drew ?_ | refine Below.trans ?_ (below_drewN _ _ _) | refine Below.alloc ?_ (by first | exact Nat.le_refl _ | (simp; done) | (simp; omega)) _)) hb7; (first | replace HB := cK1 HB hE__); clear hE__; clear hb7)
                | (go_at_call 19; go_must (refine (refSame_any ad n c os ad2 n2 c2 ps _ (HS.out.below HB.out) (HS2.out.below HB.out)).mono ?_); intro e w8 hr; rw [HD.out] at hr; obtain ⟨rfl, hb8⟩ := hr; have hE__ := cU HB (by repeat (first | exact Below.refl _ _ | refine Below.drew ?_ | refine Below.trans ?_ (below_drewN _ _ _) | refine Below.alloc ?_ (by first | exact Nat.le_refl _ | (simp; done) | (simp; omega)) _)) hb8; (first | replace HB := cK1 HB hE__); clear hE__; clear hb8)
                | ((with_reducible show Calls _ 20 #[.slice ad n c, .slice ad n c] _ _); go_must (refine (optSame_any ad n c os ad n c os _ (HS.out.below HB.out) (HS.out.below HB.out)).mono ?_); intro e w9 hr; rw [show decide (vals os = vals os) = true by simp] at hr; obtain ⟨rfl, hb9⟩ := hr; have hE__ := cU HB (by repeat (first | exact Below.refl _ _ | refine Below.drew ?_ | refine Below.trans ?_ (below_drewN _ _ _) | refine Below.alloc ?_ (by first | exact Nat.le_refl _ | (simp; done) | (simp; omega)) _)) hb9; (first | replace HB := cK1 HB hE__); clear hE__; clear hb9))
              go_ret
              exact ⟨rfl, HB.out⟩
    · have HF := Lib.hid hf
      have HF2 : Hid (fewO (vals ps) = false) := Lib.hid (by simpa using hf2)
      clear hf hf2
      go_enter Try.func7, Try.ntmps7
      go_wp2_with (first
        | (go_at_call 9; go_must (refine (optAwake_any _).mono ?_); rintro e w6 ⟨rfl, hb6⟩; have hE__ := cU HB (by repeat (first | exact Below.refl _ _ | refine Below.drew ?_ | refine Below.trans ?_ (below_drewN _ _ _) | refine Below.alloc ?_ (by first | exact Nat.le_refl _ | (simp; done) | (simp; omega)) _)) hb6; (first | replace HB := cK1 HB hE__); clear hE__; clear hb6)
        | ((with_reducible show Calls _ 10 #[.slice ad n c] _ _); go_must (refine (few_any ad n c os _ (HS.out.below HB.out)).mono ?_); intro e w' hr; rw [HF.out] at hr; obtain ⟨rfl, rfl⟩ := hr)
        | ((with_reducible show Calls _ 10 #[.slice ad2 n2 c2] _ _); go_must (refine (few_any ad2 n2 c2 ps _ (HS2.out.below HB.out)).mono ?_); intro e w' hr; rw [HF2.out] at hr; obtain ⟨rfl, rfl⟩ := hr))
      go_ret
      exact ⟨rfl, HB.out⟩
  · have HF : Hid (fewO (vals os) = false) := Lib.hid (by simpa using hf)
    clear hf
    go_enter Try.func7, Try.ntmps7
    go_wp2_with (first
      | (go_at_call 9; go_must (refine (optAwake_any _).mono ?_); rintro e w6 ⟨rfl, hb6⟩; have hE__ := cU HB (by repeat (first | exact Below.refl _ _ | refine Below.drew ?_ | refine Below.trans ?_ (below_drewN _ _ _) | refine Below.alloc ?_ (by first | exact Nat.le_refl _ | (simp; done) | (simp; omega)) _)) hb6; (first | replace HB := cK1 HB hE__); clear hE__; clear hb6)
      | ((with_reducible show Calls _ 10 #[.slice ad n c] _ _); go_must (refine (few_any ad n c os _ (HS.out.below HB.out)).mono ?_); intro e w' hr; rw [HF.out] at hr; obtain ⟨rfl, rfl⟩ := hr))
    go_ret
    exact ⟨rfl, HB.out⟩
end Go.Proofs.Ytmigbcoobbcahaa
