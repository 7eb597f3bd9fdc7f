/-
  Chapter 25: the laws OptionCuts, OptionFinds, walked.
-/
import Derived.Test.YtmigbcoobbcahaaOpt15
namespace Go.Proofs.Ytmigbcoobbcahaa
open Go.RowKit Go.Sort
set_option linter.unusedVariables false
set_option linter.unusedSimpArgs false

theorem ocells_take (os : List OptV) (k : Nat) : ocells (os.take k) = (ocells os).take (k * 2) := by
  induction os generalizing k with
  | nil => simp [ocells]
  | cons o os ih =>
    cases k with
    | zero => simp [ocells]
    | succ k =>
      have := ih k
      simp only [ocells, List.take_succ_cons, List.flatMap_cons, OptV.cells, List.cons_append, List.nil_append] at *
      rw [this, show (k + 1) * 2 = k * 2 + 1 + 1 by omega, List.take_succ_cons, List.take_succ_cons]
theorem Ops.take {w : World} {ad : Option Addr} {n c : Nat} {os : List OptV} (h : Ops w ad n c os) (k : Nat) (hk : k ≤ n) : Ops w (subAd ad c 0 2) (k - 0) (c - 0) (os.take k) := by
  refine ⟨?_, fun o ho => h.2 o (List.mem_of_mem_take ho)⟩
  have := Sl.sub h.1 (l := 0) (h := k) (Nat.zero_le _) hk
  rw [Nat.zero_mul, List.drop_zero, Nat.sub_zero, ← ocells_take] at this
  exact this
theorem vals_take (os : List OptV) (k : Nat) : vals (os.take k) = (vals os).take k := by simp [vals, List.map_take]

set_option maxRecDepth 100000 in
set_option maxHeartbeats 4000000 in
theorem cuts_walk (ad : Option Addr) (n c : Nat) (os : List OptV) (big : Bool) (cut : Nat) (hcut : cut ≤ 65535) (w : World) (hs : Ops w ad n c os) :
    Calls Try.prog 6 #[.slice ad n c, .bool big, .int .u16 (cut : Int)] w fun e w' => e = .returned (.bool true) ∧ Below w.heap.size w w' := by
  have HB := Lib.hid (Below.refl w.heap.size w)
  have hn := hs.len
  have hle := hs.le
  have HS := Lib.hid hs
  have HN := Lib.hid hn
  have HI : Hid ((Try.prog.info? 33).map (·.size) = some 2) := Lib.hid (by kernel_rfl)
  clear hs hn
  by_cases hf : fewO (vals os) = true
  · obtain ⟨hz, _⟩ := few_size hf
    have HF := Lib.hid hf
    have HZ := Lib.hid hz
    obtain ⟨P, hP⟩ : ∃ P, P = putAll big (vals os) := ⟨_, rfl⟩
    have HP := Lib.hid hP
    have hPl : P.length ≤ 70424 := by rw [hP]; have : (endO (vals os)).length ≤ 4 := (by unfold endO; split <;> simp); unfold putAll; rw [List.length_append, putO_length]; omega
    clear hf hz hP
    by_cases hx : wrongO (vals os) = 0
    · have HX := Lib.hid hx
      have HOK := Lib.hid (wrongO_zero.1 hx)
      clear hx
      by_cases h0 : P.length = 0
      · have HE : Hid (P = []) := Lib.hid (List.eq_nil_of_length_eq_zero h0)
        clear h0 hPl
        go_enter Try.func6, Try.ntmps6
        go_wp2_with (first
          | (go_at_call 9; go_must (refine (optAwake_any _).mono ?_); rintro e w6 ⟨rfl, hb6⟩; have hE__ := cU HB (by repeat (first | exact Below.refl _ _ | refine Below.drew ?_ | refine Below.trans ?_ (below_drewN _ _ _) | refine Below.alloc ?_ (by first | exact Nat.le_refl _ | (simp; done) | (simp; omega)) _)) hb6; (first | replace HB := cK1 HB hE__); clear hE__; clear hb6)
          | (go_at_call 10; go_must (refine (few_any ad n c os _ (HS.out.below HB.out)).mono ?_); intro e w' hr; rw [HF.out] at hr; obtain ⟨rfl, rfl⟩ := hr)
          | (go_at_call 11; go_must (refine (optPut_any ad n c os big _ (HS.out.below HB.out) (by have := HZ.out; omega)).mono ?_); intro e w3 hr3; rw [HX.out, ← HP.out, HE.out] at hr3; obtain ⟨hb3, h3⟩ := hr3; rcases h3 with ⟨h3, _⟩ | ⟨_, ad3, c3, rfl, ho3⟩; exact absurd rfl h3; clear ho3; have hE__ := cU HB (by repeat (first | exact Below.refl _ _ | refine Below.drew ?_ | refine Below.trans ?_ (below_drewN _ _ _) | refine Below.alloc ?_ (by first | exact Nat.le_refl _ | (simp; done) | (simp; omega)) _)) hb3; (first | replace HB := cK1 HB hE__); clear hE__; clear hb3))
        go_ret
        exact ⟨rfl, HB.out⟩
      · obtain ⟨N, hN⟩ : ∃ N, N = P.length := ⟨_, rfl⟩
        rw [← hN] at h0 hPl
        have hNP : 0 < N := by omega
        obtain ⟨m, hmE⟩ : ∃ m, m = cut % N := ⟨_, rfl⟩
        have hm : (cut : Int) % (N : Int) = (m : Int) := by rw [hmE, Int.natCast_emod]
        have hmN : m < N := by rw [hmE]; exact Nat.mod_lt _ hNP
        clear hmE
        have hN0 : ¬ ((N : Int) = 0) := by omega
        have HPN := Lib.hid hN.symm
        obtain ⟨Y, hY⟩ : ∃ Y, Y = readO big (P.take m) := ⟨_, rfl⟩
        have HY := Lib.hid hY.symm
        clear hN hY h0
        go_enter Try.func6, Try.ntmps6
        go_wp2_with (first
          | (go_at_call 9; go_must (refine (optAwake_any _).mono ?_); rintro e w6 ⟨rfl, hb6⟩; have hE__ := cU HB (by repeat (first | exact Below.refl _ _ | refine Below.drew ?_ | refine Below.trans ?_ (below_drewN _ _ _) | refine Below.alloc ?_ (by first | exact Nat.le_refl _ | (simp; done) | (simp; omega)) _)) hb6; (first | replace HB := cK1 HB hE__); clear hE__; clear hb6)
          | (go_at_call 10; go_must (refine (few_any ad n c os _ (HS.out.below HB.out)).mono ?_); intro e w' hr; rw [HF.out] at hr; obtain ⟨rfl, rfl⟩ := hr)
          | (go_at_call 11; go_must (refine (optPut_any ad n c os big _ (HS.out.below HB.out) (by have := HZ.out; omega)).mono ?_); intro e w3 hr3; rw [HX.out, ← HP.out, HPN.out] at hr3; obtain ⟨hb3, h3⟩ := hr3; rcases h3 with ⟨h3, _⟩ | ⟨_, ad3, c3, rfl, ho3⟩; exact absurd rfl h3; have hc3 : N ≤ c3 := (Sl.of_own ho3).2.1; have H3 := Lib.hid (Bs.of_own ho3); have hE__ := cU HB (by repeat (first | exact Below.refl _ _ | refine Below.drew ?_ | refine Below.trans ?_ (below_drewN _ _ _) | refine Below.alloc ?_ (by first | exact Nat.le_refl _ | (simp; done) | (simp; omega)) _)) hb3; (first | replace HB := cK1 HB hE__); clear hE__; clear hb3 ho3)
          | ((with_reducible show wpList _ _ _ (⟨some 44, _, _, _, _, _⟩ :: _) _ _); (try rw [hm]); go_must (refine wpL_slice elB rfl (.tmp 42) none (some (.tmp 43)) rfl rfl 0 m (.inl ⟨rfl, rfl⟩) (.inr ⟨.i64, rfl⟩) (by omega) (by omega) ?_); intro ad4 had4; have H4 := Lib.hid (show Bs w3 ad4 (m - 0) (c3 - 0) (P.take m) by rw [had4.out]; exact Bs.part H3.out 0 m (by omega) (by omega)); simp only [Act.put, List.setIfInBounds_toArray, List.set_cons_zero, List.set_cons_succ])
          | (go_at_call 15; go_must (refine (read_any ad4 (m - 0) (c3 - 0) (P.take m) big _ (H4.out.below (by repeat (first | exact Below.refl _ _ | refine Below.drew ?_ | refine Below.trans ?_ (below_drewN _ _ _) | refine Below.alloc ?_ (by first | exact Nat.le_refl _ | (simp; done) | (simp; omega)) _))) (by omega)).mono ?_); intro e w5 hr; rw [HY.out] at hr; obtain ⟨ad5, n5, c5, os5, rfl, how, hv, hb⟩ := hr; have H5 := Lib.hid how.ops; have HV5 := Lib.hid hv; have hn5 := how.ops.len; have HN5 := Lib.hid hn5; have hE__ := cU HB (by repeat (first | exact Below.refl _ _ | refine Below.drew ?_ | refine Below.trans ?_ (below_drewN _ _ _) | refine Below.alloc ?_ (by first | exact Nat.le_refl _ | (simp; done) | (simp; omega)) _)) hb; (first | replace HB := cK1 HB hE__); clear hE__; have HB5 := Lib.hid (Below.refl w5.heap.size w5); clear hb how hv hn5)
          | ((with_reducible show wpList _ _ _ (⟨none, .store _ _ (.tmp 48), _, _, _, _⟩ :: _) _ _); go_must (refine wpL_storeS (T := 33) (q := (0, 0)) rfl 33 (.tmp 11) (.tmp 48) rfl w5.heap.size Y.2 rfl rfl (heap_alloc_last w5 _) HI.out ?_); intro w6 hg5 hgr5; have hb5 : Below w5.heap.size w5 w6 := ((Below.refl w5.heap.size w5).alloc (Nat.le_refl _) _).grown hgr5 (by simp) (fun k e => by cases e; exact Nat.le_refl _); have HS6 := Lib.hid hg5; have hE__ := cU HB (by repeat (first | exact Below.refl _ _ | refine Below.drew ?_ | refine Below.trans ?_ (below_drewN _ _ _) | refine Below.alloc ?_ (by first | exact Nat.le_refl _ | (simp; done) | (simp; omega)) _)) hb5; (first | replace HB := cK1 HB hE__); (first | replace HB5 := cK1 HB5 hE__ | replace HB5 := cB1 HB5 hE__ | replace HB5 := cO1 HB5 hE__ | replace HB5 := cG1 HB5 hE__ | replace HB5 := cW1 HB5 hE__ | replace HB5 := cV1 HB5 hE__ | replace HB5 := cP1 HB5 hE__); clear hE__; clear hg5 hgr5 hb5; simp only [Act.put, List.setIfInBounds_toArray, List.set_cons_zero, List.set_cons_succ]))
        go_loop [12, 13] (fun at_ i => ∃ (k a : Nat), k ≤ n ∧ a ≤ m ∧ at_ = .int .i64 a ∧ i = .int .i64 k ∧ Hid (a = sizeO ((vals os).take k))) (fun _ i => n - (intOf i).toNat)
        case atStart => exact ⟨0, 0, by omega, by omega, rfl, rfl, Lib.hid rfl⟩
        case round =>
          obtain ⟨k, a, hk, ha, rfl, rfl, HA⟩ := hrel
          by_cases hlt : k < n
          · have hko : k < os.length := by have := HN.out; omega
            have hkv : k < (vals os).length := by rw [vals_length]; exact hko
            obtain ⟨b, off, rfl, hbl, hat⟩ := (HS.out.below HB.out).at (j := k) hko
            obtain ⟨q1, q2, hbs⟩ := hat k hko
            obtain ⟨o, ho⟩ : ∃ o, o = os[k] := ⟨_, rfl⟩
            rw [← ho] at q2 hbs
            have hol := hbs.le
            have hon := hbs.len
            obtain ⟨q, hq⟩ : ∃ q : Nat, ((o.n : Int) + 3) / 4 = (q : Int) := ⟨(o.n + 3) / 4, by omega⟩
            have HNX : Hid (a + 4 + q * 4 = sizeO ((vals os).take (k + 1)) ∧ lenO ((vals os)[k]) = 4 + q * 4) := Lib.hid (by
              have e : lenO ((vals os)[k]) = 4 + q * 4 := by
                rw [vals_get _ _ hko, ← ho]
                unfold lenO OptV.val padN
                simp only
                omega
              rw [sizeO_take _ _ hkv, ← HA.out, e]
              exact ⟨by omega, rfl⟩)
            have hnx1 : a + 4 + q * 4 ≤ 70420 := by rw [HNX.out.1]; exact Nat.le_trans (sizeO_take_le _ _) HZ.out
            have hon1 : o.n ≤ 100000 := by omega
            clear q1 hat hbs ho hon
            by_cases h1 : m = a
            · have HE : Hid (Y = ((vals os).take k, (0, 0))) := Lib.hid (by rw [← HY.out, HP.out, h1, HA.out]; exact cut_at big (vals os) HOK.out k)
              rw [HE.out] at HS6 HV5
              have HT := Lib.hid ((HS.out.below HB.out).take k (by omega))
              clear HE HY HNX hnx1 HA
              subst h1
              go_wp2_with (first
                | ((with_reducible show wpList _ _ _ (⟨some 70, _, _, _, _, _⟩ :: _) _ _); go_must (refine wpL_load rfl 33 (.tmp 11) rfl w5.heap.size 0 rfl (spotC (0, 0)) _ (range_block HS6.out) Try.underlying33 rfl HI.out ?_); simp only [Act.put, List.setIfInBounds_toArray, List.set_cons_zero, List.set_cons_succ])
                | ((with_reducible show wpList _ _ _ (⟨some 72, _, _, _, _, _⟩ :: _) _ _); go_must (refine wpL_eqS (0, 0) (0, 0) true (by simp) rfl (.tmp 70) (.tmp 71) rfl rfl rfl ?_); simp only [Act.put, List.setIfInBounds_toArray, List.set_cons_zero, List.set_cons_succ])
                | ((with_reducible show wpList _ _ _ (⟨some 77, _, _, _, _, _⟩ :: _) _ _); go_must (refine wpL_slice elO rfl (.tmp 75) none (some (.tmp 76)) rfl rfl 0 k (.inl ⟨rfl, rfl⟩) (.inr ⟨.i64, rfl⟩) (by omega) (by omega) ?_); intro ad7 had7; rw [← had7.out] at HT; simp only [Act.put, List.setIfInBounds_toArray, List.set_cons_zero, List.set_cons_succ])
                | (go_at_call 20; go_must (refine (optSame_any ad5 n5 c5 os5 ad7 (k - 0) (c - 0) (os.take k) _ (H5.out.below HB5.out) HT.out).mono ?_); intro e w10 hr; rw [HV5.out, vals_take, show decide ((vals os).take k = (vals os).take k) = true by simp] at hr; obtain ⟨rfl, hb⟩ := hr; have hE__ := cU HB (by repeat (first | exact Below.refl _ _ | refine Below.drew ?_ | refine Below.trans ?_ (below_drewN _ _ _) | refine Below.alloc ?_ (by first | exact Nat.le_refl _ | (simp; done) | (simp; omega)) _)) hb; (first | replace HB := cK1 HB hE__); (first | replace HB5 := cK1 HB5 hE__ | replace HB5 := cB1 HB5 hE__ | replace HB5 := cO1 HB5 hE__ | replace HB5 := cG1 HB5 hE__ | replace HB5 := cW1 HB5 hE__ | replace HB5 := cV1 HB5 hE__ | replace HB5 := cP1 HB5 hE__); clear hE__; clear hb))
              go_ret
              exact ⟨rfl, HB.out⟩
            · by_cases h2 : (m : Int) < (a : Int) + 4 + (q : Int) * 4
              · have HE : Hid (Y = ([], (a, 2))) := Lib.hid (by
                  rw [← HY.out, HP.out, HA.out]
                  exact cut_in big (vals os) HOK.out k hkv m (by rw [← HA.out]; omega) (by rw [← HA.out, HNX.out.2]; omega))
                rw [HE.out] at HS6 HV5
                obtain rfl : n5 = 0 := by have := HN5.out; have h3 := congrArg List.length HV5.out; rw [vals_length] at h3; simpa using this.trans h3
                have h1' : ¬ ((m : Int) = (a : Int)) := by omega
                clear HE HY HNX
                go_wp2_with (first
                  | ((with_reducible show wpList _ _ _ (⟨some 83, _, _, _, _, _⟩ :: _) _ _); go_must (refine wpL_load rfl 33 (.tmp 11) rfl w5.heap.size 0 rfl (spotC (a, 2)) _ (range_block HS6.out) Try.underlying33 rfl HI.out ?_); simp only [Act.put, List.setIfInBounds_toArray, List.set_cons_zero, List.set_cons_succ])
                  | ((with_reducible show wpList _ _ _ (⟨some 86, _, _, _, _, _⟩ :: _) _ _); go_must (refine wpL_eqS (a, 2) (a, 2) true (by simp) rfl (.tmp 83) (.tmp 85) rfl rfl rfl ?_); simp only [Act.put, List.setIfInBounds_toArray, List.set_cons_zero, List.set_cons_succ]))
                go_ret
                exact ⟨rfl, HB.out⟩
              · have h1' : ¬ ((m : Int) = (a : Int)) := by omega
                have HA2 := Lib.hid HNX.out.1
                clear HNX HA
                go_wp2_with fail
                go_round
                case rel => exact ⟨k + 1, a + 4 + q * 4, by omega, by omega, by go_num, by go_num, HA2⟩
                case measure => simp [intOf]; omega
          · have hkn : k = n := by omega
            have HA2 : Hid (a = sizeO (vals os)) := Lib.hid (by rw [HA.out, List.take_of_length_le (by rw [vals_length]; have := HN.out; omega)])
            by_cases h1 : m = a
            · have HE : Hid (Y = (vals os, (0, 0))) := Lib.hid (by
                rw [← HY.out, HP.out, h1, HA2.out]
                have := cut_at big (vals os) HOK.out (vals os).length
                rwa [List.take_length] at this)
              rw [HE.out] at HS6 HV5
              clear HE HY HA HA2
              subst h1
              go_wp2_with (first
                | ((with_reducible show wpList _ _ _ (⟨some 96, _, _, _, _, _⟩ :: _) _ _); go_must (refine wpL_load rfl 33 (.tmp 11) rfl w5.heap.size 0 rfl (spotC (0, 0)) _ (range_block HS6.out) Try.underlying33 rfl HI.out ?_); simp only [Act.put, List.setIfInBounds_toArray, List.set_cons_zero, List.set_cons_succ])
                | ((with_reducible show wpList _ _ _ (⟨some 98, _, _, _, _, _⟩ :: _) _ _); go_must (refine wpL_eqS (0, 0) (0, 0) true (by simp) rfl (.tmp 96) (.tmp 97) rfl rfl rfl ?_); simp only [Act.put, List.setIfInBounds_toArray, List.set_cons_zero, List.set_cons_succ])
                | (go_at_call 20; go_must (refine (optSame_any ad5 n5 c5 os5 ad n c os _ (H5.out.below HB5.out) (HS.out.below HB.out)).mono ?_); intro e w10 hr; rw [HV5.out, show decide (vals os = vals os) = true by simp] at hr; obtain ⟨rfl, hb⟩ := hr; have hE__ := cU HB (by repeat (first | exact Below.refl _ _ | refine Below.drew ?_ | refine Below.trans ?_ (below_drewN _ _ _) | refine Below.alloc ?_ (by first | exact Nat.le_refl _ | (simp; done) | (simp; omega)) _)) hb; (first | replace HB := cK1 HB hE__); (first | replace HB5 := cK1 HB5 hE__ | replace HB5 := cB1 HB5 hE__ | replace HB5 := cO1 HB5 hE__ | replace HB5 := cG1 HB5 hE__ | replace HB5 := cW1 HB5 hE__ | replace HB5 := cV1 HB5 hE__ | replace HB5 := cP1 HB5 hE__); clear hE__; clear hb))
              go_ret
              exact ⟨rfl, HB.out⟩
            · have HE : Hid (Y = ([], (a, 2))) := Lib.hid (by
                rw [← HY.out, HP.out, HA2.out]
                exact cut_end big (vals os) HOK.out m (by rw [← HA2.out]; omega) (by rw [← HP.out, HPN.out]; omega))
              rw [HE.out] at HS6 HV5
              have h1' : ¬ ((m : Int) = (a : Int)) := by omega
              clear HE HY HA HA2
              go_wp2_with (first
                | ((with_reducible show wpList _ _ _ (⟨some 104, _, _, _, _, _⟩ :: _) _ _); go_must (refine wpL_load rfl 33 (.tmp 11) rfl w5.heap.size 0 rfl (spotC (a, 2)) _ (range_block HS6.out) Try.underlying33 rfl HI.out ?_); simp only [Act.put, List.setIfInBounds_toArray, List.set_cons_zero, List.set_cons_succ])
                | ((with_reducible show wpList _ _ _ (⟨some 107, _, _, _, _, _⟩ :: _) _ _); go_must (refine wpL_eqS (a, 2) (a, 2) true (by simp) rfl (.tmp 104) (.tmp 106) rfl rfl rfl ?_); simp only [Act.put, List.setIfInBounds_toArray, List.set_cons_zero, List.set_cons_succ]))
              go_ret
              exact ⟨rfl, HB.out⟩
    · have HW : Hid (wrongO (vals os) ≠ 0) := Lib.hid hx
      obtain ⟨X, hX⟩ : ∃ X, X = wrongO (vals os) := ⟨_, rfl⟩
      rw [← hX] at hx HW
      have HX := Lib.hid hX
      clear hX
      go_enter Try.func6, Try.ntmps6
      go_wp2_with (first
        | (go_at_call 9; go_must (refine (optAwake_any _).mono ?_); rintro e w6 ⟨rfl, hb6⟩; have hE__ := cU HB (by repeat (first | exact Below.refl _ _ | refine Below.drew ?_ | refine Below.trans ?_ (below_drewN _ _ _) | refine Below.alloc ?_ (by first | exact Nat.le_refl _ | (simp; done) | (simp; omega)) _)) hb6; (first | replace HB := cK1 HB hE__); clear hE__; clear hb6)
        | (go_at_call 10; go_must (refine (few_any ad n c os _ (HS.out.below HB.out)).mono ?_); intro e w' hr; rw [HF.out] at hr; obtain ⟨rfl, rfl⟩ := hr)
        | (go_at_call 11; go_must (refine (optPut_any ad n c os big _ (HS.out.below HB.out) (by have := HZ.out; omega)).mono ?_); intro e w3 hr3; rw [← HX.out] at hr3; obtain ⟨hb3, h3⟩ := hr3; rcases h3 with ⟨_, rfl⟩ | ⟨h3, _⟩; rotate_left; exact absurd h3 HW.out; have hE__ := cU HB (by repeat (first | exact Below.refl _ _ | refine Below.drew ?_ | refine Below.trans ?_ (below_drewN _ _ _) | refine Below.alloc ?_ (by first | exact Nat.le_refl _ | (simp; done) | (simp; omega)) _)) hb3; (first | replace HB := cK1 HB hE__); clear hE__; clear hb3))
      go_ret
      exact ⟨rfl, HB.out⟩
  · have HF : Hid (fewO (vals os) = false) := Lib.hid (by simpa using hf)
    clear hf
    go_enter Try.func6, Try.ntmps6
    go_wp2_with (first
      | (go_at_call 9; go_must (refine (optAwake_any _).mono ?_); rintro e w6 ⟨rfl, hb6⟩; have hE__ := cU HB (by repeat (first | exact Below.refl _ _ | refine Below.drew ?_ | refine Below.trans ?_ (below_drewN _ _ _) | refine Below.alloc ?_ (by first | exact Nat.le_refl _ | (simp; done) | (simp; omega)) _)) hb6; (first | replace HB := cK1 HB hE__); clear hE__; clear hb6)
      | (go_at_call 10; go_must (refine (few_any ad n c os _ (HS.out.below HB.out)).mono ?_); intro e w' hr; rw [HF.out] at hr; obtain ⟨rfl, rfl⟩ := hr))
    go_ret
    exact ⟨rfl, HB.out⟩
end Go.Proofs.Ytmigbcoobbcahaa
