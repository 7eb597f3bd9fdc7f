/-
  Joined by program (merge.py): Rf1, Rf2.
-/
import Derived.Test.YtgpdlhbndoeldaaC7
/-
  Chapter 21: the document's table: Find, cut, Drop: walked (written by gen/flrf.py).
-/
namespace Go.Proofs.Ytgpdlhbndoeldaa
open Go.RowKit Go.Sort
set_option linter.unusedVariables false
set_option linter.unusedSimpArgs false
set_option maxRecDepth 100000
set_option maxHeartbeats 16000000

/-- the document's table at r -/
def RT (w : World) (r lo room : Nat) (ls : List FloW) : Prop :=
  ∃ ad c, w.heap[r]? = some (.cells #[.int .i64 (room : Int), .slice ad ls.length c] 59 (0, 0)) ∧ Fls w ad ls.length c ls ∧ (∀ x, ad = some x → x.block ≠ r ∧ lo ≤ x.block) ∧ ls.length ≤ 8192 ∧ lo ≤ w.heap.size
theorem RT.keep {w w' : World} {r lo room : Nat} {ls : List FloW} (h : RT w r lo room ls) (hb : Below w.heap.size w w') : RT w' r lo room ls := by
  obtain ⟨ad, c, h1, h2, h3, h4, h5⟩ := h
  exact ⟨ad, c, (hb.block _ (lt_of_block h1)).trans h1, h2.below hb, h3, h4, Nat.le_trans h5 hb.size⟩
instance {w w' : World} {r lo room : Nat} {ls : List FloW} : Ck (RT w r lo room ls) w' w (RT w' r lo room ls) := ⟨fun h hE => h.keep hE⟩
theorem RT.lt {w : World} {r lo room : Nat} {ls : List FloW} (h : RT w r lo room ls) : r < w.heap.size := by
  obtain ⟨ad, c, h1, _⟩ := h
  exact lt_of_block h1
theorem hatV {v a w' : World} {k : Nat} {o : Obj} (hE : Hid (Below v.heap.size v a)) (h : Hid (v.heap[k]? = some o)) (hu : Below a.heap.size a w') : w'.heap[k]? = some o :=
  ((hE.out.trans (hu.mono hE.out.size)).block k (lt_of_block h.out)).trans h.out
theorem cellV {w : World} {g k : Nat} {cs : Array Value} {T : TypeId} {fz : Nat × Nat} {v : Value} (h : w.heap[g]? = some (.cells cs T fz)) (hk : cs[k]? = some v) : w.cell? ⟨g, k, none⟩ = some v := by
  unfold World.cell?
  rw [h]
  exact hk
theorem RT.of_own {w w' : World} {r lo room base : Nat} {ad : Option Addr} {n c : Nat} {ls : List FloW} (h1 : w'.heap[r]? = some (.cells #[.int .i64 (room : Int), .slice ad n c] 59 (0, 0))) (hn : n = ls.length) (hb : r < base) (ho : w.ownsRow base 28 41 (.slice ad n c) n (flosC ls)) (hg : w.grownBy w' (some r)) (hl : ls.length ≤ 8192) (hlo : lo ≤ base) (hbw : base ≤ w.heap.size) : RT w' r lo room ls := by
  subst hn
  have ho2 := own_but ho (But.of_p (q := r) hg) hb hb
  exact ⟨ad, c, h1, Fls.of_own ho2, fun x hx => by have := (own_block ho2 x hx).1; omega, hl, Nat.le_trans hlo (Nat.le_trans hbw hg.size)⟩
def FindR (ls : List FloW) (y : FloW) (e : Ending) : Prop :=
  ∃ i : Int, e = .returned (.int .i64 i) ∧ ((i = -1 ∧ ∀ x ∈ ls, x.v.key ≠ y.v.key) ∨ ∃ k : Nat, i = k ∧ ∃ h : k < ls.length, ls[k].v.key = y.v.key)
theorem takeF_snoc {ls : List FloW} {k : Nat} (hk : k < ls.length) : ls.take (k + 1) = ls.take k ++ [ls[k]] := List.take_succ_eq_append_getElem hk
theorem cutF_snoc (l : List FloW) (x : FloW) (i : Nat) : (l ++ [x]).eraseIdx i = if i < l.length then l.eraseIdx i ++ [x] else if i = l.length then l else l ++ [x] := by
  split
  · rename_i h; rw [List.eraseIdx_append_of_lt_length h]
  · rename_i h
    rw [List.eraseIdx_append_of_length_le (by omega)]
    split
    · rename_i h2; subst h2; simp
    · rename_i h2
      rw [List.eraseIdx_of_length_le (by simp; omega)]
theorem rfind_any (r lo room : Nat) (ls : List FloW) (y : FloW) (w : World) (h : RT w r lo room ls) :
    Calls Try.prog 30 #[.pointer (some ⟨r, 0, none⟩), .agg y.v.key.cells.toArray] w fun e w' => FindR ls y e ∧ Below w.heap.size w w' := by
  obtain ⟨ad, c, h1, h2, h3, h4, hlo⟩ := h
  have lr := lt_of_block h1
  have HF := Lib.hid h2
  have hle := h2.le
  obtain ⟨n, hn⟩ : ∃ n, n = ls.length := ⟨_, rfl⟩
  have HN := Lib.hid hn
  have hn8 : n ≤ 8192 := by omega
  rw [← hn] at h1 h2 hle HF
  have HG := Lib.hid h1
  have HB := Lib.hid (Below.refl w.heap.size w)
  clear h1 h2 h3 h4 hn
  go_enter Try.func30, Try.ntmps30
  go_wp2_with (first
    | ((with_reducible refine sl 3 ?_); go_must (refine wpL_boxG rfl 26 (.tmp 1) rfl y.v.key.cells.toArray rfl ?_); intro wb3 g3 he__ le_3 lt_3 hg__ hb__; have hE__ := cU HB bup hb__; replace HB := ck HB hE__; clear hE__ hb__; have HG3 := Lib.hid hg__; clear hg__ he__; simp only [PT]))
  have lt3 := lt_of_block HG3.out
  go_loopw [5] (fun i wr => ∃ k : Nat, k ≤ n ∧ i = .int .i64 (k : Int) ∧ Hid (∀ x ∈ ls.take k, x.v.key ≠ y.v.key) ∧ Hid (Below w.heap.size w wr) ∧ Hid (wr.heap[g3]? = some (.cells y.v.key.cells.toArray 26 (0, 0)))) (fun i _ => n - (intOf i).toNat)
  case atStart => exact ⟨0, by omega, rfl, Lib.hid (by simp), HB, HG3⟩
  case round =>
    clear HB HG3
    obtain ⟨k, hk, rfl, HA, HB, HG3⟩ := hrel
    by_cases hend : k = n
    · subst k
      go_wp2_with (first
        | ((with_reducible refine sl 10 ?_); go_must (refine wpL_loadF rfl 38 (.tmp 9) rfl r 1 rfl (.slice ad n c) (hatV HB HG bup) rfl Try.underlying38 rfl ?_); simp only [PT]))
      go_ret
      exact ⟨⟨_, rfl, .inl ⟨rfl, fun x hx => HA.out x (by rw [HN.out, List.take_length]; exact hx)⟩⟩, HB.out⟩
    have hlt : k < n := by omega
    have hkL : k < ls.length := by rw [← HN.out]; exact hlt
    obtain ⟨b, off, rfl, hbl, hat⟩ := HF.out.at (by omega)
    obtain ⟨x, hx⟩ : ∃ x, x = ls[k] := ⟨_, rfl⟩
    have HX := Lib.hid hx
    have HR := Lib.hid (show w.rangeAt b (off + k * 41) x.v.key.cells from range_key (by rw [hx]; exact hat k hkL))
    clear hat hx
    go_wp2_with (first
      | ((with_reducible refine sl 10 ?_); go_must (refine wpL_loadF rfl 38 (.tmp 9) rfl r 1 rfl (.slice (some ⟨b, off, none⟩) n c) (hatV HB HG bup) rfl Try.underlying38 rfl ?_); simp only [PT]))
    obtain ⟨d, hd⟩ : ∃ d : Bool, d = decide (x.v.key = y.v.key) := ⟨_, rfl⟩
    have HD : Hid (d = true ↔ x.v.key = y.v.key) := Lib.hid (by rw [hd, decide_eq_true_iff])
    clear hd
    refine wp_region_held_drew (S := fun u__ => u__.cell? ⟨r, 1, none⟩ = some (.slice (some ⟨b, off, none⟩) n c) ∧ u__.rangeAt b (off + k * 41) x.v.key.cells ∧ u__.rangeAt g3 0 y.v.key.cells) (by kernel_rfl) ?_ (fun hHeld => ?_)
    focus (exact ⟨cellV (hatV HB HG bup) rfl, range_keep HR.out (HB.out.trans (Below.mono bup HB.out.size)), range_block (hatB HG3 bup)⟩)
    refine tk 0 (oi := ⟨some 15, _, _, _, _, _⟩) (v := ?_) rfl (by kernel_rfl) (.inl ⟨by rfl, ?_⟩) hHeld ?_; rotate_left; focus (intro w hSw; (try dsimp only at hSw); go_simp; try with_reducible rfl)
    simp only [PT]
    refine tk 1 (oi := ⟨some 16, _, _, _, _, _⟩) (v := ?_) rfl (by kernel_rfl) (.inl ⟨by rfl, ?_⟩) hHeld ?_; rotate_left; focus (intro w hSw; (try dsimp only at hSw); go_simp; try with_reducible rfl)
    simp only [PT]
    refine tk 2 (oi := ⟨some 17, _, _, _, _, _⟩) (v := ?_) rfl (by kernel_rfl) (.inl ⟨by rfl, ?_⟩) hHeld ?_; rotate_left; focus (intro w hSw; (try dsimp only at hSw); go_simp; try with_reducible rfl)
    simp only [PT]
    refine tk 3 (oi := ⟨some 18, _, _, _, _, _⟩) (v := ?_) rfl (by kernel_rfl) (.inl ⟨by rfl, ?_⟩) hHeld ?_; rotate_left; focus (intro w hSw; (try dsimp only at hSw); go_simp; try with_reducible rfl)
    simp only [PT]
    refine tk 4 (oi := ⟨some 19, _, _, _, _, _⟩) (v := ?_) rfl (by kernel_rfl) (.inl ⟨by rfl, ?_⟩) hHeld ?_; rotate_left; focus (intro w hSw; (try dsimp only at hSw); go_simp; try with_reducible rfl)
    simp only [PT]
    refine tk 5 (oi := ⟨some 20, _, _, _, _, _⟩) (v := ?_) rfl (by kernel_rfl) (.inl ⟨by rfl, ?_⟩) hHeld ?_; rotate_left; focus (intro w hSw; (try dsimp only at hSw); go_simp; try with_reducible rfl)
    simp only [PT]
    refine tk 6 (oi := ⟨some 21, _, _, _, _, _⟩) (v := ?_) rfl (by kernel_rfl) (.inl ⟨by rfl, ?_⟩) hHeld ?_; rotate_left; focus (intro w hSw; (try dsimp only at hSw); go_simp; try with_reducible rfl)
    simp only [PT]
    refine' tk 7 (oi := ⟨some 22, _, _, _, _, _⟩) (v := _) rfl (by kernel_rfl) (yieldsIf_load_mid (by rfl) _ _ rfl _ _ rfl (x.v.key.cells) _ (fun _ h => h.2.1) (Try.underlying26) rfl (tup_len x)) hHeld ?_
    simp only [PT]
    refine' tk 8 (oi := ⟨some 23, _, _, _, _, _⟩) (v := _) rfl (by kernel_rfl) (yieldsIf_load_mid (by rfl) _ _ rfl _ _ rfl (y.v.key.cells) _ (fun _ h => h.2.2) (Try.underlying26) rfl (tup_len y)) hHeld ?_
    simp only [PT]
    refine' tk 9 (oi := ⟨some 24, _, _, _, _, _⟩) (v := _) rfl (by kernel_rfl) (yields_eqT x y d HD.out (by rfl) (.tmp 22) (.tmp 23) rfl rfl rfl) hHeld ?_
    simp only [PT]
    refine wpAnyH_done (by kernel_rfl) ?_ _
    all_goals
      cases d with
      | true =>
        have HDE := Lib.hid (HD.out.1 rfl)
        clear HD
        go_wp2_with fail
        go_ret
        exact ⟨⟨_, rfl, .inr ⟨k, rfl, hkL, by rw [← HX.out]; exact HDE.out⟩⟩, HB.out.trans (Below.mono bup HB.out.size)⟩
      | false =>
        go_wp2_with fail
        go_roundw
        case rel => exact ⟨k + 1, by omega, by go_num, Lib.hid (by
          intro z hz
          rw [takeF_snoc hkL, List.mem_append, List.mem_singleton] at hz
          rcases hz with h | h
          · exact HA.out z h
          · rw [h, ← HX.out]
            intro e
            have := HD.out.2 e
            cases this), Lib.hid (HB.out.trans (Below.mono bup HB.out.size)), Lib.hid (hatB HG3 bup)⟩
        case measure => first | (simp [intOf]; done) | (simp [intOf]; omega)
theorem rcut_any (r lo room : Nat) (ls : List FloW) (i : Nat) (hi : i < ls.length) (w : World) (h : RT w r lo room ls) :
    Calls Try.prog 43 #[.pointer (some ⟨r, 0, none⟩), .int .i64 (i : Int)] w fun e w' => e = .returned (.tuple #[]) ∧ RT w' r lo room (ls.eraseIdx i) ∧ But r r w w' := by
  have HI := Lib.hid hi
  obtain ⟨ad, c, h1, h2, h3, h4, hlo⟩ := h
  have lr := lt_of_block h1
  have HF := Lib.hid h2
  have hle := h2.le
  obtain ⟨n, hn⟩ : ∃ n, n = ls.length := ⟨_, rfl⟩
  have HN := Lib.hid hn
  have hn8 : n ≤ 8192 := by omega
  rw [← hn] at h1 h2 hle HF
  have HG := Lib.hid h1
  have HB := Lib.hid (Below.refl w.heap.size w)
  clear h1 h2 h3 h4 hn
  go_enter Try.func43, Try.ntmps43
  go_wp2_with fail
  have hi' : i < n := by rw [HN.out]; exact HI.out
  go_loopw [4, 5] (fun o i' wr => ∃ (k N2 : Nat) (L : List FloW) (ad2 : Option Addr) (c2 : Nat), k ≤ n ∧ N2 ≤ k ∧ o = .slice ad2 N2 c2 ∧ i' = .int .i64 (k : Int) ∧ Hid (N2 = L.length) ∧ Hid (L = (ls.take k).eraseIdx i) ∧ Hid (wr.ownsRow w.heap.size 28 41 (.slice ad2 N2 c2) N2 (flosC L)) ∧ Hid (Below w.heap.size w wr)) (fun _ i' _ => n - (intOf i').toNat)
  case atStart => exact ⟨0, 0, [], none, 0, by omega, by omega, rfl, rfl, Lib.hid rfl, Lib.hid (by simp), Lib.hid (World.ownsRow_nil _ _ _ _), HB⟩
  case round =>
    clear HB
    obtain ⟨k, N2, L, ad2, c2, hk, hN2, rfl, rfl, HN2, HLL, HO, HB⟩ := hrel
    by_cases hend : k = n
    · subst k
      go_wp2_with (first
        | ((with_reducible refine sl 10 ?_); go_must (refine wpL_loadF rfl 38 (.tmp 9) rfl r 1 rfl (.slice ad n c) (hatV HB HG bup) rfl Try.underlying38 rfl ?_); simp only [PT])
        | ((with_reducible show wpList _ _ _ (⟨none, .store _ (.tmp 31) (.tmp 29), _, _, _, _⟩ :: _) _ _); go_must (refine wpL_storeF rfl 38 (.tmp 31) (.tmp 29) rfl r 1 (.slice ad2 N2 c2) rfl rfl rfl (hatV HB HG bup) (show (1 : Nat) < 2 by decide) (by kernel_rfl) #[.int .i64 (room : Int), .slice ad2 N2 c2] rfl ?_); intro ws hs__ hr__; have HRS := Lib.hid hs__; have HRG := Lib.hid hr__; clear hs__ hr__; simp only [PT]))
      go_end0
      have hLL := HLL.out
      rw [HN.out, List.take_length] at hLL
      rw [← hLL]
      exact ⟨rfl, RT.of_own HRS.out HN2.out lr (own_keep HO.out bup) HRG.out (by rw [← HN2.out]; omega) hlo (Below.size (HB.out.trans (Below.mono bup HB.out.size))), (But.of_below HB.out).trans (But.of_p HRG.out)⟩
    have hlt : k < n := by omega
    have hkL : k < ls.length := by rw [← HN.out]; exact hlt
    obtain ⟨b, off, rfl, hbl, hat⟩ := HF.out.at (by omega)
    obtain ⟨x, hx⟩ : ∃ x, x = ls[k] := ⟨_, rfl⟩
    have HR := Lib.hid (show w.rangeAt b (off + k * 41) x.v.cells by rw [hx]; exact hat k hkL)
    have HTK : Hid ((ls.take (k + 1)).eraseIdx i = if i < k then (ls.take k).eraseIdx i ++ [x] else if i = k then ls.take k else ls.take k ++ [x]) := Lib.hid (by rw [takeF_snoc hkL, cutF_snoc, hx, List.length_take, Nat.min_eq_left (by omega)])
    clear hat hx
    by_cases hik : k = i
    · have HE0 : Hid ((ls.take (k + 1)).eraseIdx i = L) := Lib.hid (by rw [HTK.out, if_neg (by omega), if_pos hik.symm, HLL.out, List.eraseIdx_of_length_le (by rw [List.length_take]; omega)])
      go_wp2_with (first
        | ((with_reducible refine sl 10 ?_); go_must (refine wpL_loadF rfl 38 (.tmp 9) rfl r 1 rfl (.slice (some ⟨b, off, none⟩) n c) (hatV HB HG bup) rfl Try.underlying38 rfl ?_); simp only [PT]))
      go_roundw
      case rel => exact ⟨k + 1, N2, L, ad2, c2, by omega, by omega, rfl, by go_num, HN2, Lib.hid HE0.out.symm, Lib.hid (own_keep HO.out bup), Lib.hid (HB.out.trans (Below.mono bup HB.out.size))⟩
      case measure => first | (simp [intOf]; done) | (simp [intOf]; omega)
    · have HE0 : Hid ((ls.take (k + 1)).eraseIdx i = L ++ [x]) := Lib.hid (by
        rw [HTK.out, HLL.out]
        by_cases h : i < k
        · rw [if_pos h]
        · rw [if_neg h, if_neg (fun e => hik e.symm), List.eraseIdx_of_length_le (by rw [List.length_take]; omega)])
      go_wp2_with (first
        | ((with_reducible refine sl 10 ?_); go_must (refine wpL_loadF rfl 38 (.tmp 9) rfl r 1 rfl (.slice (some ⟨b, off, none⟩) n c) (hatV HB HG bup) rfl Try.underlying38 rfl ?_); simp only [PT])
        | ((with_reducible refine sl 22 ?_); go_must (refine wpL_loadF rfl 38 (.tmp 21) rfl r 1 rfl (.slice (some ⟨b, off, none⟩) n c) (hatV HB HG bup) rfl Try.underlying38 rfl ?_); simp only [PT])
        | ((with_reducible refine sl 25 ?_); go_must (refine wpL_load rfl 28 (.tmp 24) rfl b (off + k * 41) rfl x.v.cells _ (range_keep HR.out (HB.out.trans (Below.mono bup HB.out.size))) Try.underlying28 rfl (one_size x) ?_); simp only [PT])
        | ((with_reducible refine sl 26 ?_); go_must (refine wpL_lit1 rfl 38 28 (.tmp 25) rfl x.v.cells.toArray _ rfl 41 Try.underlying38 flo_info (by omega) (by omega) (fill_flow x) ?_); intro wl26 gL le_gL lt_gL hg__ hb__; have hE__ := cU HB bup hb__; replace HB := ck HB hE__; (try replace HO := ck HO hE__); clear hE__ hb__; have HL := Lib.hid hg__; clear hg__; simp only [PT])
        | ((with_reducible refine sl 27 ?_); go_must (refine wpL_append elFl rfl (.tmp 18) (.tmp 26) rfl w.heap.size rfl (own_keep HO.out bup) rfl (by have h := sl_block (cs := x.v.cells) HL.out; rw [FloW.length] at h; exact Sl.below h bup) Flo.one (by unfold maxLen; omega) (by omega) (Nat.le_trans HB.out.size (bsz bup)) ?_); intro ad3 c3 wa hown__ hgr__ _ _; rw [← flosC_snoc] at hown__; replace HB := cEa HB bup hgr__ (ownBlock_ge HO.out); clear HO; have HO := Lib.hid hown__; clear hown__ hgr__ HL; simp only [PT]))
      go_roundw
      case rel => exact ⟨k + 1, N2 + 1, L ++ [x], ad3, c3, by omega, by omega, rfl, by go_num, Lib.hid (by rw [List.length_append, ← HN2.out]; rfl), Lib.hid HE0.out.symm, HO, HB⟩
      case measure => first | (simp [intOf]; done) | (simp [intOf]; omega)
/-- what is not of a key -/
def noK (ls : List FloW) (k : Tup) : List FloW := ls.filter (fun x => decide (x.v.key ≠ k))
def OneK (ls : List FloW) : Prop := ls.Pairwise (fun x y => x.v.key ≠ y.v.key)
theorem cut_noK : ∀ {ls : List FloW} (h : OneK ls) {k : Nat} (hk : k < ls.length), ls.eraseIdx k = noK ls ls[k].v.key
  | [], _, k, hk => by simp at hk
  | a :: l, h, k, hk => by
    unfold OneK at h
    rw [List.pairwise_cons] at h
    cases k with
    | zero =>
      simp only [List.eraseIdx_cons_zero, List.getElem_cons_zero, noK, List.filter_cons, ne_eq, not_true, decide_false, Bool.false_eq_true, if_false]
      exact (List.filter_eq_self.2 (fun x hx => by simpa using fun e => h.1 x hx e.symm)).symm
    | succ k =>
      have hk' : k < l.length := by simpa using hk
      have ih := cut_noK (ls := l) h.2 hk'
      simp only [List.eraseIdx_cons_succ, List.getElem_cons_succ, ih, noK, List.filter_cons]
      rw [if_pos (by simpa using h.1 _ (List.getElem_mem hk'))]
theorem noK_none {ls : List FloW} {k : Tup} (h : ∀ x ∈ ls, x.v.key ≠ k) : noK ls k = ls := List.filter_eq_self.2 (fun x hx => by simpa using h x hx)
theorem rdrop_any (r lo room : Nat) (ls : List FloW) (y : FloW) (hone : OneK ls) (w : World) (h : RT w r lo room ls) :
    Calls Try.prog 27 #[.pointer (some ⟨r, 0, none⟩), .agg y.v.key.cells.toArray] w fun e w' => ∃ t : Bool, e = .returned (.bool t) ∧ RT w' r lo room (noK ls y.v.key) ∧ But r r w w' ∧ (t = true ↔ ∃ x ∈ ls, x.v.key = y.v.key) := by
  have HR := Lib.hid h
  have HK := Lib.hid hone
  have lr := h.lt
  have hl8 : ls.length ≤ 8192 := by obtain ⟨_, _, _, _, _, h4, _⟩ := h; exact h4
  have HB := Lib.hid (Below.refl w.heap.size w)
  clear h hone
  go_enter Try.func27, Try.ntmps27
  go_wp2_with (first
    | ((with_reducible refine sl 3 ?_); go_must (refine wpL_boxG rfl 26 (.tmp 1) rfl y.v.key.cells.toArray rfl ?_); intro wb3 g3 he__ le_3 lt_3 hg__ hb__; have hE__ := cU HB bup hb__; replace HB := ck HB hE__; (try replace HR := ck HR hE__); clear hE__ hb__; have HG3 := Lib.hid hg__; clear hg__ he__; simp only [PT])
    | ((with_reducible refine sl 7 ?_); go_must (refine wpL_load rfl 26 (.tmp 3) rfl g3 0 rfl y.v.key.cells _ (range_block HG3.out) Try.underlying26 rfl (tup_len y) ?_); simp only [PT])
    | (go_at_call 30; go_must (refine (rfind_any r lo room ls y _ (HR.out.keep bup)).mono ?_); rintro e w5 ⟨⟨i, rfl, hi⟩, hb__⟩; have hE__ := cU HB bup hb__; replace HB := ck HB hE__; (try replace HR := ck HR hE__); clear hE__ hb__; have HI := Lib.hid hi; rcases hi with ⟨rfl, _⟩ | ⟨k, rfl, hk, _⟩)
    | (go_at_call 43; go_must (refine (rcut_any r lo room ls k hk _ (HR.out.keep bup)).mono ?_); rintro e w6 ⟨rfl, hr, hb⟩; have HRn := Lib.hid hr; have HBn := Lib.hid hb; clear hr hb))
  · go_ret
    have hno : ∀ x ∈ ls, x.v.key ≠ y.v.key := by
      rcases HI.out with ⟨_, h⟩ | ⟨k, h, _⟩
      · exact h
      · omega
    exact ⟨false, rfl, by rw [noK_none hno]; exact HR.out, But.of_below HB.out, by simp; exact hno⟩
  · go_ret
    have hkey : ls[k].v.key = y.v.key := by
      rcases HI.out with ⟨h, _⟩ | ⟨k', h, h2, h3⟩
      · omega
      · have : k' = k := by omega
        subst this
        exact h3
    exact ⟨true, rfl, by rw [← hkey, ← cut_noK HK.out hk]; exact HRn.out, (But.of_below HB.out).trans HBn.out, by simp; exact ⟨_, List.getElem_mem hk, hkey⟩⟩
end Go.Proofs.Ytgpdlhbndoeldaa
/-
  Chapter 21: the document's table: Sweep: walked (written by gen/flrf.py).
-/
namespace Go.Proofs.Ytgpdlhbndoeldaa
open Go.RowKit Go.Sort
set_option linter.unusedVariables false
set_option linter.unusedSimpArgs false
set_option maxRecDepth 100000
set_option maxHeartbeats 16000000

/-- a row over a write to another one -/
theorem own_apart {w w' : World} {b1 : Nat} {e1 : TypeId} {s1 : Nat} {ad1 ad2 : Option Addr} {n1 n2 c1 c2 : Nat} {xs : List Value} (h : w.ownsRow b1 e1 s1 (.slice ad1 n1 c1) n1 xs) (hg : w.grownBy w' (Value.ownBlock (.slice ad2 n2 c2))) (ha : ∀ x y, ad1 = some x → ad2 = some y → x.block ≠ y.block) : w'.ownsRow b1 e1 s1 (.slice ad1 n1 c1) n1 xs := by
  rcases h.2 with h2 | ⟨g, cap, cur, hv, hb2, hgg, hr⟩
  · exact ⟨h.1, .inl h2⟩
  · refine ⟨h.1, .inr ⟨g, cap, cur, hv, hb2, (hg.block g (lt_of_block hgg) (fun e => ?_)).trans hgg, hr⟩⟩
    simp only [Value.slice.injEq] at hv
    cases ad2 with
    | none => cases e
    | some y =>
      simp only [Value.ownBlock, Option.some.injEq] at e
      exact ha _ y hv.1 rfl e.symm.symm
theorem apart_app {w : World} {b2 : Nat} {e2 : TypeId} {s2 : Nat} {ad ad' ad2 : Option Addr} {n2 c2 : Nat} {xs : List Value} (h : w.ownsRow b2 e2 s2 (.slice ad2 n2 c2) n2 xs) (ha : ∀ x y, ad = some x → ad2 = some y → x.block ≠ y.block) (hor : ad' = ad ∨ ad' = some ⟨w.heap.size, 0, none⟩) : ∀ x y, ad' = some x → ad2 = some y → x.block ≠ y.block := by
  intro x y hx hy
  rcases hor with h1 | h1
  · exact ha x y (h1 ▸ hx) hy
  · rw [h1] at hx
    cases hx
    have := (own_block h y hy).2
    exact Nat.ne_of_gt this
def stF (now : Int) (idle : List Int) (l : List FloW) : List FloW := l.filter (fun x => !staleW now idle x)
theorem stF_snoc (now : Int) (idle : List Int) (l : List FloW) (x : FloW) : stF now idle (l ++ [x]) = stF now idle l ++ if staleW now idle x = true then [] else [x] := by
  unfold stF
  rw [List.filter_append]
  congr 1
  rcases two (staleW now idle x) with h | h <;> simp [h]
theorem stF_len (now : Int) (idle : List Int) (l : List FloW) : (stF now idle l).length ≤ l.length := List.length_filter_le _ _
theorem flo_st {w : World} {b o : Nat} {x : FloW} (h : w.rangeAt b o x.v.cells) : w.cell? ⟨b, o + 38, none⟩ = some (.int .i64 x.v.state) := h 38 _ (Flo.get x.ok).2.2.1
theorem flo_se {w : World} {b o : Nat} {x : FloW} (h : w.rangeAt b o x.v.cells) : w.cell? ⟨b, o + 39, none⟩ = some (.int .i64 x.v.seen) := h 39 _ (Flo.get x.ok).2.2.2.1
theorem own_g5 {w : World} {base g : Nat} {e T : TypeId} {size : Nat} {ad : Option Addr} {n c : Nat} {xs : List Value} {cs : Array Value} (h : w.ownsRow base e size (.slice ad n c) n xs) (hk : (Value.slice ad n c).ownBlock = some g) (hg : w.heap[g]? = some (.cells cs T (0, 0))) (hT : e ≠ T) : False := by
  rcases h.2 with ⟨hv, h0⟩ | ⟨g', cap, cur, hv, hb2, hgg, hr⟩
  · cases hv; cases hk
  · simp only [Value.slice.injEq] at hv
    rw [hv.1] at hk
    simp only [Value.ownBlock, Option.some.injEq] at hk
    subst hk
    rw [hg] at hgg
    simp only [Option.some.injEq, Obj.cells.injEq] at hgg
    exact hT hgg.2.1.symm
theorem rsweep_any (r lo room : Nat) (ls : List FloW) (now : Int) (idle : List Int) (h6 : idle.length = 6) (w : World) (h : RT w r lo room ls) :
    Calls Try.prog 29 #[.pointer (some ⟨r, 0, none⟩), .int .i64 now, .agg (idle.map (Value.int .i64)).toArray] w fun e w' => ∃ ad c, ∃ out : List FloW, e = .returned (.slice ad out.length c) ∧ out = outF now idle ls ∧ w'.ownsRow w.heap.size 28 41 (.slice ad out.length c) out.length (flosC out) ∧ RT w' r lo room (stF now idle ls) ∧ But r r w w' := by
  have H6 := Lib.hid h6
  have HI6 := Lib.hid (six_size h6)
  clear h6
  obtain ⟨ad, c, h1, h2, h3, h4, hlo⟩ := h
  have lr := lt_of_block h1
  have HF := Lib.hid h2
  have hle := h2.le
  obtain ⟨n, hn⟩ : ∃ n, n = ls.length := ⟨_, rfl⟩
  have HN := Lib.hid hn
  have hn8 : n ≤ 8192 := by omega
  rw [← hn] at h1 h2 hle HF
  have HG := Lib.hid h1
  have HB := Lib.hid (Below.refl w.heap.size w)
  clear h1 h2 h3 h4 hn
  go_enter Try.func29, Try.ntmps29
  go_wp2_with (first
    | ((with_reducible refine sl 5 ?_); go_must (refine wpL_boxG rfl 49 (.tmp 2) rfl (idle.map (Value.int .i64)).toArray rfl ?_); intro wb5 g5 he__ le_5 lt_5 hg__ hb__; have hE__ := cU HB bup hb__; replace HB := ck HB hE__; clear hE__ hb__; have HG5 := Lib.hid hg__; clear hg__ he__; simp only [PT]))
  go_loopw [7, 8, 9] (fun o s i' wr => ∃ (k N2 N3 : Nat) (L2 L3 : List FloW) (ad2 ad3 : Option Addr) (c2 c3 : Nat), k ≤ n ∧ N2 ≤ k ∧ N3 ≤ k ∧ o = .slice ad2 N2 c2 ∧ s = .slice ad3 N3 c3 ∧ i' = .int .i64 (k : Int) ∧ Hid (N2 = L2.length) ∧ Hid (N3 = L3.length) ∧ Hid (L2 = outF now idle (ls.take k)) ∧ Hid (L3 = stF now idle (ls.take k)) ∧ Hid (wr.ownsRow w.heap.size 28 41 (.slice ad2 N2 c2) N2 (flosC L2)) ∧ Hid (wr.ownsRow w.heap.size 28 41 (.slice ad3 N3 c3) N3 (flosC L3)) ∧ Hid (∀ x y, ad2 = some x → ad3 = some y → x.block ≠ y.block) ∧ Hid (Below w.heap.size w wr) ∧ Hid (wr.heap[g5]? = some (.cells (idle.map (Value.int .i64)).toArray 49 (0, 0)))) (fun _ _ i' _ => n - (intOf i').toNat)
  case atStart => exact ⟨0, 0, 0, [], [], none, none, 0, 0, by omega, by omega, by omega, rfl, rfl, rfl, Lib.hid rfl, Lib.hid rfl, Lib.hid (by simp [outF]), Lib.hid (by simp [stF]), Lib.hid (World.ownsRow_nil _ _ _ _), Lib.hid (World.ownsRow_nil _ _ _ _), Lib.hid (fun x y hx => by cases hx), HB, HG5⟩
  case round =>
    clear HB HG5
    obtain ⟨k, N2, N3, L2, L3, ad2, ad3, c2, c3, hk, hN2, hN3, rfl, rfl, rfl, HN2, HN3, HL2, HL3, HO, HO2, HAP, HB, HG5⟩ := hrel
    by_cases hend : k = n
    · subst k
      go_wp2_with (first
        | ((with_reducible refine sl 14 ?_); go_must (refine wpL_loadF rfl 38 (.tmp 13) rfl r 1 rfl (.slice ad n c) (hatV HB HG bup) rfl Try.underlying38 rfl ?_); simp only [PT])
        | ((with_reducible show wpList _ _ _ (⟨none, .store _ (.tmp 61) (.tmp 59), _, _, _, _⟩ :: _) _ _); go_must (refine wpL_storeF rfl 38 (.tmp 61) (.tmp 59) rfl r 1 (.slice ad3 N3 c3) rfl rfl rfl (hatV HB HG bup) (show (1 : Nat) < 2 by decide) (by kernel_rfl) #[.int .i64 (room : Int), .slice ad3 N3 c3] rfl ?_); intro ws hs__ hr__; have HRS := Lib.hid hs__; have HRG := Lib.hid hr__; clear hs__ hr__; simp only [PT]))
      go_ret
      have hLL := HL3.out
      rw [HN.out, List.take_length] at hLL
      have hL2 := HL2.out
      rw [HN.out, List.take_length] at hL2
      rw [← hLL]
      have hsz := HB.out.size
      have ho := own_but (own_keep HO.out bup) (But.of_p (q := r) HRG.out) (by omega) (by omega)
      rw [HN2.out] at ho
      exact ⟨ad2, c2, L2, by rw [HN2.out]; rfl, hL2, ho, RT.of_own HRS.out HN3.out lr (own_keep HO2.out bup) HRG.out (by rw [← HN3.out]; omega) hlo (Below.size (HB.out.trans (Below.mono bup HB.out.size))), (But.of_below HB.out).trans (But.of_p HRG.out)⟩
    have hlt : k < n := by omega
    have hkL : k < ls.length := by rw [← HN.out]; exact hlt
    obtain ⟨b, off, rfl, hbl, hat⟩ := HF.out.at (by omega)
    obtain ⟨x, hx⟩ : ∃ x, x = ls[k] := ⟨_, rfl⟩
    have HR := Lib.hid (show w.rangeAt b (off + k * 41) x.v.cells by rw [hx]; exact hat k hkL)
    have HT2 : Hid (outF now idle (ls.take (k + 1)) = outF now idle (ls.take k) ++ if staleW now idle x = true then [x] else []) := Lib.hid (by rw [takeF_snoc hkL, outF_snoc, hx])
    have HT3 : Hid (stF now idle (ls.take (k + 1)) = stF now idle (ls.take k) ++ if staleW now idle x = true then [] else [x]) := Lib.hid (by rw [takeF_snoc hkL, stF_snoc, hx])
    clear hat hx
    go_wp2_with (first
      | ((with_reducible refine sl 14 ?_); go_must (refine wpL_loadF rfl 38 (.tmp 13) rfl r 1 rfl (.slice (some ⟨b, off, none⟩) n c) (hatV HB HG bup) rfl Try.underlying38 rfl ?_); simp only [PT]))
    obtain ⟨d, hd⟩ : ∃ d : Bool, d = staleW now idle x := ⟨_, rfl⟩
    have HD : Hid (staleF x.v.state x.v.seen now idle = d) := Lib.hid hd.symm
    rw [← hd] at HT2 HT3
    clear hd
    refine wp_region_held_drew (S := fun u__ => u__.cell? ⟨r, 1, none⟩ = some (.slice (some ⟨b, off, none⟩) n c) ∧ u__.cell? ⟨b, off + k * 41 + 38, none⟩ = some (.int .i64 x.v.state) ∧ u__.cell? ⟨b, off + k * 41 + 39, none⟩ = some (.int .i64 x.v.seen) ∧ u__.rangeAt g5 0 (idle.map (Value.int .i64))) (by kernel_rfl) ?_ (fun hHeld => ?_)
    focus (exact ⟨cellV (hatV HB HG bup) rfl, flo_st (range_keep HR.out (HB.out.trans (Below.mono bup HB.out.size))), flo_se (range_keep HR.out (HB.out.trans (Below.mono bup HB.out.size))), range_block (hatB HG5 bup)⟩)
    refine tk 0 (oi := ⟨some 19, _, _, _, _, _⟩) (v := ?_) rfl (by kernel_rfl) (.inl ⟨by rfl, ?_⟩) hHeld ?_; rotate_left; focus (intro w hSw; (try dsimp only at hSw); go_simp; try with_reducible rfl)
    simp only [PT]
    refine tk 1 (oi := ⟨some 20, _, _, _, _, _⟩) (v := ?_) rfl (by kernel_rfl) (.inl ⟨by rfl, ?_⟩) hHeld ?_; rotate_left; focus (intro w hSw; (try dsimp only at hSw); go_simp; try with_reducible rfl)
    simp only [PT]
    refine tk 2 (oi := ⟨some 21, _, _, _, _, _⟩) (v := ?_) rfl (by kernel_rfl) (.inl ⟨by rfl, ?_⟩) hHeld ?_; rotate_left; focus (intro w hSw; (try dsimp only at hSw); go_simp; try with_reducible rfl)
    simp only [PT]
    refine tk 3 (oi := ⟨some 22, _, _, _, _, _⟩) (v := ?_) rfl (by kernel_rfl) (.inl ⟨by rfl, ?_⟩) hHeld ?_; rotate_left; focus (intro w hSw; (try dsimp only at hSw); go_simp; try with_reducible rfl)
    simp only [PT]
    refine tk 4 (oi := ⟨some 23, _, _, _, _, _⟩) (v := ?_) rfl (by kernel_rfl) (.inl ⟨by rfl, ?_⟩) hHeld ?_; rotate_left; focus (intro w hSw; (try dsimp only at hSw); go_simp; try with_reducible rfl)
    simp only [PT]
    refine tk 5 (oi := ⟨some 24, _, _, _, _, _⟩) (v := ?_) rfl (by kernel_rfl) (.inl ⟨by rfl, ?_⟩) hHeld ?_; rotate_left; focus (intro w hSw; (try dsimp only at hSw); go_simp; try with_reducible rfl)
    simp only [PT]
    refine tk 6 (oi := ⟨some 25, _, _, _, _, _⟩) (v := ?_) rfl (by kernel_rfl) (.inl ⟨by rfl, ?_⟩) hHeld ?_; rotate_left; focus (intro w hSw; (try dsimp only at hSw); go_simp; try with_reducible rfl)
    simp only [PT]
    refine' tk 7 (oi := ⟨some 26, _, _, _, _, _⟩) (v := _) rfl (by kernel_rfl) (yields_loadC (by rfl) 3 (.tmp 25) rfl b (off + k * 41 + 38) rfl (.int .i64 x.v.state) (fun _ h => h.2.1) Try.underlying3 rfl) hHeld ?_
    simp only [PT]
    refine tk 8 (oi := ⟨some 27, _, _, _, _, _⟩) (v := ?_) rfl (by kernel_rfl) (.inl ⟨by rfl, ?_⟩) hHeld ?_; rotate_left; focus (intro w hSw; (try dsimp only at hSw); go_simp; try with_reducible rfl)
    simp only [PT]
    refine tk 9 (oi := ⟨some 28, _, _, _, _, _⟩) (v := ?_) rfl (by kernel_rfl) (.inl ⟨by rfl, ?_⟩) hHeld ?_; rotate_left; focus (intro w hSw; (try dsimp only at hSw); go_simp; try with_reducible rfl)
    simp only [PT]
    refine tk 10 (oi := ⟨some 29, _, _, _, _, _⟩) (v := ?_) rfl (by kernel_rfl) (.inl ⟨by rfl, ?_⟩) hHeld ?_; rotate_left; focus (intro w hSw; (try dsimp only at hSw); go_simp; try with_reducible rfl)
    simp only [PT]
    refine tk 11 (oi := ⟨some 30, _, _, _, _, _⟩) (v := ?_) rfl (by kernel_rfl) (.inl ⟨by rfl, ?_⟩) hHeld ?_; rotate_left; focus (intro w hSw; (try dsimp only at hSw); go_simp; try with_reducible rfl)
    simp only [PT]
    refine tk 12 (oi := ⟨some 31, _, _, _, _, _⟩) (v := ?_) rfl (by kernel_rfl) (.inl ⟨by rfl, ?_⟩) hHeld ?_; rotate_left; focus (intro w hSw; (try dsimp only at hSw); go_simp; try with_reducible rfl)
    simp only [PT]
    refine tk 13 (oi := ⟨some 32, _, _, _, _, _⟩) (v := ?_) rfl (by kernel_rfl) (.inl ⟨by rfl, ?_⟩) hHeld ?_; rotate_left; focus (intro w hSw; (try dsimp only at hSw); go_simp; try with_reducible rfl)
    simp only [PT]
    refine tk 14 (oi := ⟨some 33, _, _, _, _, _⟩) (v := ?_) rfl (by kernel_rfl) (.inl ⟨by rfl, ?_⟩) hHeld ?_; rotate_left; focus (intro w hSw; (try dsimp only at hSw); go_simp; try with_reducible rfl)
    simp only [PT]
    refine' tk 15 (oi := ⟨some 34, _, _, _, _, _⟩) (v := _) rfl (by kernel_rfl) (yields_loadC (by rfl) 3 (.tmp 33) rfl b (off + k * 41 + 39) rfl (.int .i64 x.v.seen) (fun _ h => h.2.2.1) Try.underlying3 rfl) hHeld ?_
    simp only [PT]
    refine tk 16 (oi := ⟨some 35, _, _, _, _, _⟩) (v := ?_) rfl (by kernel_rfl) (.inl ⟨by rfl, ?_⟩) hHeld ?_; rotate_left; focus (intro w hSw; (try dsimp only at hSw); go_simp; try with_reducible rfl)
    simp only [PT]
    refine' tk 17 (oi := ⟨some 36, _, _, _, _, _⟩) (v := _) rfl (by kernel_rfl) (yieldsIf_load_mid (by rfl) _ _ rfl _ _ rfl (idle.map (Value.int .i64)) _ (fun _ h => h.2.2.2) (Try.underlying49) rfl (HI6.out)) hHeld ?_
    simp only [PT]
    refine wpAnyH_ready (rs := [18]) (by kernel_rfl) (by simp) ?_
    refine (AllReadyH.cons (o := ⟨some 37, _, _, _, _, _⟩) rfl (fun K hK => ?_) AllReadyH.nil)
    focus (go_simp; go_must (refine (staleQ_any x.v.state x.v.seen now idle H6.out _).mono ?_); rw [HD.out]; rintro e w5 ⟨rfl, hb__⟩; have hE__ := cU HB bup hb__; replace HB := ck HB hE__; (try replace HO := ck HO hE__); (try replace HO2 := ck HO2 hE__); (try replace HG5 := ck HG5 hE__); clear hE__ hb__; go_wp2_with fail)
    refine hK.out _ _ ?_ (fun hHeld => ?_)
    focus (exact ⟨cellV (hatV HB HG bup) rfl, flo_st (range_keep HR.out (HB.out.trans (Below.mono bup HB.out.size))), flo_se (range_keep HR.out (HB.out.trans (Below.mono bup HB.out.size))), range_block (hatB HG5 bup)⟩)
    clear hK K
    try simp only [PT]
    refine wpAnyH_done (by kernel_rfl) ?_ _
    cases d with
    | true =>
      have HE2 : Hid (L2 ++ [x] = outF now idle (ls.take (k + 1))) := Lib.hid (by rw [HT2.out, HL2.out]; rfl)
      have HE3 : Hid (L3 = stF now idle (ls.take (k + 1))) := Lib.hid (by rw [HT3.out, HL3.out]; simp)
      clear HT2 HT3
      go_wp2_with (first
        | ((with_reducible refine sl 42 ?_); go_must (refine wpL_loadF rfl 38 (.tmp 41) rfl r 1 rfl (.slice (some ⟨b, off, none⟩) n c) (hatV HB HG bup) rfl Try.underlying38 rfl ?_); simp only [PT])
        | ((with_reducible refine sl 45 ?_); go_must (refine wpL_load rfl 28 (.tmp 44) rfl b (off + k * 41) rfl x.v.cells _ (range_keep HR.out (HB.out.trans (Below.mono bup HB.out.size))) Try.underlying28 rfl (one_size x) ?_); simp only [PT])
        | ((with_reducible refine sl 46 ?_); go_must (refine wpL_lit1 rfl 38 28 (.tmp 45) rfl x.v.cells.toArray _ rfl 41 Try.underlying38 flo_info (by omega) (by omega) (fill_flow x) ?_); intro wl46 gL le_gL lt_gL hg__ hb__; have hE__ := cU HB bup hb__; replace HB := ck HB hE__; (try replace HO := ck HO hE__); (try replace HO2 := ck HO2 hE__); (try replace HG5 := ck HG5 hE__); clear hE__ hb__; have HL := Lib.hid hg__; clear hg__; simp only [PT])
        | ((with_reducible refine sl 47 ?_); go_must (refine wpL_append elFl rfl (.tmp 38) (.tmp 46) rfl w.heap.size rfl (own_keep HO.out bup) rfl (by have h := sl_block (cs := x.v.cells) HL.out; rw [FloW.length] at h; exact Sl.below h bup) Flo.one (by unfold maxLen; omega) (by omega) (Nat.le_trans HB.out.size (bsz bup)) ?_); intro ad4 c4 wa hown__ hgr__ hor__ _; rw [← flosC_snoc] at hown__; have hap2__ := apart_app (own_keep HO2.out bup) (fun x y hx hy => HAP.out x y hx hy) hor__; replace HO2 := Lib.hid (own_apart (own_keep HO2.out bup) hgr__ (fun x y hx hy => (HAP.out y x hy hx).symm)); clear HAP; have HAP : Hid _ := Lib.hid hap2__; clear hap2__; have HG5n := Lib.hid ((hgr__.block g5 (lt_of_block (hatB HG5 bup)) (fun e => (by have := own_g5 HO.out e.symm HG5.out (by decide); exact this))).trans (hatB HG5 bup)); clear HG5; have HG5 := HG5n; clear HG5n; replace HB := cEa HB bup hgr__ (ownBlock_ge HO.out); clear HO; have HO := Lib.hid hown__; clear hown__ hgr__ HL hor__; simp only [PT]))
      go_roundw
      case rel => exact ⟨k + 1, N2 + 1, N3, L2 ++ [x], L3, ad4, ad3, c4, c3, by omega, by omega, by omega, rfl, rfl, by go_num, Lib.hid (by rw [List.length_append, ← HN2.out]; rfl), HN3, HE2, HE3, HO, HO2, HAP, HB, HG5⟩
      case measure => first | (simp [intOf]; done) | (simp [intOf]; omega)
    | false =>
      have HE2 : Hid (L2 = outF now idle (ls.take (k + 1))) := Lib.hid (by rw [HT2.out, HL2.out]; simp)
      have HE3 : Hid (L3 ++ [x] = stF now idle (ls.take (k + 1))) := Lib.hid (by rw [HT3.out, HL3.out]; rfl)
      clear HT2 HT3
      go_wp2_with (first
        | ((with_reducible refine sl 52 ?_); go_must (refine wpL_loadF rfl 38 (.tmp 51) rfl r 1 rfl (.slice (some ⟨b, off, none⟩) n c) (hatV HB HG bup) rfl Try.underlying38 rfl ?_); simp only [PT])
        | ((with_reducible refine sl 55 ?_); go_must (refine wpL_load rfl 28 (.tmp 54) rfl b (off + k * 41) rfl x.v.cells _ (range_keep HR.out (HB.out.trans (Below.mono bup HB.out.size))) Try.underlying28 rfl (one_size x) ?_); simp only [PT])
        | ((with_reducible refine sl 56 ?_); go_must (refine wpL_lit1 rfl 38 28 (.tmp 55) rfl x.v.cells.toArray _ rfl 41 Try.underlying38 flo_info (by omega) (by omega) (fill_flow x) ?_); intro wl56 gL le_gL lt_gL hg__ hb__; have hE__ := cU HB bup hb__; replace HB := ck HB hE__; (try replace HO := ck HO hE__); (try replace HO2 := ck HO2 hE__); (try replace HG5 := ck HG5 hE__); clear hE__ hb__; have HL := Lib.hid hg__; clear hg__; simp only [PT])
        | ((with_reducible refine sl 57 ?_); go_must (refine wpL_append elFl rfl (.tmp 48) (.tmp 56) rfl w.heap.size rfl (own_keep HO2.out bup) rfl (by have h := sl_block (cs := x.v.cells) HL.out; rw [FloW.length] at h; exact Sl.below h bup) Flo.one (by unfold maxLen; omega) (by omega) (Nat.le_trans HB.out.size (bsz bup)) ?_); intro ad4 c4 wa hown__ hgr__ hor__ _; rw [← flosC_snoc] at hown__; have hap2__ := apart_app (own_keep HO.out bup) (fun x y hx hy => (HAP.out y x hy hx).symm) hor__; replace HO := Lib.hid (own_apart (own_keep HO.out bup) hgr__ (fun x y hx hy => HAP.out x y hx hy)); clear HAP; have HAP : Hid _ := Lib.hid (fun x y hx hy => (hap2__ y x hy hx).symm); clear hap2__; have HG5n := Lib.hid ((hgr__.block g5 (lt_of_block (hatB HG5 bup)) (fun e => (by have := own_g5 HO2.out e.symm HG5.out (by decide); exact this))).trans (hatB HG5 bup)); clear HG5; have HG5 := HG5n; clear HG5n; replace HB := cEa HB bup hgr__ (ownBlock_ge HO2.out); clear HO2; have HO2 := Lib.hid hown__; clear hown__ hgr__ HL hor__; simp only [PT]))
      go_roundw
      case rel => exact ⟨k + 1, N2, N3 + 1, L2, L3 ++ [x], ad2, ad4, c2, c4, by omega, by omega, by omega, rfl, rfl, by go_num, HN2, Lib.hid (by rw [List.length_append, ← HN3.out]; rfl), HE2, HE3, HO, HO2, HAP, HB, HG5⟩
      case measure => first | (simp [intOf]; done) | (simp [intOf]; omega)
end Go.Proofs.Ytgpdlhbndoeldaa
