/-
  Joined by program (merge.py): Rf3, PlainTw, FloKt.
-/
import Derived.Deep.DeepCutAuto
import Derived.Test.YtgpdlhbndoeldaaC8
/-
  Chapter 21: the document's table: Put: walked (written by gen/flrf.py).
-/
namespace Go.Proofs.Ytgpdlhbndoeldaa
open Go.RowKit Go.Sort
set_option linter.unusedVariables false
set_option linter.unusedSimpArgs false
set_option maxRecDepth 100000
set_option maxHeartbeats 16000000

/-- put where it belongs -/
def insF (f : FloW) : List FloW → List FloW
  | [] => [f]
  | a :: l => if oldF f.v a.v = true then f :: a :: l else a :: insF f l
theorem insF_snoc (f x : FloW) : ∀ l : List FloW, insF f (l ++ [x]) = if l.any (fun a => oldF f.v a.v) then insF f l ++ [x] else if oldF f.v x.v = true then l ++ [f, x] else l ++ [x, f]
  | [] => by
    simp only [List.nil_append, insF, List.any_nil, Bool.false_eq_true, if_false]
  | a :: l => by
    have ih := insF_snoc f x l
    simp only [List.cons_append, insF, List.any_cons, Bool.or_eq_true, ih]
    by_cases h : oldF f.v a.v = true
    · simp [h]
    · rw [if_neg h]
      by_cases h2 : l.any (fun a => oldF f.v a.v) = true
      · rw [if_pos h2, if_pos (.inr h2), if_neg h]; rfl
      · rw [if_neg h2, if_neg (show ¬(oldF f.v a.v = true ∨ (l.any fun a => oldF f.v a.v) = true) from fun k => k.elim h h2)]
        split <;> rfl
theorem insF_len (f : FloW) : ∀ l : List FloW, (insF f l).length = l.length + 1
  | [] => rfl
  | a :: l => by
    unfold insF
    split
    · rfl
    · simp [insF_len f l]
theorem insF_none (f : FloW) : ∀ l : List FloW, l.any (fun a => oldF f.v a.v) = false → insF f l = l ++ [f]
  | [], _ => rfl
  | a :: l, h => by
    simp only [List.any_cons, Bool.or_eq_false_iff] at h
    unfold insF
    rw [if_neg (by rw [h.1]; simp), insF_none f l h.2]
    rfl
def anyF (f : FloW) (l : List FloW) : Bool := l.any (fun a => oldF f.v a.v)
theorem anyF_snoc (f x : FloW) (l : List FloW) : anyF f (l ++ [x]) = (anyF f l || oldF f.v x.v) := by simp [anyF]
/-- the new list so far -/
def midF (f : FloW) (l : List FloW) : List FloW := if anyF f l then insF f l else l
theorem midF_nil (f : FloW) : midF f [] = [] := rfl
theorem midF_done (f x : FloW) (l : List FloW) (h : anyF f l = true) : midF f (l ++ [x]) = midF f l ++ [x] := by
  unfold midF
  rw [anyF_snoc, h]
  simp only [Bool.true_or, if_true]
  rw [insF_snoc, if_pos (show (l.any (fun a => oldF f.v a.v)) = true from h)]
theorem midF_here (f x : FloW) (l : List FloW) (h : anyF f l = false) (h2 : oldF f.v x.v = true) : midF f (l ++ [x]) = midF f l ++ [f] ++ [x] := by
  unfold midF
  rw [anyF_snoc, h, h2]
  simp only [Bool.false_or, if_true, Bool.false_eq_true, if_false]
  rw [insF_snoc, if_neg (show ¬ (l.any (fun a => oldF f.v a.v)) = true by rw [show (l.any (fun a => oldF f.v a.v)) = false from h]; simp), if_pos h2]
  simp
theorem midF_not (f x : FloW) (l : List FloW) (h : anyF f l = false) (h2 : oldF f.v x.v = false) : midF f (l ++ [x]) = midF f l ++ [x] := by
  unfold midF
  rw [anyF_snoc, h, h2]
  simp
theorem midF_len (f : FloW) (l : List FloW) : (midF f l).length = l.length + (if anyF f l then 1 else 0) := by
  unfold midF
  split
  · rw [insF_len]
  · rfl
/-- what Put leaves: the list behind it -/
def putF (room : Nat) (ls : List FloW) (f gone : FloW) (left : Bool) (ls' : List FloW) : Prop :=
  (left = false ∧ gone = zeroW ∧ (∃ x ∈ ls, x.v.key = f.v.key) ∧ ls' = insF f (noK ls f.v.key)) ∨
  (left = false ∧ gone = zeroW ∧ (∀ x ∈ ls, x.v.key ≠ f.v.key) ∧ ls.length < room ∧ ls' = insF f ls) ∨
  (left = true ∧ (∀ x ∈ ls, x.v.key ≠ f.v.key) ∧ room ≤ ls.length ∧ ls' = insF f ls.tail ∧ ∃ h : 0 < ls.length, gone = ls[0])
theorem zeroW_cells : zeroW.v.cells = zeroF.cells := rfl
theorem rput_wrong (r : Nat) (f : FloW) (hsz : f.v.name.size ≤ 140737488351232) (hr : rightF f.v = false) (w : World) :
    Calls Try.prog 26 #[.pointer (some ⟨r, 0, none⟩), .agg f.v.cells.toArray] w fun e w' => e = .returned (.tuple #[.agg zeroF.cells.toArray, .bool false, .int .i64 1]) ∧ Below w.heap.size w w' := by
  have HB := Lib.hid (Below.refl w.heap.size w)
  have HR := Lib.hid hr
  have HIF := Lib.hid flo_info
  clear hr
  go_enter Try.func26, Try.ntmps26
  go_wp2_with (first
    | ((with_reducible refine sl 3 ?_); go_must (refine wpL_boxG rfl 28 (.tmp 1) rfl f.v.cells.toArray rfl ?_); intro wb3 g3 he__ le_3 lt_3 hg__ hb__; have hE__ := cU HB bup hb__; replace HB := ck HB hE__; clear hE__ hb__; have HG3 := Lib.hid hg__; clear hg__ he__; simp only [PT])
    | ((with_reducible refine sl 4 ?_); go_must (refine wpL_allocG rfl 28 rfl _ zeroF.cells.toArray 41 HIF.out rfl ?_); intro wb4 g4 he__ le_4 lt_4 hg__ hb__; have L4 : Hid (w.heap.size ≤ g4) := Lib.hid (Nat.le_trans HB.out.size le_4); have hE__ := cU HB bup hb__; replace HB := ck HB hE__; (try replace HG3 := ck HG3 hE__); (try replace HT := ck HT hE__); clear hE__ hb__; have HG4 := Lib.hid hg__; clear hg__ he__; simp only [PT])
    | ((with_reducible refine sl 13 ?_); go_must (refine wpL_load rfl 28 (.tmp 3) rfl g3 0 rfl f.v.cells _ (range_block HG3.out) Try.underlying28 rfl (one_size f) ?_); simp only [PT])
    | (go_at_call 14; go_must (refine (refRight_any f.v f.ok hsz _).mono ?_); rw [HR.out]; rintro e w3 ⟨rfl, hb__⟩; have hE__ := cU HB bup hb__; replace HB := ck HB hE__; (try replace HG3 := ck HG3 hE__); (try replace HG4 := ck HG4 hE__); (try replace HT := ck HT hE__); clear hE__ hb__)
    | ((with_reducible refine sl 16 ?_); go_must (refine wpL_build rfl 28 #[] rfl [] rfl zeroF.cells.toArray zero_flow ?_); simp only [PT])
    | ((with_reducible show wpList _ _ _ (⟨none, .store _ (.tmp 4) _, _, _, _, _⟩ :: _) _ _); go_must (refine wpL_storeRow rfl 28 (.tmp 4) (.tmp 16) rfl g4 zeroF.cells.toArray rfl rfl HG4.out (by rw [List.size_toArray]; first | exact flo_size | exact one_size _) rfl (flo_one _) ?_); intro w99 hs__ hr__; replace HB := cg HB bup hr__ L4.out; clear HG4; have HG4 := Lib.hid hs__; clear hs__ hr__; simp only [PT]))
  refine bodyPost_cell1x (cs := zeroF.cells) rfl rfl (range_block HG4.out) Try.underlying28 rfl flo_size rfl ?_
  exact ⟨rfl, HB.out⟩
theorem RT.of_own2 {w ws w' : World} {r lo room base g : Nat} {ad : Option Addr} {n c : Nat} {ls : List FloW} (h1 : ws.heap[r]? = some (.cells #[.int .i64 (room : Int), .slice ad n c] 59 (0, 0))) (hn : n = ls.length) (hb : r < base) (hgb : g < base) (hne : r ≠ g) (ho : w.ownsRow base 28 41 (.slice ad n c) n (flosC ls)) (hg : w.grownBy ws (some r)) (hg2 : ws.grownBy w' (some g)) (hl : ls.length ≤ 8192) (hlo : lo ≤ base) (hbw : base ≤ w.heap.size) : RT w' r lo room ls := by
  subst hn
  have ho2 := own_but (own_but ho (But.of_p (q := r) hg) hb hb) (But.of_p (q := g) hg2) hgb hgb
  exact ⟨ad, c, (hg2.block r (lt_of_block h1) (fun e => hne (Option.some.inj e))).trans h1, Fls.of_own ho2, fun x hx => by have := (own_block ho2 x hx).1; omega, hl, Nat.le_trans hlo (Nat.le_trans hbw (Nat.le_trans hg.size hg2.size))⟩
/-- a law at the end of Put -/
theorem wpL_storeRowF {ops : Array Oper} {rest : List Oper} {o : Oper} {a : Act} {w : World} {Q : Exit → Act → World → Prop} (hgd : o.guard = none) (x y : Operand) (ho : o.op = .store 28 x y) (g : Nat) (u t : FloW) (hx : a.eval x = .pointer (some ⟨g, 0, none⟩)) (hy : a.eval y = .agg u.v.cells.toArray)
    (hg : w.heap[g]? = some (.cells t.v.cells.toArray 28 (0, 0))) (h : ∀ w1, w1.heap[g]? = some (.cells u.v.cells.toArray 28 (0, 0)) → w.grownBy w1 (some g) → wpList Try.prog ops Q rest (a.put o.dst undef) w1) : wpList Try.prog ops Q (o :: rest) a w :=
  wpL_storeRow hgd 28 x y ho g u.v.cells.toArray hx hy hg (by rw [List.size_toArray]; exact one_size u) (by rw [List.size_toArray, List.size_toArray, FloW.length, FloW.length]) (flo_one _) h
/-- what Put leaves -/
def RPut (r lo room : Nat) (ls : List FloW) (f : FloW) (w : World) (e : Ending) (w' : World) : Prop :=
  ∃ gone left ls', e = .returned (.tuple #[.agg gone.v.cells.toArray, .bool left, .int .i64 0]) ∧ RT w' r lo room ls' ∧ But r r w w' ∧ putF room ls f gone left ls'
theorem rput_there (r lo room : Nat) (ls : List FloW) (f : FloW) (hr : rightF f.v = true) (hrl : ∀ x ∈ ls, rightF x.v = true) (hone : OneK ls) (hl8 : ls.length < 8192) (hx : ∃ x ∈ ls, x.v.key = f.v.key) (w : World) (h : RT w r lo room ls) : Calls Try.prog 26 #[.pointer (some ⟨r, 0, none⟩), .agg f.v.cells.toArray] w (RPut r lo room ls f w) := by
  have HX0 := Lib.hid hx
  clear hx
  have HT := Lib.hid h
  have HR := Lib.hid hr
  have hsz : f.v.name.size ≤ 140737488351232 := Nat.le_trans (right_size hr) (by decide)
  have HFF := Lib.hid (right_fit hr)
  have HRL := Lib.hid hrl
  have HK := Lib.hid hone
  have lr := h.lt
  have HIF := Lib.hid flo_info
  have HB := Lib.hid (Below.refl w.heap.size w)
  clear h hr hrl hone
  go_enter Try.func26, Try.ntmps26
  go_wp2_with (first
    | ((with_reducible refine sl 3 ?_); go_must (refine wpL_boxG rfl 28 (.tmp 1) rfl f.v.cells.toArray rfl ?_); intro wb3 g3 he__ le_3 lt_3 hg__ hb__; have L3 := Lib.hid le_3; have hE__ := cU HB bup hb__; replace HB := ck HB hE__; (try replace HT := ck HT hE__); clear hE__ hb__; have HG3 := Lib.hid hg__; clear hg__ he__; simp only [PT])
    | ((with_reducible refine sl 4 ?_); go_must (refine wpL_allocG rfl 28 rfl _ zeroF.cells.toArray 41 HIF.out rfl ?_); intro wb4 g4 he__ le_4 lt_4 hg__ hb__; have L4 : Hid (w.heap.size ≤ g4) := Lib.hid (Nat.le_trans HB.out.size le_4); have hE__ := cU HB bup hb__; replace HB := ck HB hE__; (try replace HG3 := ck HG3 hE__); (try replace HT := ck HT hE__); clear hE__ hb__; have HG4 := Lib.hid hg__; clear hg__ he__; simp only [PT])
    | ((with_reducible refine sl 13 ?_); go_must (refine wpL_load rfl 28 (.tmp 3) rfl g3 0 rfl f.v.cells _ (range_block HG3.out) Try.underlying28 rfl (one_size f) ?_); simp only [PT])
    | (go_at_call 14; go_must (refine (refRight_any f.v f.ok hsz _).mono ?_); rw [HR.out]; rintro e w3 ⟨rfl, hb__⟩; have hE__ := cU HB bup hb__; replace HB := ck HB hE__; (try replace HG3 := ck HG3 hE__); (try replace HG4 := ck HG4 hE__); (try replace HT := ck HT hE__); clear hE__ hb__)
    | ((with_reducible refine sl 17 ?_); go_must (refine wpL_build rfl 28 #[] rfl [] rfl zeroF.cells.toArray zero_flow ?_); simp only [PT])
    | ((with_reducible refine sl 7 ?_); go_must (refine wpL_newG rfl rfl 28 rfl (.tmp 7) (.tmp 17) rfl (zeroF.cells).toArray zeroF.cells.toArray (new_info (Flo.length zeroF_ok)) (new_size (Flo.length zeroF_ok)) (flo_one _) (fun _ => rfl) (fun _ => rfl) ?_); intro wn7 g7 le_7 hg__ hb__; go_must (have l47 : g4 ≠ g7 := (by have := lt_of_block HG4.out; omega)); have l37 : g3 ≠ g7 := (by have := lt_of_block HG3.out; omega); go_must (have L7 := Lib.hid (show w.heap.size ≤ g7 from Nat.le_trans HB.out.size le_7)); have hE__ := cU HB bup hb__; replace HB := ck HB hE__; (try replace HG3 := ck HG3 hE__); (try replace HG4 := ck HG4 hE__); (try replace HT := ck HT hE__); clear hE__ hb__; have HG7 := Lib.hid hg__; clear hg__; simp only [PT])
    | ((with_reducible refine sl 20 ?_); go_must (refine wpL_load rfl 26 (.tmp 19) rfl g3 0 rfl f.v.key.cells _ (range_key (range_block HG3.out)) Try.underlying26 rfl (tup_len f) ?_); simp only [PT])
    | (go_at_call 30; go_must (refine (rfind_any r lo room ls f _ (HT.out.keep bup)).mono ?_); rintro e w5 ⟨⟨i, rfl, hi⟩, hb__⟩; have hE__ := cU HB bup hb__; replace HB := ck HB hE__; (try replace HG3 := ck HG3 hE__); (try replace HG4 := ck HG4 hE__); (try replace HG7 := ck HG7 hE__); (try replace HT := ck HT hE__); clear hE__ hb__; go_must (rcases hi with ⟨rfl, hno⟩ | ⟨k0, rfl, hk0, hkk⟩); go_must (focus (obtain ⟨x, hx1, hx2⟩ := HX0.out; exact absurd hx2 (hno x hx1))); have HKK := Lib.hid hkk; clear hkk)
    | (go_at_call 43; go_loud (refine (rcut_any r lo room ls k0 hk0 _ (HT.out.keep bup)).mono ?_); rintro e v ⟨rfl, hr, hb⟩; have HTv := Lib.hid hr; go_must (have HBTv := Lib.hid ((But.of_below (p := r) (q := r) (HB.out.trans (Below.mono bup HB.out.size))).trans hb)); go_must (have HV3 := Lib.hid (hb.keep (hatB HG3 bup) (by have := L3.out; omega) (by have := L3.out; omega))); go_must (have HV4 := Lib.hid (hb.keep (hatB HG4 bup) (by have := L4.out; omega) (by have := L4.out; omega))); go_must (have HV7 := Lib.hid (hb.keep (hatB HG7 bup) (by have := L7.out; omega) (by have := L7.out; omega))); go_must (clear hr hb HG3 HG4 HG7 HT HB)))
  obtain ⟨ad1, c1, h1, h2, _, h4, hlov⟩ := HTv.out
  obtain ⟨ls1, hls1⟩ : ∃ l, l = ls.eraseIdx k0 := ⟨_, rfl⟩
  rw [← hls1] at h1 h2 h4
  obtain ⟨n1, hn1'⟩ : ∃ n1, n1 = ls1.length := ⟨_, rfl⟩
  rw [← hn1'] at h1 h2 h4
  have hn1 : n1 < 8192 := by have := List.length_eraseIdx_le (l := ls) (i := k0); rw [hn1', hls1]; omega
  have hle1 := h2.le
  have HGv := Lib.hid h1
  have HFv := Lib.hid h2
  have HN1 := Lib.hid hn1'
  have lrv := lt_of_block h1
  have l4 : r ≠ g4 := by have := L4.out; omega
  have l7 : r ≠ g7 := by have := L7.out; omega
  have HRv : Hid (∀ x ∈ ls1, rightF x.v = true) := Lib.hid (fun x hx => HRL.out x (by rw [hls1] at hx; exact List.mem_of_mem_eraseIdx hx))
  have HLS := Lib.hid hls1
  clear h1 h2 h4 hn1' hls1 HTv
  have HB := Lib.hid (Below.refl v.heap.size v)
  go_loopw [10, 11, 12] (fun o d i' wr => ∃ (k N2 : Nat) (L : List FloW) (ad2 : Option Addr) (c2 : Nat) (dn : Bool), k ≤ n1 ∧ N2 ≤ k + 1 ∧ o = .slice ad2 N2 c2 ∧ d = .bool dn ∧ i' = .int .i64 (k : Int) ∧ Hid (N2 = L.length) ∧ Hid (L = midF f (ls1.take k)) ∧ Hid (dn = anyF f (ls1.take k)) ∧ Hid (wr.ownsRow v.heap.size 28 41 (.slice ad2 N2 c2) N2 (flosC L)) ∧ Hid (Below v.heap.size v wr)) (fun _ _ i' _ => n1 - (intOf i').toNat)
  case atStart => exact ⟨0, 0, [], none, 0, false, by omega, by omega, rfl, rfl, rfl, Lib.hid rfl, Lib.hid rfl, Lib.hid rfl, Lib.hid (World.ownsRow_nil _ _ _ _), Lib.hid (HB.out.trans (Below.mono bup HB.out.size))⟩
  case round =>
    clear HB
    obtain ⟨k, N2, L, ad2, c2, dn, hk, hN2, rfl, rfl, rfl, HN2, HLL, HDN, HO, HB⟩ := hrel
    by_cases hend : k = n1
    · subst k
      cases dn with
      | true =>
        go_wp2_with (first
          | ((with_reducible refine sl 49 ?_); go_must (refine wpL_loadF rfl 38 (.tmp 48) rfl r 1 rfl (.slice ad1 n1 c1) (hatV HB HGv bup) rfl Try.underlying38 rfl ?_); simp only [PT])
          | ((with_reducible show wpList _ _ _ (⟨none, .store _ (.tmp 90) (.tmp 88), _, _, _, _⟩ :: _) _ _); go_must (refine wpL_storeF (cs := #[.int .i64 (room : Int), .slice ad1 n1 c1]) (T := 59) rfl 38 (.tmp 90) (.tmp 88) rfl r 1 (.slice ad2 N2 c2) rfl rfl rfl (hatV HB HGv bup) (show (1 : Nat) < 2 by decide) (by kernel_rfl) #[.int .i64 (room : Int), .slice ad2 N2 c2] rfl ?_); intro ws hs__ hr__; have HRS := Lib.hid hs__; have HRG := Lib.hid hr__; go_must (have HS4 := Lib.hid ((hr__.block g4 (lt_of_block (hatV HB HV4 bup)) (fun e => l4 (Option.some.inj e).symm)).trans (hatV HB HV4 bup))); go_must (have HS7 := Lib.hid ((hr__.block g7 (lt_of_block (hatV HB HV7 bup)) (fun e => l7 (Option.some.inj e).symm)).trans (hatV HB HV7 bup))); clear hs__ hr__; simp only [PT])
          | ((with_reducible refine sl 91 ?_); go_must (refine wpL_load rfl 28 (.tmp 7) rfl g7 0 rfl (zeroW).v.cells _ (range_block HS7.out) Try.underlying28 rfl (one_size (zeroW)) ?_); simp only [PT])
          | ((with_reducible show wpList _ _ _ (⟨none, .store _ (.tmp 4) _, _, _, _, _⟩ :: _) _ _); go_must (refine wpL_storeRowF rfl (.tmp 4) (.tmp 91) rfl g4 (zeroW) zeroW rfl rfl HS4.out ?_); intro w99 hs__ hr__; have HF4 := Lib.hid hs__; have HFG := Lib.hid hr__; clear hs__ hr__; simp only [PT]))
        refine bodyPost_cell1x (cs := (zeroW).v.cells) rfl rfl (range_block HF4.out) Try.underlying28 rfl (one_size (zeroW)) rfl ?_
        have hLL : L = insF f ls1 := by
          have h1 := HDN.out
          have h2 := HLL.out
          rw [HN1.out, List.take_length] at h1 h2
          rw [h2]
          unfold midF
          rw [← h1]
          rfl
        refine ⟨zeroW, false, insF f ls1, rfl, ?_, ((HBTv.out.trans (But.of_below (HB.out.trans (Below.mono bup HB.out.size)))).trans (But.of_p HRG.out)).own HFG.out L4.out, .inl ⟨rfl, rfl, HX0.out, by rw [HLS.out, cut_noK HK.out hk0, HKK.out]⟩⟩
        rw [← hLL]
        exact RT.of_own2 HRS.out HN2.out lrv (lt_of_block HV4.out) l4 (own_keep HO.out bup) HRG.out HFG.out (by rw [hLL, insF_len, ← HN1.out]; omega) hlov (Below.size (HB.out.trans (Below.mono bup HB.out.size)))
      | false =>
        go_wp2_with (first
          | ((with_reducible refine sl 49 ?_); go_must (refine wpL_loadF rfl 38 (.tmp 48) rfl r 1 rfl (.slice ad1 n1 c1) (hatV HB HGv bup) rfl Try.underlying38 rfl ?_); simp only [PT])
          | ((with_reducible refine sl 84 ?_); go_must (refine wpL_load rfl 28 (.tmp 3) rfl g3 0 rfl f.v.cells _ (range_block (hatV HB HV3 bup)) Try.underlying28 rfl (one_size f) ?_); simp only [PT])
          | ((with_reducible refine sl 85 ?_); go_must (refine wpL_lit1 rfl 38 28 (.tmp 84) rfl f.v.cells.toArray _ rfl 41 Try.underlying38 flo_info (by omega) (by omega) (fill_flow f) ?_); intro wl85 gL le_gL lt_gL hg__ hb__; have hE__ := cU HB bup hb__; replace HB := ck HB hE__; (try replace HO := ck HO hE__); clear hE__ hb__; have HL := Lib.hid hg__; clear hg__; simp only [PT])
          | ((with_reducible refine sl 86 ?_); go_must (refine wpL_append elFl rfl (.tmp 83) (.tmp 85) rfl v.heap.size rfl (own_keep HO.out bup) rfl (by have h := sl_block (cs := f.v.cells) HL.out; rw [FloW.length] at h; exact Sl.below h bup) Flo.one (by unfold maxLen; omega) (by omega) (Nat.le_trans HB.out.size (bsz bup)) ?_); intro ad3 c3 wa hown__ hgr__ _ _; rw [← flosC_snoc] at hown__; replace HB := cEa HB bup hgr__ (ownBlock_ge HO.out); clear HO; have HO := Lib.hid hown__; clear hown__ hgr__ HL; simp only [PT])
          | ((with_reducible show wpList _ _ _ (⟨none, .store _ (.tmp 90) (.tmp 88), _, _, _, _⟩ :: _) _ _); go_must (refine wpL_storeF (cs := #[.int .i64 (room : Int), .slice ad1 n1 c1]) (T := 59) rfl 38 (.tmp 90) (.tmp 88) rfl r 1 (.slice ad3 (N2 + 1) c3) rfl rfl rfl (hatV HB HGv bup) (show (1 : Nat) < 2 by decide) (by kernel_rfl) #[.int .i64 (room : Int), .slice ad3 (N2 + 1) c3] rfl ?_); intro ws hs__ hr__; have HRS := Lib.hid hs__; have HRG := Lib.hid hr__; go_must (have HS4 := Lib.hid ((hr__.block g4 (lt_of_block (hatV HB HV4 bup)) (fun e => l4 (Option.some.inj e).symm)).trans (hatV HB HV4 bup))); go_must (have HS7 := Lib.hid ((hr__.block g7 (lt_of_block (hatV HB HV7 bup)) (fun e => l7 (Option.some.inj e).symm)).trans (hatV HB HV7 bup))); clear hs__ hr__; simp only [PT])
          | ((with_reducible refine sl 91 ?_); go_must (refine wpL_load rfl 28 (.tmp 7) rfl g7 0 rfl (zeroW).v.cells _ (range_block HS7.out) Try.underlying28 rfl (one_size (zeroW)) ?_); simp only [PT])
          | ((with_reducible show wpList _ _ _ (⟨none, .store _ (.tmp 4) _, _, _, _, _⟩ :: _) _ _); go_must (refine wpL_storeRowF rfl (.tmp 4) (.tmp 91) rfl g4 (zeroW) zeroW rfl rfl HS4.out ?_); intro w99 hs__ hr__; have HF4 := Lib.hid hs__; have HFG := Lib.hid hr__; clear hs__ hr__; simp only [PT]))
        refine bodyPost_cell1x (cs := (zeroW).v.cells) rfl rfl (range_block HF4.out) Try.underlying28 rfl (one_size (zeroW)) rfl ?_
        have hLL : (L ++ [f]) = insF f ls1 := by
          have h1 := HDN.out
          have h2 := HLL.out
          rw [HN1.out, List.take_length] at h1 h2
          rw [insF_none f ls1 h1.symm, h2]
          unfold midF
          rw [← h1]
          rfl
        refine ⟨zeroW, false, insF f ls1, rfl, ?_, ((HBTv.out.trans (But.of_below (HB.out.trans (Below.mono bup HB.out.size)))).trans (But.of_p HRG.out)).own HFG.out L4.out, .inl ⟨rfl, rfl, HX0.out, by rw [HLS.out, cut_noK HK.out hk0, HKK.out]⟩⟩
        rw [← hLL]
        exact RT.of_own2 HRS.out (show N2 + 1 = (L ++ [f]).length by rw [List.length_append, ← HN2.out]; rfl) lrv (lt_of_block HV4.out) l4 (own_keep HO.out bup) HRG.out HFG.out (by rw [hLL, insF_len, ← HN1.out]; omega) hlov (Below.size (HB.out.trans (Below.mono bup HB.out.size)))
    have hlt : k < n1 := by omega
    have hkL : k < ls1.length := by rw [← HN1.out]; exact hlt
    obtain ⟨b, off, rfl, hbl, hat⟩ := HFv.out.at (by omega)
    obtain ⟨x, hx⟩ : ∃ x, x = ls1[k] := ⟨_, rfl⟩
    have HX := Lib.hid (show v.rangeAt b (off + k * 41) x.v.cells by rw [hx]; exact hat k hkL)
    have HXF := Lib.hid (right_fit (HRv.out x (by rw [hx]; exact List.getElem_mem hkL)))
    have HTK : Hid (ls1.take (k + 1) = ls1.take k ++ [x]) := Lib.hid (by rw [hx, takeF_snoc hkL])
    clear hat hx
    cases dn with
    | true =>
      have HM : Hid (L ++ [x] = midF f (ls1.take (k + 1))) := Lib.hid (by rw [HTK.out, midF_done f x _ HDN.out.symm, HLL.out])
      have HD2 : Hid (true = anyF f (ls1.take (k + 1))) := Lib.hid (by rw [HTK.out, anyF_snoc, ← HDN.out]; rfl)
      go_wp2_with (first
        | ((with_reducible refine sl 49 ?_); go_must (refine wpL_loadF rfl 38 (.tmp 48) rfl r 1 rfl (.slice (some ⟨b, off, none⟩) n1 c1) (hatV HB HGv bup) rfl Try.underlying38 rfl ?_); simp only [PT]))
      refine wp_region_held_drew (S := fun u__ => u__.cell? ⟨r, 1, none⟩ = some (.slice (some ⟨b, off, none⟩) n1 c1) ∧ u__.rangeAt b (off + k * 41) x.v.cells ∧ u__.rangeAt g3 0 f.v.cells) (by kernel_rfl) ?_ (fun hHeld => ?_)
      focus (exact ⟨cellV (hatV HB HGv bup) rfl, range_keep HX.out (HB.out.trans (Below.mono bup HB.out.size)), range_block (hatV HB HV3 bup)⟩)
      refine tk 0 (oi := ⟨some 54, _, _, _, _, _⟩) (v := ?_) rfl (by kernel_rfl) (.inl ⟨by rfl, ?_⟩) hHeld ?_; rotate_left; focus (intro w hSw; (try dsimp only at hSw); go_simp; try with_reducible rfl)
      simp only [PT]
      refine tk 1 (oi := ⟨some 55, _, _, _, _, _⟩) (v := ?_) rfl (by kernel_rfl) (.inl ⟨by rfl, ?_⟩) hHeld ?_; rotate_left; focus (intro w hSw; (try dsimp only at hSw); go_simp; try with_reducible rfl)
      simp only [PT]
      refine tk 2 (oi := ⟨some 56, _, _, _, _, _⟩) (v := ?_) rfl (by kernel_rfl) (.inl ⟨by rfl, ?_⟩) hHeld ?_; rotate_left; focus (intro w hSw; (try dsimp only at hSw); go_simp; try with_reducible rfl)
      simp only [PT]
      first | (refine tk 3 (oi := ⟨some 57, _, _, _, _, _⟩) (v := undef) rfl (by kernel_rfl) (.inr ⟨by rfl, rfl⟩) hHeld ?_) | (refine' tk 3 (oi := ⟨some 57, _, _, _, _, _⟩) (v := _) rfl (by kernel_rfl) (yieldsIf_load_mid (by rfl) _ _ rfl _ _ rfl (f.v.cells) _ (fun _ h => h.2.2) (Try.underlying28) rfl (one_size f)) hHeld ?_)
      simp only [PT]
      first | (refine tk 4 (oi := ⟨some 58, _, _, _, _, _⟩) (v := undef) rfl (by kernel_rfl) (.inr ⟨by rfl, rfl⟩) hHeld ?_) | (refine tk 4 (oi := ⟨some 58, _, _, _, _, _⟩) (v := ?_) rfl (by kernel_rfl) (.inl ⟨by rfl, ?_⟩) hHeld ?_; rotate_left; focus (intro w hSw; (try dsimp only at hSw); go_simp; try with_reducible rfl))
      simp only [PT]
      first | (refine tk 5 (oi := ⟨some 59, _, _, _, _, _⟩) (v := undef) rfl (by kernel_rfl) (.inr ⟨by rfl, rfl⟩) hHeld ?_) | (refine tk 5 (oi := ⟨some 59, _, _, _, _, _⟩) (v := ?_) rfl (by kernel_rfl) (.inl ⟨by rfl, ?_⟩) hHeld ?_; rotate_left; focus (intro w hSw; (try dsimp only at hSw); go_simp; try with_reducible rfl))
      simp only [PT]
      first | (refine tk 6 (oi := ⟨some 60, _, _, _, _, _⟩) (v := undef) rfl (by kernel_rfl) (.inr ⟨by rfl, rfl⟩) hHeld ?_) | (refine tk 6 (oi := ⟨some 60, _, _, _, _, _⟩) (v := ?_) rfl (by kernel_rfl) (.inl ⟨by rfl, ?_⟩) hHeld ?_; rotate_left; focus (intro w hSw; (try dsimp only at hSw); go_simp; try with_reducible rfl))
      simp only [PT]
      first | (refine tk 7 (oi := ⟨some 61, _, _, _, _, _⟩) (v := undef) rfl (by kernel_rfl) (.inr ⟨by rfl, rfl⟩) hHeld ?_) | (refine tk 7 (oi := ⟨some 61, _, _, _, _, _⟩) (v := ?_) rfl (by kernel_rfl) (.inl ⟨by rfl, ?_⟩) hHeld ?_; rotate_left; focus (intro w hSw; (try dsimp only at hSw); go_simp; try with_reducible rfl))
      simp only [PT]
      first | (refine tk 8 (oi := ⟨some 62, _, _, _, _, _⟩) (v := undef) rfl (by kernel_rfl) (.inr ⟨by rfl, rfl⟩) hHeld ?_) | (refine tk 8 (oi := ⟨some 62, _, _, _, _, _⟩) (v := ?_) rfl (by kernel_rfl) (.inl ⟨by rfl, ?_⟩) hHeld ?_; rotate_left; focus (intro w hSw; (try dsimp only at hSw); go_simp; try with_reducible rfl))
      simp only [PT]
      first | (refine tk 9 (oi := ⟨some 63, _, _, _, _, _⟩) (v := undef) rfl (by kernel_rfl) (.inr ⟨by rfl, rfl⟩) hHeld ?_) | (refine tk 9 (oi := ⟨some 63, _, _, _, _, _⟩) (v := ?_) rfl (by kernel_rfl) (.inl ⟨by rfl, ?_⟩) hHeld ?_; rotate_left; focus (intro w hSw; (try dsimp only at hSw); go_simp; try with_reducible rfl))
      simp only [PT]
      first | (refine tk 10 (oi := ⟨some 64, _, _, _, _, _⟩) (v := undef) rfl (by kernel_rfl) (.inr ⟨by rfl, rfl⟩) hHeld ?_) | (refine' tk 10 (oi := ⟨some 64, _, _, _, _, _⟩) (v := _) rfl (by kernel_rfl) (yieldsIf_load_mid (by rfl) _ _ rfl _ _ rfl (x.v.cells) _ (fun _ h => h.2.1) (Try.underlying28) rfl (one_size x)) hHeld ?_)
      simp only [PT]
      refine wpAnyH_ready (rs := [11]) (by kernel_rfl) (by simp) ?_
      refine (AllReadyH.cons (o := ⟨some 65, _, _, _, _, _⟩) rfl (fun K hK => ?_) AllReadyH.nil)
      focus (first | (refine skip_step ?_ ?_; focus (rfl)) | (go_simp; go_must (refine (refOlder_any f.v x.v f.ok x.ok HFF.out HXF.out _).mono ?_); rintro e w5 ⟨rfl, hb__⟩; have hE__ := cU HB bup hb__; replace HB := ck HB hE__; (try replace HO := ck HO hE__); clear hE__ hb__; go_wp2_with fail))
      refine hK.out _ _ ?_ (fun hHeld => ?_)
      focus (exact ⟨cellV (hatV HB HGv bup) rfl, range_keep HX.out (HB.out.trans (Below.mono bup HB.out.size)), range_block (hatV HB HV3 bup)⟩)
      clear hK K
      try simp only [PT]
      refine tk 12 (oi := ⟨some 66, _, _, _, _, _⟩) (v := ?_) rfl (by kernel_rfl) (.inl ⟨by rfl, ?_⟩) hHeld ?_; rotate_left; focus (intro w hSw; (try dsimp only at hSw); go_simp; try with_reducible rfl)
      simp only [PT]
      refine wpAnyH_done (by kernel_rfl) ?_ _
      go_wp2_with (first
        | ((with_reducible refine sl 75 ?_); go_must (refine wpL_loadF rfl 38 (.tmp 74) rfl r 1 rfl (.slice (some ⟨b, off, none⟩) n1 c1) (hatV HB HGv bup) rfl Try.underlying38 rfl ?_); simp only [PT])
        | ((with_reducible refine sl 78 ?_); go_must (refine wpL_load rfl 28 (.tmp 77) rfl b (off + k * 41) rfl x.v.cells _ (range_keep HX.out (HB.out.trans (Below.mono bup HB.out.size))) Try.underlying28 rfl (one_size x) ?_); simp only [PT])
        | ((with_reducible refine sl 79 ?_); go_must (refine wpL_lit1 rfl 38 28 (.tmp 78) rfl x.v.cells.toArray _ rfl 41 Try.underlying38 flo_info (by omega) (by omega) (fill_flow x) ?_); intro wl79 gL le_gL lt_gL hg__ hb__; have hE__ := cU HB bup hb__; replace HB := ck HB hE__; (try replace HO := ck HO hE__); clear hE__ hb__; have HL := Lib.hid hg__; clear hg__; simp only [PT])
        | ((with_reducible refine sl 80 ?_); go_must (refine wpL_append elFl rfl (.tmp 71) (.tmp 79) rfl v.heap.size rfl (own_keep HO.out bup) rfl (by have h := sl_block (cs := x.v.cells) HL.out; rw [FloW.length] at h; exact Sl.below h bup) Flo.one (by unfold maxLen; omega) (by omega) (Nat.le_trans HB.out.size (bsz bup)) ?_); intro ad3 c3 wa hown__ hgr__ _ _; rw [← flosC_snoc] at hown__; replace HB := cEa HB bup hgr__ (ownBlock_ge HO.out); clear HO; have HO := Lib.hid hown__; clear hown__ hgr__ HL; simp only [PT]))
      go_roundw
      case rel => exact ⟨k + 1, N2 + 1, L ++ [x], ad3, c3, true, by omega, by omega, rfl, rfl, by go_num, Lib.hid (by rw [List.length_append, ← HN2.out]; rfl), HM, HD2, HO, HB⟩
      case measure => first | (simp [intOf]; done) | (simp [intOf]; omega)
    | false =>
      have hN2k : N2 ≤ k := by have h := midF_len f (ls1.take k); rw [← HLL.out, ← HN2.out, ← HDN.out, List.length_take] at h; simp at h; omega
      rcases two (oldF f.v x.v) with hol | hol
      · have HOL := Lib.hid hol
        have HM : Hid (L ++ [f] ++ [x] = midF f (ls1.take (k + 1))) := Lib.hid (by rw [HTK.out, midF_here f x _ HDN.out.symm hol, HLL.out])
        have HD2 : Hid (true = anyF f (ls1.take (k + 1))) := Lib.hid (by rw [HTK.out, anyF_snoc, hol, Bool.or_true])
        clear hol
        go_wp2_with (first
          | ((with_reducible refine sl 49 ?_); go_must (refine wpL_loadF rfl 38 (.tmp 48) rfl r 1 rfl (.slice (some ⟨b, off, none⟩) n1 c1) (hatV HB HGv bup) rfl Try.underlying38 rfl ?_); simp only [PT]))
        refine wp_region_held_drew (S := fun u__ => u__.cell? ⟨r, 1, none⟩ = some (.slice (some ⟨b, off, none⟩) n1 c1) ∧ u__.rangeAt b (off + k * 41) x.v.cells ∧ u__.rangeAt g3 0 f.v.cells) (by kernel_rfl) ?_ (fun hHeld => ?_)
        focus (exact ⟨cellV (hatV HB HGv bup) rfl, range_keep HX.out (HB.out.trans (Below.mono bup HB.out.size)), range_block (hatV HB HV3 bup)⟩)
        refine tk 0 (oi := ⟨some 54, _, _, _, _, _⟩) (v := ?_) rfl (by kernel_rfl) (.inl ⟨by rfl, ?_⟩) hHeld ?_; rotate_left; focus (intro w hSw; (try dsimp only at hSw); go_simp; try with_reducible rfl)
        simp only [PT]
        refine tk 1 (oi := ⟨some 55, _, _, _, _, _⟩) (v := ?_) rfl (by kernel_rfl) (.inl ⟨by rfl, ?_⟩) hHeld ?_; rotate_left; focus (intro w hSw; (try dsimp only at hSw); go_simp; try with_reducible rfl)
        simp only [PT]
        refine tk 2 (oi := ⟨some 56, _, _, _, _, _⟩) (v := ?_) rfl (by kernel_rfl) (.inl ⟨by rfl, ?_⟩) hHeld ?_; rotate_left; focus (intro w hSw; (try dsimp only at hSw); go_simp; try with_reducible rfl)
        simp only [PT]
        first | (refine tk 3 (oi := ⟨some 57, _, _, _, _, _⟩) (v := undef) rfl (by kernel_rfl) (.inr ⟨by rfl, rfl⟩) hHeld ?_) | (refine' tk 3 (oi := ⟨some 57, _, _, _, _, _⟩) (v := _) rfl (by kernel_rfl) (yieldsIf_load_mid (by rfl) _ _ rfl _ _ rfl (f.v.cells) _ (fun _ h => h.2.2) (Try.underlying28) rfl (one_size f)) hHeld ?_)
        simp only [PT]
        first | (refine tk 4 (oi := ⟨some 58, _, _, _, _, _⟩) (v := undef) rfl (by kernel_rfl) (.inr ⟨by rfl, rfl⟩) hHeld ?_) | (refine tk 4 (oi := ⟨some 58, _, _, _, _, _⟩) (v := ?_) rfl (by kernel_rfl) (.inl ⟨by rfl, ?_⟩) hHeld ?_; rotate_left; focus (intro w hSw; (try dsimp only at hSw); go_simp; try with_reducible rfl))
        simp only [PT]
        first | (refine tk 5 (oi := ⟨some 59, _, _, _, _, _⟩) (v := undef) rfl (by kernel_rfl) (.inr ⟨by rfl, rfl⟩) hHeld ?_) | (refine tk 5 (oi := ⟨some 59, _, _, _, _, _⟩) (v := ?_) rfl (by kernel_rfl) (.inl ⟨by rfl, ?_⟩) hHeld ?_; rotate_left; focus (intro w hSw; (try dsimp only at hSw); go_simp; try with_reducible rfl))
        simp only [PT]
        first | (refine tk 6 (oi := ⟨some 60, _, _, _, _, _⟩) (v := undef) rfl (by kernel_rfl) (.inr ⟨by rfl, rfl⟩) hHeld ?_) | (refine tk 6 (oi := ⟨some 60, _, _, _, _, _⟩) (v := ?_) rfl (by kernel_rfl) (.inl ⟨by rfl, ?_⟩) hHeld ?_; rotate_left; focus (intro w hSw; (try dsimp only at hSw); go_simp; try with_reducible rfl))
        simp only [PT]
        first | (refine tk 7 (oi := ⟨some 61, _, _, _, _, _⟩) (v := undef) rfl (by kernel_rfl) (.inr ⟨by rfl, rfl⟩) hHeld ?_) | (refine tk 7 (oi := ⟨some 61, _, _, _, _, _⟩) (v := ?_) rfl (by kernel_rfl) (.inl ⟨by rfl, ?_⟩) hHeld ?_; rotate_left; focus (intro w hSw; (try dsimp only at hSw); go_simp; try with_reducible rfl))
        simp only [PT]
        first | (refine tk 8 (oi := ⟨some 62, _, _, _, _, _⟩) (v := undef) rfl (by kernel_rfl) (.inr ⟨by rfl, rfl⟩) hHeld ?_) | (refine tk 8 (oi := ⟨some 62, _, _, _, _, _⟩) (v := ?_) rfl (by kernel_rfl) (.inl ⟨by rfl, ?_⟩) hHeld ?_; rotate_left; focus (intro w hSw; (try dsimp only at hSw); go_simp; try with_reducible rfl))
        simp only [PT]
        first | (refine tk 9 (oi := ⟨some 63, _, _, _, _, _⟩) (v := undef) rfl (by kernel_rfl) (.inr ⟨by rfl, rfl⟩) hHeld ?_) | (refine tk 9 (oi := ⟨some 63, _, _, _, _, _⟩) (v := ?_) rfl (by kernel_rfl) (.inl ⟨by rfl, ?_⟩) hHeld ?_; rotate_left; focus (intro w hSw; (try dsimp only at hSw); go_simp; try with_reducible rfl))
        simp only [PT]
        first | (refine tk 10 (oi := ⟨some 64, _, _, _, _, _⟩) (v := undef) rfl (by kernel_rfl) (.inr ⟨by rfl, rfl⟩) hHeld ?_) | (refine' tk 10 (oi := ⟨some 64, _, _, _, _, _⟩) (v := _) rfl (by kernel_rfl) (yieldsIf_load_mid (by rfl) _ _ rfl _ _ rfl (x.v.cells) _ (fun _ h => h.2.1) (Try.underlying28) rfl (one_size x)) hHeld ?_)
        simp only [PT]
        refine wpAnyH_ready (rs := [11]) (by kernel_rfl) (by simp) ?_
        refine (AllReadyH.cons (o := ⟨some 65, _, _, _, _, _⟩) rfl (fun K hK => ?_) AllReadyH.nil)
        focus (first | (refine skip_step ?_ ?_; focus (rfl)) | (go_simp; go_must (refine (refOlder_any f.v x.v f.ok x.ok HFF.out HXF.out _).mono ?_); rw [HOL.out]; rintro e w5 ⟨rfl, hb__⟩; have hE__ := cU HB bup hb__; replace HB := ck HB hE__; (try replace HO := ck HO hE__); clear hE__ hb__; go_wp2_with fail))
        refine hK.out _ _ ?_ (fun hHeld => ?_)
        focus (exact ⟨cellV (hatV HB HGv bup) rfl, range_keep HX.out (HB.out.trans (Below.mono bup HB.out.size)), range_block (hatV HB HV3 bup)⟩)
        clear hK K
        try simp only [PT]
        refine tk 12 (oi := ⟨some 66, _, _, _, _, _⟩) (v := ?_) rfl (by kernel_rfl) (.inl ⟨by rfl, ?_⟩) hHeld ?_; rotate_left; focus (intro w hSw; (try dsimp only at hSw); go_simp; try with_reducible rfl)
        simp only [PT]
        refine wpAnyH_done (by kernel_rfl) ?_ _
        go_wp2_with (first
          | ((with_reducible refine sl 68 ?_); go_must (refine wpL_load rfl 28 (.tmp 3) rfl g3 0 rfl f.v.cells _ (range_block (hatV HB HV3 bup)) Try.underlying28 rfl (one_size f) ?_); simp only [PT])
          | ((with_reducible refine sl 69 ?_); go_must (refine wpL_lit1 rfl 38 28 (.tmp 68) rfl f.v.cells.toArray _ rfl 41 Try.underlying38 flo_info (by omega) (by omega) (fill_flow f) ?_); intro wl69 gL le_gL lt_gL hg__ hb__; have hE__ := cU HB bup hb__; replace HB := ck HB hE__; (try replace HO := ck HO hE__); clear hE__ hb__; have HL := Lib.hid hg__; clear hg__; simp only [PT])
          | ((with_reducible refine sl 70 ?_); go_must (refine wpL_append elFl rfl (.tmp 67) (.tmp 69) rfl v.heap.size rfl (own_keep HO.out bup) rfl (by have h := sl_block (cs := f.v.cells) HL.out; rw [FloW.length] at h; exact Sl.below h bup) Flo.one (by unfold maxLen; omega) (by omega) (Nat.le_trans HB.out.size (bsz bup)) ?_); intro ad3 c3 wa hown__ hgr__ _ _; rw [← flosC_snoc] at hown__; replace HB := cEa HB bup hgr__ (ownBlock_ge HO.out); clear HO; have HO := Lib.hid hown__; clear hown__ hgr__ HL; simp only [PT])
          | ((with_reducible refine sl 75 ?_); go_must (refine wpL_loadF rfl 38 (.tmp 74) rfl r 1 rfl (.slice (some ⟨b, off, none⟩) n1 c1) (hatV HB HGv bup) rfl Try.underlying38 rfl ?_); simp only [PT])
          | ((with_reducible refine sl 78 ?_); go_must (refine wpL_load rfl 28 (.tmp 77) rfl b (off + k * 41) rfl x.v.cells _ (range_keep HX.out (HB.out.trans (Below.mono bup HB.out.size))) Try.underlying28 rfl (one_size x) ?_); simp only [PT])
          | ((with_reducible refine sl 79 ?_); go_must (refine wpL_lit1 rfl 38 28 (.tmp 78) rfl x.v.cells.toArray _ rfl 41 Try.underlying38 flo_info (by omega) (by omega) (fill_flow x) ?_); intro wl79 gL le_gL lt_gL hg__ hb__; have hE__ := cU HB bup hb__; replace HB := ck HB hE__; (try replace HO := ck HO hE__); clear hE__ hb__; have HL := Lib.hid hg__; clear hg__; simp only [PT])
          | ((with_reducible refine sl 80 ?_); go_must (refine wpL_append elFl rfl (.tmp 71) (.tmp 79) rfl v.heap.size rfl (own_keep HO.out bup) rfl (by have h := sl_block (cs := x.v.cells) HL.out; rw [FloW.length] at h; exact Sl.below h bup) Flo.one (by unfold maxLen; omega) (by omega) (Nat.le_trans HB.out.size (bsz bup)) ?_); intro ad4 c4 wc hown__ hgr__ _ _; rw [← flosC_snoc] at hown__; replace HB := cEa HB bup hgr__ (ownBlock_ge HO.out); clear HO; have HO := Lib.hid hown__; clear hown__ hgr__ HL; simp only [PT]))
        go_roundw
        case rel => exact ⟨k + 1, N2 + 1 + 1, L ++ [f] ++ [x], ad4, c4, true, by omega, by omega, rfl, rfl, by go_num, Lib.hid (by rw [List.length_append, List.length_append, ← HN2.out]; rfl), HM, HD2, HO, HB⟩
        case measure => first | (simp [intOf]; done) | (simp [intOf]; omega)
      · have HOL := Lib.hid hol
        have HM : Hid (L ++ [x] = midF f (ls1.take (k + 1))) := Lib.hid (by rw [HTK.out, midF_not f x _ HDN.out.symm hol, HLL.out])
        have HD2 : Hid (false = anyF f (ls1.take (k + 1))) := Lib.hid (by rw [HTK.out, anyF_snoc, hol, ← HDN.out]; rfl)
        clear hol
        go_wp2_with (first
          | ((with_reducible refine sl 49 ?_); go_must (refine wpL_loadF rfl 38 (.tmp 48) rfl r 1 rfl (.slice (some ⟨b, off, none⟩) n1 c1) (hatV HB HGv bup) rfl Try.underlying38 rfl ?_); simp only [PT]))
        refine wp_region_held_drew (S := fun u__ => u__.cell? ⟨r, 1, none⟩ = some (.slice (some ⟨b, off, none⟩) n1 c1) ∧ u__.rangeAt b (off + k * 41) x.v.cells ∧ u__.rangeAt g3 0 f.v.cells) (by kernel_rfl) ?_ (fun hHeld => ?_)
        focus (exact ⟨cellV (hatV HB HGv bup) rfl, range_keep HX.out (HB.out.trans (Below.mono bup HB.out.size)), range_block (hatV HB HV3 bup)⟩)
        refine tk 0 (oi := ⟨some 54, _, _, _, _, _⟩) (v := ?_) rfl (by kernel_rfl) (.inl ⟨by rfl, ?_⟩) hHeld ?_; rotate_left; focus (intro w hSw; (try dsimp only at hSw); go_simp; try with_reducible rfl)
        simp only [PT]
        refine tk 1 (oi := ⟨some 55, _, _, _, _, _⟩) (v := ?_) rfl (by kernel_rfl) (.inl ⟨by rfl, ?_⟩) hHeld ?_; rotate_left; focus (intro w hSw; (try dsimp only at hSw); go_simp; try with_reducible rfl)
        simp only [PT]
        refine tk 2 (oi := ⟨some 56, _, _, _, _, _⟩) (v := ?_) rfl (by kernel_rfl) (.inl ⟨by rfl, ?_⟩) hHeld ?_; rotate_left; focus (intro w hSw; (try dsimp only at hSw); go_simp; try with_reducible rfl)
        simp only [PT]
        first | (refine tk 3 (oi := ⟨some 57, _, _, _, _, _⟩) (v := undef) rfl (by kernel_rfl) (.inr ⟨by rfl, rfl⟩) hHeld ?_) | (refine' tk 3 (oi := ⟨some 57, _, _, _, _, _⟩) (v := _) rfl (by kernel_rfl) (yieldsIf_load_mid (by rfl) _ _ rfl _ _ rfl (f.v.cells) _ (fun _ h => h.2.2) (Try.underlying28) rfl (one_size f)) hHeld ?_)
        simp only [PT]
        first | (refine tk 4 (oi := ⟨some 58, _, _, _, _, _⟩) (v := undef) rfl (by kernel_rfl) (.inr ⟨by rfl, rfl⟩) hHeld ?_) | (refine tk 4 (oi := ⟨some 58, _, _, _, _, _⟩) (v := ?_) rfl (by kernel_rfl) (.inl ⟨by rfl, ?_⟩) hHeld ?_; rotate_left; focus (intro w hSw; (try dsimp only at hSw); go_simp; try with_reducible rfl))
        simp only [PT]
        first | (refine tk 5 (oi := ⟨some 59, _, _, _, _, _⟩) (v := undef) rfl (by kernel_rfl) (.inr ⟨by rfl, rfl⟩) hHeld ?_) | (refine tk 5 (oi := ⟨some 59, _, _, _, _, _⟩) (v := ?_) rfl (by kernel_rfl) (.inl ⟨by rfl, ?_⟩) hHeld ?_; rotate_left; focus (intro w hSw; (try dsimp only at hSw); go_simp; try with_reducible rfl))
        simp only [PT]
        first | (refine tk 6 (oi := ⟨some 60, _, _, _, _, _⟩) (v := undef) rfl (by kernel_rfl) (.inr ⟨by rfl, rfl⟩) hHeld ?_) | (refine tk 6 (oi := ⟨some 60, _, _, _, _, _⟩) (v := ?_) rfl (by kernel_rfl) (.inl ⟨by rfl, ?_⟩) hHeld ?_; rotate_left; focus (intro w hSw; (try dsimp only at hSw); go_simp; try with_reducible rfl))
        simp only [PT]
        first | (refine tk 7 (oi := ⟨some 61, _, _, _, _, _⟩) (v := undef) rfl (by kernel_rfl) (.inr ⟨by rfl, rfl⟩) hHeld ?_) | (refine tk 7 (oi := ⟨some 61, _, _, _, _, _⟩) (v := ?_) rfl (by kernel_rfl) (.inl ⟨by rfl, ?_⟩) hHeld ?_; rotate_left; focus (intro w hSw; (try dsimp only at hSw); go_simp; try with_reducible rfl))
        simp only [PT]
        first | (refine tk 8 (oi := ⟨some 62, _, _, _, _, _⟩) (v := undef) rfl (by kernel_rfl) (.inr ⟨by rfl, rfl⟩) hHeld ?_) | (refine tk 8 (oi := ⟨some 62, _, _, _, _, _⟩) (v := ?_) rfl (by kernel_rfl) (.inl ⟨by rfl, ?_⟩) hHeld ?_; rotate_left; focus (intro w hSw; (try dsimp only at hSw); go_simp; try with_reducible rfl))
        simp only [PT]
        first | (refine tk 9 (oi := ⟨some 63, _, _, _, _, _⟩) (v := undef) rfl (by kernel_rfl) (.inr ⟨by rfl, rfl⟩) hHeld ?_) | (refine tk 9 (oi := ⟨some 63, _, _, _, _, _⟩) (v := ?_) rfl (by kernel_rfl) (.inl ⟨by rfl, ?_⟩) hHeld ?_; rotate_left; focus (intro w hSw; (try dsimp only at hSw); go_simp; try with_reducible rfl))
        simp only [PT]
        first | (refine tk 10 (oi := ⟨some 64, _, _, _, _, _⟩) (v := undef) rfl (by kernel_rfl) (.inr ⟨by rfl, rfl⟩) hHeld ?_) | (refine' tk 10 (oi := ⟨some 64, _, _, _, _, _⟩) (v := _) rfl (by kernel_rfl) (yieldsIf_load_mid (by rfl) _ _ rfl _ _ rfl (x.v.cells) _ (fun _ h => h.2.1) (Try.underlying28) rfl (one_size x)) hHeld ?_)
        simp only [PT]
        refine wpAnyH_ready (rs := [11]) (by kernel_rfl) (by simp) ?_
        refine (AllReadyH.cons (o := ⟨some 65, _, _, _, _, _⟩) rfl (fun K hK => ?_) AllReadyH.nil)
        focus (first | (refine skip_step ?_ ?_; focus (rfl)) | (go_simp; go_must (refine (refOlder_any f.v x.v f.ok x.ok HFF.out HXF.out _).mono ?_); rw [HOL.out]; rintro e w5 ⟨rfl, hb__⟩; have hE__ := cU HB bup hb__; replace HB := ck HB hE__; (try replace HO := ck HO hE__); clear hE__ hb__; go_wp2_with fail))
        refine hK.out _ _ ?_ (fun hHeld => ?_)
        focus (exact ⟨cellV (hatV HB HGv bup) rfl, range_keep HX.out (HB.out.trans (Below.mono bup HB.out.size)), range_block (hatV HB HV3 bup)⟩)
        clear hK K
        try simp only [PT]
        refine tk 12 (oi := ⟨some 66, _, _, _, _, _⟩) (v := ?_) rfl (by kernel_rfl) (.inl ⟨by rfl, ?_⟩) hHeld ?_; rotate_left; focus (intro w hSw; (try dsimp only at hSw); go_simp; try with_reducible rfl)
        simp only [PT]
        refine wpAnyH_done (by kernel_rfl) ?_ _
        go_wp2_with (first
          | ((with_reducible refine sl 75 ?_); go_must (refine wpL_loadF rfl 38 (.tmp 74) rfl r 1 rfl (.slice (some ⟨b, off, none⟩) n1 c1) (hatV HB HGv bup) rfl Try.underlying38 rfl ?_); simp only [PT])
          | ((with_reducible refine sl 78 ?_); go_must (refine wpL_load rfl 28 (.tmp 77) rfl b (off + k * 41) rfl x.v.cells _ (range_keep HX.out (HB.out.trans (Below.mono bup HB.out.size))) Try.underlying28 rfl (one_size x) ?_); simp only [PT])
          | ((with_reducible refine sl 79 ?_); go_must (refine wpL_lit1 rfl 38 28 (.tmp 78) rfl x.v.cells.toArray _ rfl 41 Try.underlying38 flo_info (by omega) (by omega) (fill_flow x) ?_); intro wl79 gL le_gL lt_gL hg__ hb__; have hE__ := cU HB bup hb__; replace HB := ck HB hE__; (try replace HO := ck HO hE__); clear hE__ hb__; have HL := Lib.hid hg__; clear hg__; simp only [PT])
          | ((with_reducible refine sl 80 ?_); go_must (refine wpL_append elFl rfl (.tmp 71) (.tmp 79) rfl v.heap.size rfl (own_keep HO.out bup) rfl (by have h := sl_block (cs := x.v.cells) HL.out; rw [FloW.length] at h; exact Sl.below h bup) Flo.one (by unfold maxLen; omega) (by omega) (Nat.le_trans HB.out.size (bsz bup)) ?_); intro ad3 c3 wa hown__ hgr__ _ _; rw [← flosC_snoc] at hown__; replace HB := cEa HB bup hgr__ (ownBlock_ge HO.out); clear HO; have HO := Lib.hid hown__; clear hown__ hgr__ HL; simp only [PT]))
        go_roundw
        case rel => exact ⟨k + 1, N2 + 1, L ++ [x], ad3, c3, false, by omega, by omega, rfl, rfl, by go_num, Lib.hid (by rw [List.length_append, ← HN2.out]; rfl), HM, HD2, HO, HB⟩
        case measure => first | (simp [intOf]; done) | (simp [intOf]; omega)
theorem rput_room (r lo room : Nat) (ls : List FloW) (f : FloW) (hr : rightF f.v = true) (hrl : ∀ x ∈ ls, rightF x.v = true) (hone : OneK ls) (hl8 : ls.length < 8192) (hx : ∀ x ∈ ls, x.v.key ≠ f.v.key) (hrm : ls.length < room) (w : World) (h : RT w r lo room ls) : Calls Try.prog 26 #[.pointer (some ⟨r, 0, none⟩), .agg f.v.cells.toArray] w (RPut r lo room ls f w) := by
  have HX0 := Lib.hid hx
  have HRM := Lib.hid hrm
  clear hx hrm
  have HT := Lib.hid h
  have HR := Lib.hid hr
  have hsz : f.v.name.size ≤ 140737488351232 := Nat.le_trans (right_size hr) (by decide)
  have HFF := Lib.hid (right_fit hr)
  have HRL := Lib.hid hrl
  have HK := Lib.hid hone
  have lr := h.lt
  have HIF := Lib.hid flo_info
  have HB := Lib.hid (Below.refl w.heap.size w)
  clear h hr hrl hone
  go_enter Try.func26, Try.ntmps26
  go_wp2_with (first
    | ((with_reducible refine sl 3 ?_); go_must (refine wpL_boxG rfl 28 (.tmp 1) rfl f.v.cells.toArray rfl ?_); intro wb3 g3 he__ le_3 lt_3 hg__ hb__; have L3 := Lib.hid le_3; have hE__ := cU HB bup hb__; replace HB := ck HB hE__; (try replace HT := ck HT hE__); clear hE__ hb__; have HG3 := Lib.hid hg__; clear hg__ he__; simp only [PT])
    | ((with_reducible refine sl 4 ?_); go_must (refine wpL_allocG rfl 28 rfl _ zeroF.cells.toArray 41 HIF.out rfl ?_); intro wb4 g4 he__ le_4 lt_4 hg__ hb__; have L4 : Hid (w.heap.size ≤ g4) := Lib.hid (Nat.le_trans HB.out.size le_4); have hE__ := cU HB bup hb__; replace HB := ck HB hE__; (try replace HG3 := ck HG3 hE__); (try replace HT := ck HT hE__); clear hE__ hb__; have HG4 := Lib.hid hg__; clear hg__ he__; simp only [PT])
    | ((with_reducible refine sl 13 ?_); go_must (refine wpL_load rfl 28 (.tmp 3) rfl g3 0 rfl f.v.cells _ (range_block HG3.out) Try.underlying28 rfl (one_size f) ?_); simp only [PT])
    | (go_at_call 14; go_must (refine (refRight_any f.v f.ok hsz _).mono ?_); rw [HR.out]; rintro e w3 ⟨rfl, hb__⟩; have hE__ := cU HB bup hb__; replace HB := ck HB hE__; (try replace HG3 := ck HG3 hE__); (try replace HG4 := ck HG4 hE__); (try replace HT := ck HT hE__); clear hE__ hb__)
    | ((with_reducible refine sl 17 ?_); go_must (refine wpL_build rfl 28 #[] rfl [] rfl zeroF.cells.toArray zero_flow ?_); simp only [PT])
    | ((with_reducible refine sl 7 ?_); go_must (refine wpL_newG rfl rfl 28 rfl (.tmp 7) (.tmp 17) rfl (zeroF.cells).toArray zeroF.cells.toArray (new_info (Flo.length zeroF_ok)) (new_size (Flo.length zeroF_ok)) (flo_one _) (fun _ => rfl) (fun _ => rfl) ?_); intro wn7 g7 le_7 hg__ hb__; go_must (have l47 : g4 ≠ g7 := (by have := lt_of_block HG4.out; omega)); have l37 : g3 ≠ g7 := (by have := lt_of_block HG3.out; omega); go_must (have L7 := Lib.hid (show w.heap.size ≤ g7 from Nat.le_trans HB.out.size le_7)); have hE__ := cU HB bup hb__; replace HB := ck HB hE__; (try replace HG3 := ck HG3 hE__); (try replace HG4 := ck HG4 hE__); (try replace HT := ck HT hE__); clear hE__ hb__; have HG7 := Lib.hid hg__; clear hg__; simp only [PT])
    | ((with_reducible refine sl 20 ?_); go_must (refine wpL_load rfl 26 (.tmp 19) rfl g3 0 rfl f.v.key.cells _ (range_key (range_block HG3.out)) Try.underlying26 rfl (tup_len f) ?_); simp only [PT])
    | (go_at_call 30; go_must (refine (rfind_any r lo room ls f _ (HT.out.keep bup)).mono ?_); rintro e v ⟨⟨i, rfl, hi⟩, hb__⟩; have hE__ := cU HB bup hb__; replace HB := ck HB hE__; (try replace HG3 := ck HG3 hE__); (try replace HG4 := ck HG4 hE__); (try replace HG7 := ck HG7 hE__); (try replace HT := ck HT hE__); clear hE__ hb__; go_must (rcases hi with ⟨rfl, hno⟩ | ⟨k, rfl, hk, hkk⟩); go_must (rotate_left); go_must (focus (exact absurd hkk (HX0.out _ (List.getElem_mem hk)))); clear hno; have HTv := Lib.hid HT.out; go_must (have HBTv := Lib.hid (But.of_below (p := r) (q := r) HB.out)); have HV3 := Lib.hid HG3.out; have HV4 := Lib.hid HG4.out; have HV7 := Lib.hid HG7.out; clear HB; have HB := Lib.hid (Below.refl v.heap.size v); clear HG3 HG4 HG7 HT))
  obtain ⟨ad1, c1, h1, h2, _, h4, hlov⟩ := HTv.out
  obtain ⟨ls1, hls1⟩ : ∃ l, l = ls := ⟨_, rfl⟩
  rw [← hls1] at h1 h2 h4
  obtain ⟨n1, hn1'⟩ : ∃ n1, n1 = ls1.length := ⟨_, rfl⟩
  rw [← hn1'] at h1 h2 h4
  have hn1 : n1 < 8192 := by rw [hn1', hls1]; exact hl8
  have hle1 := h2.le
  have HGv := Lib.hid h1
  have HFv := Lib.hid h2
  have HN1 := Lib.hid hn1'
  have lrv := lt_of_block h1
  have l4 : r ≠ g4 := by have := L4.out; omega
  have l7 : r ≠ g7 := by have := L7.out; omega
  have HRv : Hid (∀ x ∈ ls1, rightF x.v = true) := Lib.hid (fun x hx => HRL.out x (by rw [hls1] at hx; exact hx))
  have HLS := Lib.hid hls1
  clear h1 h2 h4 hn1' hls1 HTv
  have hnr : n1 < room := by rw [HN1.out, HLS.out]; exact HRM.out
  refine wp_region_held_drew (S := fun u__ => u__.cell? ⟨r, 1, none⟩ = some (.slice ad1 n1 c1) ∧ u__.cell? ⟨r, 0, none⟩ = some (.int .i64 (room : Int))) (by kernel_rfl) ?_ (fun hHeld => ?_)
  focus (exact ⟨cellV (hatV HB HGv bup) rfl, cellV (hatV HB HGv bup) rfl⟩)
  refine tk 0 (oi := ⟨some 27, _, _, _, _, _⟩) (v := ?_) rfl (by kernel_rfl) (.inl ⟨by rfl, ?_⟩) hHeld ?_; rotate_left; focus (intro w hSw; (try dsimp only at hSw); go_simp; try with_reducible rfl)
  simp only [PT]
  refine tk 1 (oi := ⟨some 28, _, _, _, _, _⟩) (v := ?_) rfl (by kernel_rfl) (.inl ⟨by rfl, ?_⟩) hHeld ?_; rotate_left; focus (intro w hSw; (try dsimp only at hSw); go_simp; try with_reducible rfl)
  simp only [PT]
  refine tk 2 (oi := ⟨some 29, _, _, _, _, _⟩) (v := ?_) rfl (by kernel_rfl) (.inl ⟨by rfl, ?_⟩) hHeld ?_; rotate_left; focus (intro w hSw; (try dsimp only at hSw); go_simp; try with_reducible rfl)
  simp only [PT]
  refine tk 3 (oi := ⟨some 30, _, _, _, _, _⟩) (v := ?_) rfl (by kernel_rfl) (.inl ⟨by rfl, ?_⟩) hHeld ?_; rotate_left; focus (intro w hSw; (try dsimp only at hSw); go_simp; try with_reducible rfl)
  simp only [PT]
  refine tk 4 (oi := ⟨some 31, _, _, _, _, _⟩) (v := ?_) rfl (by kernel_rfl) (.inl ⟨by rfl, ?_⟩) hHeld ?_; rotate_left; focus (intro w hSw; (try dsimp only at hSw); go_simp; try with_reducible rfl)
  simp only [PT]
  refine tk 5 (oi := ⟨some 32, _, _, _, _, _⟩) (v := ?_) rfl (by kernel_rfl) (.inl ⟨by rfl, ?_⟩) hHeld ?_; rotate_left; focus (intro w hSw; (try dsimp only at hSw); go_simp; try with_reducible rfl)
  simp only [PT]
  refine tk 6 (oi := ⟨some 33, _, _, _, _, _⟩) (v := ?_) rfl (by kernel_rfl) (.inl ⟨by rfl, ?_⟩) hHeld ?_; rotate_left; focus (intro w hSw; (try dsimp only at hSw); go_simp; try with_reducible rfl)
  simp only [PT]
  refine tk 7 (oi := ⟨some 34, _, _, _, _, _⟩) (v := ?_) rfl (by kernel_rfl) (.inl ⟨by rfl, ?_⟩) hHeld ?_; rotate_left; focus (intro w hSw; (try dsimp only at hSw); go_simp; try with_reducible rfl)
  simp only [PT]
  refine tk 8 (oi := ⟨some 35, _, _, _, _, _⟩) (v := ?_) rfl (by kernel_rfl) (.inl ⟨by rfl, ?_⟩) hHeld ?_; rotate_left; focus (intro w hSw; (try dsimp only at hSw); go_simp; try with_reducible rfl)
  simp only [PT]
  refine' tk 9 (oi := ⟨some 36, _, _, _, _, _⟩) (v := (.bool false)) rfl (by kernel_rfl) (.inl ⟨by rfl, ?_⟩) hHeld ?_; focus (intro w hSw; (try dsimp only at hSw); go_simp; first | done | rfl | omega | (simp [*]; done) | (simp [*]; omega))
  simp only [PT]
  refine wpAnyH_done (by kernel_rfl) ?_ _
  clear HB
  have HB := Lib.hid (Below.refl v.heap.size v)
  go_wp2_with fail
  go_loopw [10, 11, 12] (fun o d i' wr => ∃ (k N2 : Nat) (L : List FloW) (ad2 : Option Addr) (c2 : Nat) (dn : Bool), k ≤ n1 ∧ N2 ≤ k + 1 ∧ o = .slice ad2 N2 c2 ∧ d = .bool dn ∧ i' = .int .i64 (k : Int) ∧ Hid (N2 = L.length) ∧ Hid (L = midF f (ls1.take k)) ∧ Hid (dn = anyF f (ls1.take k)) ∧ Hid (wr.ownsRow v.heap.size 28 41 (.slice ad2 N2 c2) N2 (flosC L)) ∧ Hid (Below v.heap.size v wr)) (fun _ _ i' _ => n1 - (intOf i').toNat)
  case atStart => exact ⟨0, 0, [], none, 0, false, by omega, by omega, rfl, rfl, rfl, Lib.hid rfl, Lib.hid rfl, Lib.hid rfl, Lib.hid (World.ownsRow_nil _ _ _ _), Lib.hid (HB.out.trans (Below.mono bup HB.out.size))⟩
  case round =>
    clear HB
    obtain ⟨k, N2, L, ad2, c2, dn, hk, hN2, rfl, rfl, rfl, HN2, HLL, HDN, HO, HB⟩ := hrel
    by_cases hend : k = n1
    · subst k
      cases dn with
      | true =>
        go_wp2_with (first
          | ((with_reducible refine sl 49 ?_); go_must (refine wpL_loadF rfl 38 (.tmp 48) rfl r 1 rfl (.slice ad1 n1 c1) (hatV HB HGv bup) rfl Try.underlying38 rfl ?_); simp only [PT])
          | ((with_reducible show wpList _ _ _ (⟨none, .store _ (.tmp 90) (.tmp 88), _, _, _, _⟩ :: _) _ _); go_must (refine wpL_storeF (cs := #[.int .i64 (room : Int), .slice ad1 n1 c1]) (T := 59) rfl 38 (.tmp 90) (.tmp 88) rfl r 1 (.slice ad2 N2 c2) rfl rfl rfl (hatV HB HGv bup) (show (1 : Nat) < 2 by decide) (by kernel_rfl) #[.int .i64 (room : Int), .slice ad2 N2 c2] rfl ?_); intro ws hs__ hr__; have HRS := Lib.hid hs__; have HRG := Lib.hid hr__; go_must (have HS4 := Lib.hid ((hr__.block g4 (lt_of_block (hatV HB HV4 bup)) (fun e => l4 (Option.some.inj e).symm)).trans (hatV HB HV4 bup))); go_must (have HS7 := Lib.hid ((hr__.block g7 (lt_of_block (hatV HB HV7 bup)) (fun e => l7 (Option.some.inj e).symm)).trans (hatV HB HV7 bup))); clear hs__ hr__; simp only [PT])
          | ((with_reducible refine sl 91 ?_); go_must (refine wpL_load rfl 28 (.tmp 7) rfl g7 0 rfl (zeroW).v.cells _ (range_block HS7.out) Try.underlying28 rfl (one_size (zeroW)) ?_); simp only [PT])
          | ((with_reducible show wpList _ _ _ (⟨none, .store _ (.tmp 4) _, _, _, _, _⟩ :: _) _ _); go_must (refine wpL_storeRowF rfl (.tmp 4) (.tmp 91) rfl g4 (zeroW) zeroW rfl rfl HS4.out ?_); intro w99 hs__ hr__; have HF4 := Lib.hid hs__; have HFG := Lib.hid hr__; clear hs__ hr__; simp only [PT]))
        refine bodyPost_cell1x (cs := (zeroW).v.cells) rfl rfl (range_block HF4.out) Try.underlying28 rfl (one_size (zeroW)) rfl ?_
        have hLL : L = insF f ls1 := by
          have h1 := HDN.out
          have h2 := HLL.out
          rw [HN1.out, List.take_length] at h1 h2
          rw [h2]
          unfold midF
          rw [← h1]
          rfl
        refine ⟨zeroW, false, insF f ls1, rfl, ?_, ((HBTv.out.trans (But.of_below (HB.out.trans (Below.mono bup HB.out.size)))).trans (But.of_p HRG.out)).own HFG.out L4.out, .inr (.inl ⟨rfl, rfl, HX0.out, HRM.out, by rw [HLS.out]⟩)⟩
        rw [← hLL]
        exact RT.of_own2 HRS.out HN2.out lrv (lt_of_block HV4.out) l4 (own_keep HO.out bup) HRG.out HFG.out (by rw [hLL, insF_len, ← HN1.out]; omega) hlov (Below.size (HB.out.trans (Below.mono bup HB.out.size)))
      | false =>
        go_wp2_with (first
          | ((with_reducible refine sl 49 ?_); go_must (refine wpL_loadF rfl 38 (.tmp 48) rfl r 1 rfl (.slice ad1 n1 c1) (hatV HB HGv bup) rfl Try.underlying38 rfl ?_); simp only [PT])
          | ((with_reducible refine sl 84 ?_); go_must (refine wpL_load rfl 28 (.tmp 3) rfl g3 0 rfl f.v.cells _ (range_block (hatV HB HV3 bup)) Try.underlying28 rfl (one_size f) ?_); simp only [PT])
          | ((with_reducible refine sl 85 ?_); go_must (refine wpL_lit1 rfl 38 28 (.tmp 84) rfl f.v.cells.toArray _ rfl 41 Try.underlying38 flo_info (by omega) (by omega) (fill_flow f) ?_); intro wl85 gL le_gL lt_gL hg__ hb__; have hE__ := cU HB bup hb__; replace HB := ck HB hE__; (try replace HO := ck HO hE__); clear hE__ hb__; have HL := Lib.hid hg__; clear hg__; simp only [PT])
          | ((with_reducible refine sl 86 ?_); go_must (refine wpL_append elFl rfl (.tmp 83) (.tmp 85) rfl v.heap.size rfl (own_keep HO.out bup) rfl (by have h := sl_block (cs := f.v.cells) HL.out; rw [FloW.length] at h; exact Sl.below h bup) Flo.one (by unfold maxLen; omega) (by omega) (Nat.le_trans HB.out.size (bsz bup)) ?_); intro ad3 c3 wa hown__ hgr__ _ _; rw [← flosC_snoc] at hown__; replace HB := cEa HB bup hgr__ (ownBlock_ge HO.out); clear HO; have HO := Lib.hid hown__; clear hown__ hgr__ HL; simp only [PT])
          | ((with_reducible show wpList _ _ _ (⟨none, .store _ (.tmp 90) (.tmp 88), _, _, _, _⟩ :: _) _ _); go_must (refine wpL_storeF (cs := #[.int .i64 (room : Int), .slice ad1 n1 c1]) (T := 59) rfl 38 (.tmp 90) (.tmp 88) rfl r 1 (.slice ad3 (N2 + 1) c3) rfl rfl rfl (hatV HB HGv bup) (show (1 : Nat) < 2 by decide) (by kernel_rfl) #[.int .i64 (room : Int), .slice ad3 (N2 + 1) c3] rfl ?_); intro ws hs__ hr__; have HRS := Lib.hid hs__; have HRG := Lib.hid hr__; go_must (have HS4 := Lib.hid ((hr__.block g4 (lt_of_block (hatV HB HV4 bup)) (fun e => l4 (Option.some.inj e).symm)).trans (hatV HB HV4 bup))); go_must (have HS7 := Lib.hid ((hr__.block g7 (lt_of_block (hatV HB HV7 bup)) (fun e => l7 (Option.some.inj e).symm)).trans (hatV HB HV7 bup))); clear hs__ hr__; simp only [PT])
          | ((with_reducible refine sl 91 ?_); go_must (refine wpL_load rfl 28 (.tmp 7) rfl g7 0 rfl (zeroW).v.cells _ (range_block HS7.out) Try.underlying28 rfl (one_size (zeroW)) ?_); simp only [PT])
          | ((with_reducible show wpList _ _ _ (⟨none, .store _ (.tmp 4) _, _, _, _, _⟩ :: _) _ _); go_must (refine wpL_storeRowF rfl (.tmp 4) (.tmp 91) rfl g4 (zeroW) zeroW rfl rfl HS4.out ?_); intro w99 hs__ hr__; have HF4 := Lib.hid hs__; have HFG := Lib.hid hr__; clear hs__ hr__; simp only [PT]))
        refine bodyPost_cell1x (cs := (zeroW).v.cells) rfl rfl (range_block HF4.out) Try.underlying28 rfl (one_size (zeroW)) rfl ?_
        have hLL : (L ++ [f]) = insF f ls1 := by
          have h1 := HDN.out
          have h2 := HLL.out
          rw [HN1.out, List.take_length] at h1 h2
          rw [insF_none f ls1 h1.symm, h2]
          unfold midF
          rw [← h1]
          rfl
        refine ⟨zeroW, false, insF f ls1, rfl, ?_, ((HBTv.out.trans (But.of_below (HB.out.trans (Below.mono bup HB.out.size)))).trans (But.of_p HRG.out)).own HFG.out L4.out, .inr (.inl ⟨rfl, rfl, HX0.out, HRM.out, by rw [HLS.out]⟩)⟩
        rw [← hLL]
        exact RT.of_own2 HRS.out (show N2 + 1 = (L ++ [f]).length by rw [List.length_append, ← HN2.out]; rfl) lrv (lt_of_block HV4.out) l4 (own_keep HO.out bup) HRG.out HFG.out (by rw [hLL, insF_len, ← HN1.out]; omega) hlov (Below.size (HB.out.trans (Below.mono bup HB.out.size)))
    have hlt : k < n1 := by omega
    have hkL : k < ls1.length := by rw [← HN1.out]; exact hlt
    obtain ⟨b, off, rfl, hbl, hat⟩ := HFv.out.at (by omega)
    obtain ⟨x, hx⟩ : ∃ x, x = ls1[k] := ⟨_, rfl⟩
    have HX := Lib.hid (show v.rangeAt b (off + k * 41) x.v.cells by rw [hx]; exact hat k hkL)
    have HXF := Lib.hid (right_fit (HRv.out x (by rw [hx]; exact List.getElem_mem hkL)))
    have HTK : Hid (ls1.take (k + 1) = ls1.take k ++ [x]) := Lib.hid (by rw [hx, takeF_snoc hkL])
    clear hat hx
    cases dn with
    | true =>
      have HM : Hid (L ++ [x] = midF f (ls1.take (k + 1))) := Lib.hid (by rw [HTK.out, midF_done f x _ HDN.out.symm, HLL.out])
      have HD2 : Hid (true = anyF f (ls1.take (k + 1))) := Lib.hid (by rw [HTK.out, anyF_snoc, ← HDN.out]; rfl)
      go_wp2_with (first
        | ((with_reducible refine sl 49 ?_); go_must (refine wpL_loadF rfl 38 (.tmp 48) rfl r 1 rfl (.slice (some ⟨b, off, none⟩) n1 c1) (hatV HB HGv bup) rfl Try.underlying38 rfl ?_); simp only [PT]))
      refine wp_region_held_drew (S := fun u__ => u__.cell? ⟨r, 1, none⟩ = some (.slice (some ⟨b, off, none⟩) n1 c1) ∧ u__.rangeAt b (off + k * 41) x.v.cells ∧ u__.rangeAt g3 0 f.v.cells) (by kernel_rfl) ?_ (fun hHeld => ?_)
      focus (exact ⟨cellV (hatV HB HGv bup) rfl, range_keep HX.out (HB.out.trans (Below.mono bup HB.out.size)), range_block (hatV HB HV3 bup)⟩)
      refine tk 0 (oi := ⟨some 54, _, _, _, _, _⟩) (v := ?_) rfl (by kernel_rfl) (.inl ⟨by rfl, ?_⟩) hHeld ?_; rotate_left; focus (intro w hSw; (try dsimp only at hSw); go_simp; try with_reducible rfl)
      simp only [PT]
      refine tk 1 (oi := ⟨some 55, _, _, _, _, _⟩) (v := ?_) rfl (by kernel_rfl) (.inl ⟨by rfl, ?_⟩) hHeld ?_; rotate_left; focus (intro w hSw; (try dsimp only at hSw); go_simp; try with_reducible rfl)
      simp only [PT]
      refine tk 2 (oi := ⟨some 56, _, _, _, _, _⟩) (v := ?_) rfl (by kernel_rfl) (.inl ⟨by rfl, ?_⟩) hHeld ?_; rotate_left; focus (intro w hSw; (try dsimp only at hSw); go_simp; try with_reducible rfl)
      simp only [PT]
      first | (refine tk 3 (oi := ⟨some 57, _, _, _, _, _⟩) (v := undef) rfl (by kernel_rfl) (.inr ⟨by rfl, rfl⟩) hHeld ?_) | (refine' tk 3 (oi := ⟨some 57, _, _, _, _, _⟩) (v := _) rfl (by kernel_rfl) (yieldsIf_load_mid (by rfl) _ _ rfl _ _ rfl (f.v.cells) _ (fun _ h => h.2.2) (Try.underlying28) rfl (one_size f)) hHeld ?_)
      simp only [PT]
      first | (refine tk 4 (oi := ⟨some 58, _, _, _, _, _⟩) (v := undef) rfl (by kernel_rfl) (.inr ⟨by rfl, rfl⟩) hHeld ?_) | (refine tk 4 (oi := ⟨some 58, _, _, _, _, _⟩) (v := ?_) rfl (by kernel_rfl) (.inl ⟨by rfl, ?_⟩) hHeld ?_; rotate_left; focus (intro w hSw; (try dsimp only at hSw); go_simp; try with_reducible rfl))
      simp only [PT]
      first | (refine tk 5 (oi := ⟨some 59, _, _, _, _, _⟩) (v := undef) rfl (by kernel_rfl) (.inr ⟨by rfl, rfl⟩) hHeld ?_) | (refine tk 5 (oi := ⟨some 59, _, _, _, _, _⟩) (v := ?_) rfl (by kernel_rfl) (.inl ⟨by rfl, ?_⟩) hHeld ?_; rotate_left; focus (intro w hSw; (try dsimp only at hSw); go_simp; try with_reducible rfl))
      simp only [PT]
      first | (refine tk 6 (oi := ⟨some 60, _, _, _, _, _⟩) (v := undef) rfl (by kernel_rfl) (.inr ⟨by rfl, rfl⟩) hHeld ?_) | (refine tk 6 (oi := ⟨some 60, _, _, _, _, _⟩) (v := ?_) rfl (by kernel_rfl) (.inl ⟨by rfl, ?_⟩) hHeld ?_; rotate_left; focus (intro w hSw; (try dsimp only at hSw); go_simp; try with_reducible rfl))
      simp only [PT]
      first | (refine tk 7 (oi := ⟨some 61, _, _, _, _, _⟩) (v := undef) rfl (by kernel_rfl) (.inr ⟨by rfl, rfl⟩) hHeld ?_) | (refine tk 7 (oi := ⟨some 61, _, _, _, _, _⟩) (v := ?_) rfl (by kernel_rfl) (.inl ⟨by rfl, ?_⟩) hHeld ?_; rotate_left; focus (intro w hSw; (try dsimp only at hSw); go_simp; try with_reducible rfl))
      simp only [PT]
      first | (refine tk 8 (oi := ⟨some 62, _, _, _, _, _⟩) (v := undef) rfl (by kernel_rfl) (.inr ⟨by rfl, rfl⟩) hHeld ?_) | (refine tk 8 (oi := ⟨some 62, _, _, _, _, _⟩) (v := ?_) rfl (by kernel_rfl) (.inl ⟨by rfl, ?_⟩) hHeld ?_; rotate_left; focus (intro w hSw; (try dsimp only at hSw); go_simp; try with_reducible rfl))
      simp only [PT]
      first | (refine tk 9 (oi := ⟨some 63, _, _, _, _, _⟩) (v := undef) rfl (by kernel_rfl) (.inr ⟨by rfl, rfl⟩) hHeld ?_) | (refine tk 9 (oi := ⟨some 63, _, _, _, _, _⟩) (v := ?_) rfl (by kernel_rfl) (.inl ⟨by rfl, ?_⟩) hHeld ?_; rotate_left; focus (intro w hSw; (try dsimp only at hSw); go_simp; try with_reducible rfl))
      simp only [PT]
      first | (refine tk 10 (oi := ⟨some 64, _, _, _, _, _⟩) (v := undef) rfl (by kernel_rfl) (.inr ⟨by rfl, rfl⟩) hHeld ?_) | (refine' tk 10 (oi := ⟨some 64, _, _, _, _, _⟩) (v := _) rfl (by kernel_rfl) (yieldsIf_load_mid (by rfl) _ _ rfl _ _ rfl (x.v.cells) _ (fun _ h => h.2.1) (Try.underlying28) rfl (one_size x)) hHeld ?_)
      simp only [PT]
      refine wpAnyH_ready (rs := [11]) (by kernel_rfl) (by simp) ?_
      refine (AllReadyH.cons (o := ⟨some 65, _, _, _, _, _⟩) rfl (fun K hK => ?_) AllReadyH.nil)
      focus (first | (refine skip_step ?_ ?_; focus (rfl)) | (go_simp; go_must (refine (refOlder_any f.v x.v f.ok x.ok HFF.out HXF.out _).mono ?_); rintro e w5 ⟨rfl, hb__⟩; have hE__ := cU HB bup hb__; replace HB := ck HB hE__; (try replace HO := ck HO hE__); clear hE__ hb__; go_wp2_with fail))
      refine hK.out _ _ ?_ (fun hHeld => ?_)
      focus (exact ⟨cellV (hatV HB HGv bup) rfl, range_keep HX.out (HB.out.trans (Below.mono bup HB.out.size)), range_block (hatV HB HV3 bup)⟩)
      clear hK K
      try simp only [PT]
      refine tk 12 (oi := ⟨some 66, _, _, _, _, _⟩) (v := ?_) rfl (by kernel_rfl) (.inl ⟨by rfl, ?_⟩) hHeld ?_; rotate_left; focus (intro w hSw; (try dsimp only at hSw); go_simp; try with_reducible rfl)
      simp only [PT]
      refine wpAnyH_done (by kernel_rfl) ?_ _
      go_wp2_with (first
        | ((with_reducible refine sl 75 ?_); go_must (refine wpL_loadF rfl 38 (.tmp 74) rfl r 1 rfl (.slice (some ⟨b, off, none⟩) n1 c1) (hatV HB HGv bup) rfl Try.underlying38 rfl ?_); simp only [PT])
        | ((with_reducible refine sl 78 ?_); go_must (refine wpL_load rfl 28 (.tmp 77) rfl b (off + k * 41) rfl x.v.cells _ (range_keep HX.out (HB.out.trans (Below.mono bup HB.out.size))) Try.underlying28 rfl (one_size x) ?_); simp only [PT])
        | ((with_reducible refine sl 79 ?_); go_must (refine wpL_lit1 rfl 38 28 (.tmp 78) rfl x.v.cells.toArray _ rfl 41 Try.underlying38 flo_info (by omega) (by omega) (fill_flow x) ?_); intro wl79 gL le_gL lt_gL hg__ hb__; have hE__ := cU HB bup hb__; replace HB := ck HB hE__; (try replace HO := ck HO hE__); clear hE__ hb__; have HL := Lib.hid hg__; clear hg__; simp only [PT])
        | ((with_reducible refine sl 80 ?_); go_must (refine wpL_append elFl rfl (.tmp 71) (.tmp 79) rfl v.heap.size rfl (own_keep HO.out bup) rfl (by have h := sl_block (cs := x.v.cells) HL.out; rw [FloW.length] at h; exact Sl.below h bup) Flo.one (by unfold maxLen; omega) (by omega) (Nat.le_trans HB.out.size (bsz bup)) ?_); intro ad3 c3 wa hown__ hgr__ _ _; rw [← flosC_snoc] at hown__; replace HB := cEa HB bup hgr__ (ownBlock_ge HO.out); clear HO; have HO := Lib.hid hown__; clear hown__ hgr__ HL; simp only [PT]))
      go_roundw
      case rel => exact ⟨k + 1, N2 + 1, L ++ [x], ad3, c3, true, by omega, by omega, rfl, rfl, by go_num, Lib.hid (by rw [List.length_append, ← HN2.out]; rfl), HM, HD2, HO, HB⟩
      case measure => first | (simp [intOf]; done) | (simp [intOf]; omega)
    | false =>
      have hN2k : N2 ≤ k := by have h := midF_len f (ls1.take k); rw [← HLL.out, ← HN2.out, ← HDN.out, List.length_take] at h; simp at h; omega
      rcases two (oldF f.v x.v) with hol | hol
      · have HOL := Lib.hid hol
        have HM : Hid (L ++ [f] ++ [x] = midF f (ls1.take (k + 1))) := Lib.hid (by rw [HTK.out, midF_here f x _ HDN.out.symm hol, HLL.out])
        have HD2 : Hid (true = anyF f (ls1.take (k + 1))) := Lib.hid (by rw [HTK.out, anyF_snoc, hol, Bool.or_true])
        clear hol
        go_wp2_with (first
          | ((with_reducible refine sl 49 ?_); go_must (refine wpL_loadF rfl 38 (.tmp 48) rfl r 1 rfl (.slice (some ⟨b, off, none⟩) n1 c1) (hatV HB HGv bup) rfl Try.underlying38 rfl ?_); simp only [PT]))
        refine wp_region_held_drew (S := fun u__ => u__.cell? ⟨r, 1, none⟩ = some (.slice (some ⟨b, off, none⟩) n1 c1) ∧ u__.rangeAt b (off + k * 41) x.v.cells ∧ u__.rangeAt g3 0 f.v.cells) (by kernel_rfl) ?_ (fun hHeld => ?_)
        focus (exact ⟨cellV (hatV HB HGv bup) rfl, range_keep HX.out (HB.out.trans (Below.mono bup HB.out.size)), range_block (hatV HB HV3 bup)⟩)
        refine tk 0 (oi := ⟨some 54, _, _, _, _, _⟩) (v := ?_) rfl (by kernel_rfl) (.inl ⟨by rfl, ?_⟩) hHeld ?_; rotate_left; focus (intro w hSw; (try dsimp only at hSw); go_simp; try with_reducible rfl)
        simp only [PT]
        refine tk 1 (oi := ⟨some 55, _, _, _, _, _⟩) (v := ?_) rfl (by kernel_rfl) (.inl ⟨by rfl, ?_⟩) hHeld ?_; rotate_left; focus (intro w hSw; (try dsimp only at hSw); go_simp; try with_reducible rfl)
        simp only [PT]
        refine tk 2 (oi := ⟨some 56, _, _, _, _, _⟩) (v := ?_) rfl (by kernel_rfl) (.inl ⟨by rfl, ?_⟩) hHeld ?_; rotate_left; focus (intro w hSw; (try dsimp only at hSw); go_simp; try with_reducible rfl)
        simp only [PT]
        first | (refine tk 3 (oi := ⟨some 57, _, _, _, _, _⟩) (v := undef) rfl (by kernel_rfl) (.inr ⟨by rfl, rfl⟩) hHeld ?_) | (refine' tk 3 (oi := ⟨some 57, _, _, _, _, _⟩) (v := _) rfl (by kernel_rfl) (yieldsIf_load_mid (by rfl) _ _ rfl _ _ rfl (f.v.cells) _ (fun _ h => h.2.2) (Try.underlying28) rfl (one_size f)) hHeld ?_)
        simp only [PT]
        first | (refine tk 4 (oi := ⟨some 58, _, _, _, _, _⟩) (v := undef) rfl (by kernel_rfl) (.inr ⟨by rfl, rfl⟩) hHeld ?_) | (refine tk 4 (oi := ⟨some 58, _, _, _, _, _⟩) (v := ?_) rfl (by kernel_rfl) (.inl ⟨by rfl, ?_⟩) hHeld ?_; rotate_left; focus (intro w hSw; (try dsimp only at hSw); go_simp; try with_reducible rfl))
        simp only [PT]
        first | (refine tk 5 (oi := ⟨some 59, _, _, _, _, _⟩) (v := undef) rfl (by kernel_rfl) (.inr ⟨by rfl, rfl⟩) hHeld ?_) | (refine tk 5 (oi := ⟨some 59, _, _, _, _, _⟩) (v := ?_) rfl (by kernel_rfl) (.inl ⟨by rfl, ?_⟩) hHeld ?_; rotate_left; focus (intro w hSw; (try dsimp only at hSw); go_simp; try with_reducible rfl))
        simp only [PT]
        first | (refine tk 6 (oi := ⟨some 60, _, _, _, _, _⟩) (v := undef) rfl (by kernel_rfl) (.inr ⟨by rfl, rfl⟩) hHeld ?_) | (refine tk 6 (oi := ⟨some 60, _, _, _, _, _⟩) (v := ?_) rfl (by kernel_rfl) (.inl ⟨by rfl, ?_⟩) hHeld ?_; rotate_left; focus (intro w hSw; (try dsimp only at hSw); go_simp; try with_reducible rfl))
        simp only [PT]
        first | (refine tk 7 (oi := ⟨some 61, _, _, _, _, _⟩) (v := undef) rfl (by kernel_rfl) (.inr ⟨by rfl, rfl⟩) hHeld ?_) | (refine tk 7 (oi := ⟨some 61, _, _, _, _, _⟩) (v := ?_) rfl (by kernel_rfl) (.inl ⟨by rfl, ?_⟩) hHeld ?_; rotate_left; focus (intro w hSw; (try dsimp only at hSw); go_simp; try with_reducible rfl))
        simp only [PT]
        first | (refine tk 8 (oi := ⟨some 62, _, _, _, _, _⟩) (v := undef) rfl (by kernel_rfl) (.inr ⟨by rfl, rfl⟩) hHeld ?_) | (refine tk 8 (oi := ⟨some 62, _, _, _, _, _⟩) (v := ?_) rfl (by kernel_rfl) (.inl ⟨by rfl, ?_⟩) hHeld ?_; rotate_left; focus (intro w hSw; (try dsimp only at hSw); go_simp; try with_reducible rfl))
        simp only [PT]
        first | (refine tk 9 (oi := ⟨some 63, _, _, _, _, _⟩) (v := undef) rfl (by kernel_rfl) (.inr ⟨by rfl, rfl⟩) hHeld ?_) | (refine tk 9 (oi := ⟨some 63, _, _, _, _, _⟩) (v := ?_) rfl (by kernel_rfl) (.inl ⟨by rfl, ?_⟩) hHeld ?_; rotate_left; focus (intro w hSw; (try dsimp only at hSw); go_simp; try with_reducible rfl))
        simp only [PT]
        first | (refine tk 10 (oi := ⟨some 64, _, _, _, _, _⟩) (v := undef) rfl (by kernel_rfl) (.inr ⟨by rfl, rfl⟩) hHeld ?_) | (refine' tk 10 (oi := ⟨some 64, _, _, _, _, _⟩) (v := _) rfl (by kernel_rfl) (yieldsIf_load_mid (by rfl) _ _ rfl _ _ rfl (x.v.cells) _ (fun _ h => h.2.1) (Try.underlying28) rfl (one_size x)) hHeld ?_)
        simp only [PT]
        refine wpAnyH_ready (rs := [11]) (by kernel_rfl) (by simp) ?_
        refine (AllReadyH.cons (o := ⟨some 65, _, _, _, _, _⟩) rfl (fun K hK => ?_) AllReadyH.nil)
        focus (first | (refine skip_step ?_ ?_; focus (rfl)) | (go_simp; go_must (refine (refOlder_any f.v x.v f.ok x.ok HFF.out HXF.out _).mono ?_); rw [HOL.out]; rintro e w5 ⟨rfl, hb__⟩; have hE__ := cU HB bup hb__; replace HB := ck HB hE__; (try replace HO := ck HO hE__); clear hE__ hb__; go_wp2_with fail))
        refine hK.out _ _ ?_ (fun hHeld => ?_)
        focus (exact ⟨cellV (hatV HB HGv bup) rfl, range_keep HX.out (HB.out.trans (Below.mono bup HB.out.size)), range_block (hatV HB HV3 bup)⟩)
        clear hK K
        try simp only [PT]
        refine tk 12 (oi := ⟨some 66, _, _, _, _, _⟩) (v := ?_) rfl (by kernel_rfl) (.inl ⟨by rfl, ?_⟩) hHeld ?_; rotate_left; focus (intro w hSw; (try dsimp only at hSw); go_simp; try with_reducible rfl)
        simp only [PT]
        refine wpAnyH_done (by kernel_rfl) ?_ _
        go_wp2_with (first
          | ((with_reducible refine sl 68 ?_); go_must (refine wpL_load rfl 28 (.tmp 3) rfl g3 0 rfl f.v.cells _ (range_block (hatV HB HV3 bup)) Try.underlying28 rfl (one_size f) ?_); simp only [PT])
          | ((with_reducible refine sl 69 ?_); go_must (refine wpL_lit1 rfl 38 28 (.tmp 68) rfl f.v.cells.toArray _ rfl 41 Try.underlying38 flo_info (by omega) (by omega) (fill_flow f) ?_); intro wl69 gL le_gL lt_gL hg__ hb__; have hE__ := cU HB bup hb__; replace HB := ck HB hE__; (try replace HO := ck HO hE__); clear hE__ hb__; have HL := Lib.hid hg__; clear hg__; simp only [PT])
          | ((with_reducible refine sl 70 ?_); go_must (refine wpL_append elFl rfl (.tmp 67) (.tmp 69) rfl v.heap.size rfl (own_keep HO.out bup) rfl (by have h := sl_block (cs := f.v.cells) HL.out; rw [FloW.length] at h; exact Sl.below h bup) Flo.one (by unfold maxLen; omega) (by omega) (Nat.le_trans HB.out.size (bsz bup)) ?_); intro ad3 c3 wa hown__ hgr__ _ _; rw [← flosC_snoc] at hown__; replace HB := cEa HB bup hgr__ (ownBlock_ge HO.out); clear HO; have HO := Lib.hid hown__; clear hown__ hgr__ HL; simp only [PT])
          | ((with_reducible refine sl 75 ?_); go_must (refine wpL_loadF rfl 38 (.tmp 74) rfl r 1 rfl (.slice (some ⟨b, off, none⟩) n1 c1) (hatV HB HGv bup) rfl Try.underlying38 rfl ?_); simp only [PT])
          | ((with_reducible refine sl 78 ?_); go_must (refine wpL_load rfl 28 (.tmp 77) rfl b (off + k * 41) rfl x.v.cells _ (range_keep HX.out (HB.out.trans (Below.mono bup HB.out.size))) Try.underlying28 rfl (one_size x) ?_); simp only [PT])
          | ((with_reducible refine sl 79 ?_); go_must (refine wpL_lit1 rfl 38 28 (.tmp 78) rfl x.v.cells.toArray _ rfl 41 Try.underlying38 flo_info (by omega) (by omega) (fill_flow x) ?_); intro wl79 gL le_gL lt_gL hg__ hb__; have hE__ := cU HB bup hb__; replace HB := ck HB hE__; (try replace HO := ck HO hE__); clear hE__ hb__; have HL := Lib.hid hg__; clear hg__; simp only [PT])
          | ((with_reducible refine sl 80 ?_); go_must (refine wpL_append elFl rfl (.tmp 71) (.tmp 79) rfl v.heap.size rfl (own_keep HO.out bup) rfl (by have h := sl_block (cs := x.v.cells) HL.out; rw [FloW.length] at h; exact Sl.below h bup) Flo.one (by unfold maxLen; omega) (by omega) (Nat.le_trans HB.out.size (bsz bup)) ?_); intro ad4 c4 wc hown__ hgr__ _ _; rw [← flosC_snoc] at hown__; replace HB := cEa HB bup hgr__ (ownBlock_ge HO.out); clear HO; have HO := Lib.hid hown__; clear hown__ hgr__ HL; simp only [PT]))
        go_roundw
        case rel => exact ⟨k + 1, N2 + 1 + 1, L ++ [f] ++ [x], ad4, c4, true, by omega, by omega, rfl, rfl, by go_num, Lib.hid (by rw [List.length_append, List.length_append, ← HN2.out]; rfl), HM, HD2, HO, HB⟩
        case measure => first | (simp [intOf]; done) | (simp [intOf]; omega)
      · have HOL := Lib.hid hol
        have HM : Hid (L ++ [x] = midF f (ls1.take (k + 1))) := Lib.hid (by rw [HTK.out, midF_not f x _ HDN.out.symm hol, HLL.out])
        have HD2 : Hid (false = anyF f (ls1.take (k + 1))) := Lib.hid (by rw [HTK.out, anyF_snoc, hol, ← HDN.out]; rfl)
        clear hol
        go_wp2_with (first
          | ((with_reducible refine sl 49 ?_); go_must (refine wpL_loadF rfl 38 (.tmp 48) rfl r 1 rfl (.slice (some ⟨b, off, none⟩) n1 c1) (hatV HB HGv bup) rfl Try.underlying38 rfl ?_); simp only [PT]))
        refine wp_region_held_drew (S := fun u__ => u__.cell? ⟨r, 1, none⟩ = some (.slice (some ⟨b, off, none⟩) n1 c1) ∧ u__.rangeAt b (off + k * 41) x.v.cells ∧ u__.rangeAt g3 0 f.v.cells) (by kernel_rfl) ?_ (fun hHeld => ?_)
        focus (exact ⟨cellV (hatV HB HGv bup) rfl, range_keep HX.out (HB.out.trans (Below.mono bup HB.out.size)), range_block (hatV HB HV3 bup)⟩)
        refine tk 0 (oi := ⟨some 54, _, _, _, _, _⟩) (v := ?_) rfl (by kernel_rfl) (.inl ⟨by rfl, ?_⟩) hHeld ?_; rotate_left; focus (intro w hSw; (try dsimp only at hSw); go_simp; try with_reducible rfl)
        simp only [PT]
        refine tk 1 (oi := ⟨some 55, _, _, _, _, _⟩) (v := ?_) rfl (by kernel_rfl) (.inl ⟨by rfl, ?_⟩) hHeld ?_; rotate_left; focus (intro w hSw; (try dsimp only at hSw); go_simp; try with_reducible rfl)
        simp only [PT]
        refine tk 2 (oi := ⟨some 56, _, _, _, _, _⟩) (v := ?_) rfl (by kernel_rfl) (.inl ⟨by rfl, ?_⟩) hHeld ?_; rotate_left; focus (intro w hSw; (try dsimp only at hSw); go_simp; try with_reducible rfl)
        simp only [PT]
        first | (refine tk 3 (oi := ⟨some 57, _, _, _, _, _⟩) (v := undef) rfl (by kernel_rfl) (.inr ⟨by rfl, rfl⟩) hHeld ?_) | (refine' tk 3 (oi := ⟨some 57, _, _, _, _, _⟩) (v := _) rfl (by kernel_rfl) (yieldsIf_load_mid (by rfl) _ _ rfl _ _ rfl (f.v.cells) _ (fun _ h => h.2.2) (Try.underlying28) rfl (one_size f)) hHeld ?_)
        simp only [PT]
        first | (refine tk 4 (oi := ⟨some 58, _, _, _, _, _⟩) (v := undef) rfl (by kernel_rfl) (.inr ⟨by rfl, rfl⟩) hHeld ?_) | (refine tk 4 (oi := ⟨some 58, _, _, _, _, _⟩) (v := ?_) rfl (by kernel_rfl) (.inl ⟨by rfl, ?_⟩) hHeld ?_; rotate_left; focus (intro w hSw; (try dsimp only at hSw); go_simp; try with_reducible rfl))
        simp only [PT]
        first | (refine tk 5 (oi := ⟨some 59, _, _, _, _, _⟩) (v := undef) rfl (by kernel_rfl) (.inr ⟨by rfl, rfl⟩) hHeld ?_) | (refine tk 5 (oi := ⟨some 59, _, _, _, _, _⟩) (v := ?_) rfl (by kernel_rfl) (.inl ⟨by rfl, ?_⟩) hHeld ?_; rotate_left; focus (intro w hSw; (try dsimp only at hSw); go_simp; try with_reducible rfl))
        simp only [PT]
        first | (refine tk 6 (oi := ⟨some 60, _, _, _, _, _⟩) (v := undef) rfl (by kernel_rfl) (.inr ⟨by rfl, rfl⟩) hHeld ?_) | (refine tk 6 (oi := ⟨some 60, _, _, _, _, _⟩) (v := ?_) rfl (by kernel_rfl) (.inl ⟨by rfl, ?_⟩) hHeld ?_; rotate_left; focus (intro w hSw; (try dsimp only at hSw); go_simp; try with_reducible rfl))
        simp only [PT]
        first | (refine tk 7 (oi := ⟨some 61, _, _, _, _, _⟩) (v := undef) rfl (by kernel_rfl) (.inr ⟨by rfl, rfl⟩) hHeld ?_) | (refine tk 7 (oi := ⟨some 61, _, _, _, _, _⟩) (v := ?_) rfl (by kernel_rfl) (.inl ⟨by rfl, ?_⟩) hHeld ?_; rotate_left; focus (intro w hSw; (try dsimp only at hSw); go_simp; try with_reducible rfl))
        simp only [PT]
        first | (refine tk 8 (oi := ⟨some 62, _, _, _, _, _⟩) (v := undef) rfl (by kernel_rfl) (.inr ⟨by rfl, rfl⟩) hHeld ?_) | (refine tk 8 (oi := ⟨some 62, _, _, _, _, _⟩) (v := ?_) rfl (by kernel_rfl) (.inl ⟨by rfl, ?_⟩) hHeld ?_; rotate_left; focus (intro w hSw; (try dsimp only at hSw); go_simp; try with_reducible rfl))
        simp only [PT]
        first | (refine tk 9 (oi := ⟨some 63, _, _, _, _, _⟩) (v := undef) rfl (by kernel_rfl) (.inr ⟨by rfl, rfl⟩) hHeld ?_) | (refine tk 9 (oi := ⟨some 63, _, _, _, _, _⟩) (v := ?_) rfl (by kernel_rfl) (.inl ⟨by rfl, ?_⟩) hHeld ?_; rotate_left; focus (intro w hSw; (try dsimp only at hSw); go_simp; try with_reducible rfl))
        simp only [PT]
        first | (refine tk 10 (oi := ⟨some 64, _, _, _, _, _⟩) (v := undef) rfl (by kernel_rfl) (.inr ⟨by rfl, rfl⟩) hHeld ?_) | (refine' tk 10 (oi := ⟨some 64, _, _, _, _, _⟩) (v := _) rfl (by kernel_rfl) (yieldsIf_load_mid (by rfl) _ _ rfl _ _ rfl (x.v.cells) _ (fun _ h => h.2.1) (Try.underlying28) rfl (one_size x)) hHeld ?_)
        simp only [PT]
        refine wpAnyH_ready (rs := [11]) (by kernel_rfl) (by simp) ?_
        refine (AllReadyH.cons (o := ⟨some 65, _, _, _, _, _⟩) rfl (fun K hK => ?_) AllReadyH.nil)
        focus (first | (refine skip_step ?_ ?_; focus (rfl)) | (go_simp; go_must (refine (refOlder_any f.v x.v f.ok x.ok HFF.out HXF.out _).mono ?_); rw [HOL.out]; rintro e w5 ⟨rfl, hb__⟩; have hE__ := cU HB bup hb__; replace HB := ck HB hE__; (try replace HO := ck HO hE__); clear hE__ hb__; go_wp2_with fail))
        refine hK.out _ _ ?_ (fun hHeld => ?_)
        focus (exact ⟨cellV (hatV HB HGv bup) rfl, range_keep HX.out (HB.out.trans (Below.mono bup HB.out.size)), range_block (hatV HB HV3 bup)⟩)
        clear hK K
        try simp only [PT]
        refine tk 12 (oi := ⟨some 66, _, _, _, _, _⟩) (v := ?_) rfl (by kernel_rfl) (.inl ⟨by rfl, ?_⟩) hHeld ?_; rotate_left; focus (intro w hSw; (try dsimp only at hSw); go_simp; try with_reducible rfl)
        simp only [PT]
        refine wpAnyH_done (by kernel_rfl) ?_ _
        go_wp2_with (first
          | ((with_reducible refine sl 75 ?_); go_must (refine wpL_loadF rfl 38 (.tmp 74) rfl r 1 rfl (.slice (some ⟨b, off, none⟩) n1 c1) (hatV HB HGv bup) rfl Try.underlying38 rfl ?_); simp only [PT])
          | ((with_reducible refine sl 78 ?_); go_must (refine wpL_load rfl 28 (.tmp 77) rfl b (off + k * 41) rfl x.v.cells _ (range_keep HX.out (HB.out.trans (Below.mono bup HB.out.size))) Try.underlying28 rfl (one_size x) ?_); simp only [PT])
          | ((with_reducible refine sl 79 ?_); go_must (refine wpL_lit1 rfl 38 28 (.tmp 78) rfl x.v.cells.toArray _ rfl 41 Try.underlying38 flo_info (by omega) (by omega) (fill_flow x) ?_); intro wl79 gL le_gL lt_gL hg__ hb__; have hE__ := cU HB bup hb__; replace HB := ck HB hE__; (try replace HO := ck HO hE__); clear hE__ hb__; have HL := Lib.hid hg__; clear hg__; simp only [PT])
          | ((with_reducible refine sl 80 ?_); go_must (refine wpL_append elFl rfl (.tmp 71) (.tmp 79) rfl v.heap.size rfl (own_keep HO.out bup) rfl (by have h := sl_block (cs := x.v.cells) HL.out; rw [FloW.length] at h; exact Sl.below h bup) Flo.one (by unfold maxLen; omega) (by omega) (Nat.le_trans HB.out.size (bsz bup)) ?_); intro ad3 c3 wa hown__ hgr__ _ _; rw [← flosC_snoc] at hown__; replace HB := cEa HB bup hgr__ (ownBlock_ge HO.out); clear HO; have HO := Lib.hid hown__; clear hown__ hgr__ HL; simp only [PT]))
        go_roundw
        case rel => exact ⟨k + 1, N2 + 1, L ++ [x], ad3, c3, false, by omega, by omega, rfl, rfl, by go_num, Lib.hid (by rw [List.length_append, ← HN2.out]; rfl), HM, HD2, HO, HB⟩
        case measure => first | (simp [intOf]; done) | (simp [intOf]; omega)
theorem rput_full (r lo room : Nat) (ls : List FloW) (f : FloW) (hr : rightF f.v = true) (hrl : ∀ x ∈ ls, rightF x.v = true) (hone : OneK ls) (hl8 : ls.length < 8192) (hx : ∀ x ∈ ls, x.v.key ≠ f.v.key) (hrm : room ≤ ls.length) (hr1 : 1 ≤ room) (w : World) (h : RT w r lo room ls) : Calls Try.prog 26 #[.pointer (some ⟨r, 0, none⟩), .agg f.v.cells.toArray] w (RPut r lo room ls f w) := by
  have HX0 := Lib.hid hx
  have HRM := Lib.hid hrm
  have h00 : 0 < ls.length := by omega
  have HTW := Lib.hid h
  obtain ⟨ad0, c0, k1, k2, _, k4, _⟩ := h
  obtain ⟨n0, hn0⟩ : ∃ n0, n0 = ls.length := ⟨_, rfl⟩
  rw [← hn0] at k1 k2 k4
  have hr0 : room ≤ n0 := by omega
  have h0n : 0 < n0 := by omega
  obtain ⟨b0, off0, rfl, hb0, hat0⟩ := k2.at h00
  obtain ⟨y, hy⟩ : ∃ y, y = ls[0] := ⟨_, rfl⟩
  have HY := Lib.hid (show w.rangeAt b0 (off0 + 0 * 41) y.v.cells by rw [hy]; exact hat0 0 h00)
  rw [Nat.zero_mul, Nat.add_zero] at HY
  have HG0 := Lib.hid k1
  have hle0 := k2.le
  have HYE := Lib.hid hy
  have h := HTW.out
  clear hx hrm hy hat0 k1 k2 k4 hn0 hb0
  have HT := Lib.hid h
  have HR := Lib.hid hr
  have hsz : f.v.name.size ≤ 140737488351232 := Nat.le_trans (right_size hr) (by decide)
  have HFF := Lib.hid (right_fit hr)
  have HRL := Lib.hid hrl
  have HK := Lib.hid hone
  have lr := h.lt
  have HIF := Lib.hid flo_info
  have HB := Lib.hid (Below.refl w.heap.size w)
  clear h hr hrl hone
  go_enter Try.func26, Try.ntmps26
  go_wp2_with (first
    | ((with_reducible refine sl 3 ?_); go_must (refine wpL_boxG rfl 28 (.tmp 1) rfl f.v.cells.toArray rfl ?_); intro wb3 g3 he__ le_3 lt_3 hg__ hb__; have L3 := Lib.hid le_3; have hE__ := cU HB bup hb__; replace HB := ck HB hE__; (try replace HT := ck HT hE__); clear hE__ hb__; have HG3 := Lib.hid hg__; clear hg__ he__; simp only [PT])
    | ((with_reducible refine sl 4 ?_); go_must (refine wpL_allocG rfl 28 rfl _ zeroF.cells.toArray 41 HIF.out rfl ?_); intro wb4 g4 he__ le_4 lt_4 hg__ hb__; have L4 : Hid (w.heap.size ≤ g4) := Lib.hid (Nat.le_trans HB.out.size le_4); have hE__ := cU HB bup hb__; replace HB := ck HB hE__; (try replace HG3 := ck HG3 hE__); (try replace HT := ck HT hE__); clear hE__ hb__; have HG4 := Lib.hid hg__; clear hg__ he__; simp only [PT])
    | ((with_reducible refine sl 13 ?_); go_must (refine wpL_load rfl 28 (.tmp 3) rfl g3 0 rfl f.v.cells _ (range_block HG3.out) Try.underlying28 rfl (one_size f) ?_); simp only [PT])
    | (go_at_call 14; go_must (refine (refRight_any f.v f.ok hsz _).mono ?_); rw [HR.out]; rintro e w3 ⟨rfl, hb__⟩; have hE__ := cU HB bup hb__; replace HB := ck HB hE__; (try replace HG3 := ck HG3 hE__); (try replace HG4 := ck HG4 hE__); (try replace HT := ck HT hE__); clear hE__ hb__)
    | ((with_reducible refine sl 17 ?_); go_must (refine wpL_build rfl 28 #[] rfl [] rfl zeroF.cells.toArray zero_flow ?_); simp only [PT])
    | ((with_reducible refine sl 7 ?_); go_must (refine wpL_newG rfl rfl 28 rfl (.tmp 7) (.tmp 17) rfl (zeroF.cells).toArray zeroF.cells.toArray (new_info (Flo.length zeroF_ok)) (new_size (Flo.length zeroF_ok)) (flo_one _) (fun _ => rfl) (fun _ => rfl) ?_); intro wn7 g7 le_7 hg__ hb__; go_must (have l47 : g4 ≠ g7 := (by have := lt_of_block HG4.out; omega)); have l37 : g3 ≠ g7 := (by have := lt_of_block HG3.out; omega); go_must (have L7 := Lib.hid (show w.heap.size ≤ g7 from Nat.le_trans HB.out.size le_7)); have hE__ := cU HB bup hb__; replace HB := ck HB hE__; (try replace HG3 := ck HG3 hE__); (try replace HG4 := ck HG4 hE__); (try replace HT := ck HT hE__); clear hE__ hb__; have HG7 := Lib.hid hg__; clear hg__; simp only [PT])
    | ((with_reducible refine sl 20 ?_); go_must (refine wpL_load rfl 26 (.tmp 19) rfl g3 0 rfl f.v.key.cells _ (range_key (range_block HG3.out)) Try.underlying26 rfl (tup_len f) ?_); simp only [PT])
    | (go_at_call 30; go_must (refine (rfind_any r lo room ls f _ (HT.out.keep bup)).mono ?_); rintro e w5 ⟨⟨i, rfl, hi⟩, hb__⟩; have hE__ := cU HB bup hb__; replace HB := ck HB hE__; (try replace HG3 := ck HG3 hE__); (try replace HG4 := ck HG4 hE__); (try replace HG7 := ck HG7 hE__); (try replace HT := ck HT hE__); clear hE__ hb__; go_must (rcases hi with ⟨rfl, hno⟩ | ⟨k, rfl, hk, hkk⟩); go_must (rotate_left); go_must (focus (exact absurd hkk (HX0.out _ (List.getElem_mem hk)))); clear hno))
  refine wp_region_held_drew (S := fun u__ => u__.cell? ⟨r, 1, none⟩ = some (.slice (some ⟨b0, off0, none⟩) n0 c0) ∧ u__.cell? ⟨r, 0, none⟩ = some (.int .i64 (room : Int))) (by kernel_rfl) ?_ (fun hHeld => ?_)
  focus (exact ⟨cellV (hatV HB HG0 bup) rfl, cellV (hatV HB HG0 bup) rfl⟩)
  refine tk 0 (oi := ⟨some 27, _, _, _, _, _⟩) (v := ?_) rfl (by kernel_rfl) (.inl ⟨by rfl, ?_⟩) hHeld ?_; rotate_left; focus (intro w hSw; (try dsimp only at hSw); go_simp; try with_reducible rfl)
  simp only [PT]
  refine tk 1 (oi := ⟨some 28, _, _, _, _, _⟩) (v := ?_) rfl (by kernel_rfl) (.inl ⟨by rfl, ?_⟩) hHeld ?_; rotate_left; focus (intro w hSw; (try dsimp only at hSw); go_simp; try with_reducible rfl)
  simp only [PT]
  refine tk 2 (oi := ⟨some 29, _, _, _, _, _⟩) (v := ?_) rfl (by kernel_rfl) (.inl ⟨by rfl, ?_⟩) hHeld ?_; rotate_left; focus (intro w hSw; (try dsimp only at hSw); go_simp; try with_reducible rfl)
  simp only [PT]
  refine tk 3 (oi := ⟨some 30, _, _, _, _, _⟩) (v := ?_) rfl (by kernel_rfl) (.inl ⟨by rfl, ?_⟩) hHeld ?_; rotate_left; focus (intro w hSw; (try dsimp only at hSw); go_simp; try with_reducible rfl)
  simp only [PT]
  refine tk 4 (oi := ⟨some 31, _, _, _, _, _⟩) (v := ?_) rfl (by kernel_rfl) (.inl ⟨by rfl, ?_⟩) hHeld ?_; rotate_left; focus (intro w hSw; (try dsimp only at hSw); go_simp; try with_reducible rfl)
  simp only [PT]
  refine tk 5 (oi := ⟨some 32, _, _, _, _, _⟩) (v := ?_) rfl (by kernel_rfl) (.inl ⟨by rfl, ?_⟩) hHeld ?_; rotate_left; focus (intro w hSw; (try dsimp only at hSw); go_simp; try with_reducible rfl)
  simp only [PT]
  refine tk 6 (oi := ⟨some 33, _, _, _, _, _⟩) (v := ?_) rfl (by kernel_rfl) (.inl ⟨by rfl, ?_⟩) hHeld ?_; rotate_left; focus (intro w hSw; (try dsimp only at hSw); go_simp; try with_reducible rfl)
  simp only [PT]
  refine tk 7 (oi := ⟨some 34, _, _, _, _, _⟩) (v := ?_) rfl (by kernel_rfl) (.inl ⟨by rfl, ?_⟩) hHeld ?_; rotate_left; focus (intro w hSw; (try dsimp only at hSw); go_simp; try with_reducible rfl)
  simp only [PT]
  refine tk 8 (oi := ⟨some 35, _, _, _, _, _⟩) (v := ?_) rfl (by kernel_rfl) (.inl ⟨by rfl, ?_⟩) hHeld ?_; rotate_left; focus (intro w hSw; (try dsimp only at hSw); go_simp; try with_reducible rfl)
  simp only [PT]
  refine' tk 9 (oi := ⟨some 36, _, _, _, _, _⟩) (v := (.bool true)) rfl (by kernel_rfl) (.inl ⟨by rfl, ?_⟩) hHeld ?_; focus (intro w hSw; (try dsimp only at hSw); go_simp; first | done | rfl | omega | (simp [*]; done) | (simp [*]; omega))
  simp only [PT]
  refine wpAnyH_done (by kernel_rfl) ?_ _
  go_wp2_with (first
    | ((with_reducible refine sl 40 ?_); go_must (refine wpL_loadF rfl 38 (.tmp 39) rfl r 1 rfl (.slice (some ⟨b0, off0, none⟩) n0 c0) (hatV HB HG0 bup) rfl Try.underlying38 rfl ?_); simp only [PT])
    | ((with_reducible refine sl 42 ?_); go_must (refine wpL_load rfl 28 (.tmp 41) rfl b0 off0 rfl y.v.cells _ (range_keep HY.out (HB.out.trans (Below.mono bup HB.out.size))) Try.underlying28 rfl (one_size y) ?_); simp only [PT])
    | ((with_reducible show wpList _ _ _ (⟨none, .store _ (.tmp 7) (.tmp 42), _, _, _, _⟩ :: _) _ _); go_must (refine wpL_storeRowF rfl (.tmp 7) (.tmp 42) rfl g7 y zeroW rfl rfl (hatB HG7 bup) ?_); intro w7s hs__ hr__; go_must (have HG3n := Lib.hid ((hr__.block g3 (lt_of_block (hatB HG3 bup)) (fun e => l37 (Option.some.inj e))).trans (hatB HG3 bup))); go_must (have HG4n := Lib.hid ((hr__.block g4 (lt_of_block (hatB HG4 bup)) (fun e => l47 (Option.some.inj e))).trans (hatB HG4 bup))); go_must (replace HB := cEa HB bup hr__ (fun k e => by cases e; exact L7.out)); clear HG3 HG4 HG7; have HG3 := HG3n; have HG4 := HG4n; have HG7 := Lib.hid hs__; clear hs__ hr__ HG3n HG4n; simp only [PT])
    | (go_at_call 43; go_must (refine (rcut_any r lo room ls 0 h00 _ (HTW.out.keep (HB.out.trans (Below.mono bup HB.out.size)))).mono ?_); rintro e v ⟨rfl, hr, hb⟩; have HTv := Lib.hid hr; go_must (have HBTv := Lib.hid ((But.of_below (p := r) (q := r) (HB.out.trans (Below.mono bup HB.out.size))).trans hb)); go_must (have HV3 := Lib.hid (hb.keep (hatB HG3 bup) (by have := L3.out; omega) (by have := L3.out; omega))); go_must (have HV4 := Lib.hid (hb.keep (hatB HG4 bup) (by have := L4.out; omega) (by have := L4.out; omega))); go_must (have HV7 := Lib.hid (hb.keep (hatB HG7 bup) (by have := L7.out; omega) (by have := L7.out; omega))); go_must (clear hr hb HG3 HG4 HG7 HT HB)))
  obtain ⟨ad1, c1, h1, h2, _, h4, hlov⟩ := HTv.out
  obtain ⟨ls1, hls1⟩ : ∃ l, l = ls.eraseIdx 0 := ⟨_, rfl⟩
  rw [← hls1] at h1 h2 h4
  obtain ⟨n1, hn1'⟩ : ∃ n1, n1 = ls1.length := ⟨_, rfl⟩
  rw [← hn1'] at h1 h2 h4
  have hn1 : n1 < 8192 := by have := List.length_eraseIdx_le (l := ls) (i := 0); rw [hn1', hls1]; omega
  have hle1 := h2.le
  have HGv := Lib.hid h1
  have HFv := Lib.hid h2
  have HN1 := Lib.hid hn1'
  have lrv := lt_of_block h1
  have l4 : r ≠ g4 := by have := L4.out; omega
  have l7 : r ≠ g7 := by have := L7.out; omega
  have HRv : Hid (∀ x ∈ ls1, rightF x.v = true) := Lib.hid (fun x hx => HRL.out x (by rw [hls1] at hx; exact List.mem_of_mem_eraseIdx hx))
  have HLS := Lib.hid hls1
  clear h1 h2 h4 hn1' hls1 HTv
  have HB := Lib.hid (Below.refl v.heap.size v)
  go_loopw [10, 11, 12] (fun o d i' wr => ∃ (k N2 : Nat) (L : List FloW) (ad2 : Option Addr) (c2 : Nat) (dn : Bool), k ≤ n1 ∧ N2 ≤ k + 1 ∧ o = .slice ad2 N2 c2 ∧ d = .bool dn ∧ i' = .int .i64 (k : Int) ∧ Hid (N2 = L.length) ∧ Hid (L = midF f (ls1.take k)) ∧ Hid (dn = anyF f (ls1.take k)) ∧ Hid (wr.ownsRow v.heap.size 28 41 (.slice ad2 N2 c2) N2 (flosC L)) ∧ Hid (Below v.heap.size v wr)) (fun _ _ i' _ => n1 - (intOf i').toNat)
  case atStart => exact ⟨0, 0, [], none, 0, false, by omega, by omega, rfl, rfl, rfl, Lib.hid rfl, Lib.hid rfl, Lib.hid rfl, Lib.hid (World.ownsRow_nil _ _ _ _), Lib.hid (HB.out.trans (Below.mono bup HB.out.size))⟩
  case round =>
    clear HB
    obtain ⟨k, N2, L, ad2, c2, dn, hk, hN2, rfl, rfl, rfl, HN2, HLL, HDN, HO, HB⟩ := hrel
    by_cases hend : k = n1
    · subst k
      cases dn with
      | true =>
        go_wp2_with (first
          | ((with_reducible refine sl 49 ?_); go_must (refine wpL_loadF rfl 38 (.tmp 48) rfl r 1 rfl (.slice ad1 n1 c1) (hatV HB HGv bup) rfl Try.underlying38 rfl ?_); simp only [PT])
          | ((with_reducible show wpList _ _ _ (⟨none, .store _ (.tmp 90) (.tmp 88), _, _, _, _⟩ :: _) _ _); go_must (refine wpL_storeF (cs := #[.int .i64 (room : Int), .slice ad1 n1 c1]) (T := 59) rfl 38 (.tmp 90) (.tmp 88) rfl r 1 (.slice ad2 N2 c2) rfl rfl rfl (hatV HB HGv bup) (show (1 : Nat) < 2 by decide) (by kernel_rfl) #[.int .i64 (room : Int), .slice ad2 N2 c2] rfl ?_); intro ws hs__ hr__; have HRS := Lib.hid hs__; have HRG := Lib.hid hr__; go_must (have HS4 := Lib.hid ((hr__.block g4 (lt_of_block (hatV HB HV4 bup)) (fun e => l4 (Option.some.inj e).symm)).trans (hatV HB HV4 bup))); go_must (have HS7 := Lib.hid ((hr__.block g7 (lt_of_block (hatV HB HV7 bup)) (fun e => l7 (Option.some.inj e).symm)).trans (hatV HB HV7 bup))); clear hs__ hr__; simp only [PT])
          | ((with_reducible refine sl 91 ?_); go_must (refine wpL_load rfl 28 (.tmp 7) rfl g7 0 rfl (y).v.cells _ (range_block HS7.out) Try.underlying28 rfl (one_size (y)) ?_); simp only [PT])
          | ((with_reducible show wpList _ _ _ (⟨none, .store _ (.tmp 4) _, _, _, _, _⟩ :: _) _ _); go_must (refine wpL_storeRowF rfl (.tmp 4) (.tmp 91) rfl g4 (y) zeroW rfl rfl HS4.out ?_); intro w99 hs__ hr__; have HF4 := Lib.hid hs__; have HFG := Lib.hid hr__; clear hs__ hr__; simp only [PT]))
        refine bodyPost_cell1x (cs := (y).v.cells) rfl rfl (range_block HF4.out) Try.underlying28 rfl (one_size (y)) rfl ?_
        have hLL : L = insF f ls1 := by
          have h1 := HDN.out
          have h2 := HLL.out
          rw [HN1.out, List.take_length] at h1 h2
          rw [h2]
          unfold midF
          rw [← h1]
          rfl
        refine ⟨y, true, insF f ls1, rfl, ?_, ((HBTv.out.trans (But.of_below (HB.out.trans (Below.mono bup HB.out.size)))).trans (But.of_p HRG.out)).own HFG.out L4.out, .inr (.inr ⟨rfl, HX0.out, HRM.out, by rw [HLS.out, List.eraseIdx_zero], h00, HYE.out⟩)⟩
        rw [← hLL]
        exact RT.of_own2 HRS.out HN2.out lrv (lt_of_block HV4.out) l4 (own_keep HO.out bup) HRG.out HFG.out (by rw [hLL, insF_len, ← HN1.out]; omega) hlov (Below.size (HB.out.trans (Below.mono bup HB.out.size)))
      | false =>
        go_wp2_with (first
          | ((with_reducible refine sl 49 ?_); go_must (refine wpL_loadF rfl 38 (.tmp 48) rfl r 1 rfl (.slice ad1 n1 c1) (hatV HB HGv bup) rfl Try.underlying38 rfl ?_); simp only [PT])
          | ((with_reducible refine sl 84 ?_); go_must (refine wpL_load rfl 28 (.tmp 3) rfl g3 0 rfl f.v.cells _ (range_block (hatV HB HV3 bup)) Try.underlying28 rfl (one_size f) ?_); simp only [PT])
          | ((with_reducible refine sl 85 ?_); go_must (refine wpL_lit1 rfl 38 28 (.tmp 84) rfl f.v.cells.toArray _ rfl 41 Try.underlying38 flo_info (by omega) (by omega) (fill_flow f) ?_); intro wl85 gL le_gL lt_gL hg__ hb__; have hE__ := cU HB bup hb__; replace HB := ck HB hE__; (try replace HO := ck HO hE__); clear hE__ hb__; have HL := Lib.hid hg__; clear hg__; simp only [PT])
          | ((with_reducible refine sl 86 ?_); go_must (refine wpL_append elFl rfl (.tmp 83) (.tmp 85) rfl v.heap.size rfl (own_keep HO.out bup) rfl (by have h := sl_block (cs := f.v.cells) HL.out; rw [FloW.length] at h; exact Sl.below h bup) Flo.one (by unfold maxLen; omega) (by omega) (Nat.le_trans HB.out.size (bsz bup)) ?_); intro ad3 c3 wa hown__ hgr__ _ _; rw [← flosC_snoc] at hown__; replace HB := cEa HB bup hgr__ (ownBlock_ge HO.out); clear HO; have HO := Lib.hid hown__; clear hown__ hgr__ HL; simp only [PT])
          | ((with_reducible show wpList _ _ _ (⟨none, .store _ (.tmp 90) (.tmp 88), _, _, _, _⟩ :: _) _ _); go_must (refine wpL_storeF (cs := #[.int .i64 (room : Int), .slice ad1 n1 c1]) (T := 59) rfl 38 (.tmp 90) (.tmp 88) rfl r 1 (.slice ad3 (N2 + 1) c3) rfl rfl rfl (hatV HB HGv bup) (show (1 : Nat) < 2 by decide) (by kernel_rfl) #[.int .i64 (room : Int), .slice ad3 (N2 + 1) c3] rfl ?_); intro ws hs__ hr__; have HRS := Lib.hid hs__; have HRG := Lib.hid hr__; go_must (have HS4 := Lib.hid ((hr__.block g4 (lt_of_block (hatV HB HV4 bup)) (fun e => l4 (Option.some.inj e).symm)).trans (hatV HB HV4 bup))); go_must (have HS7 := Lib.hid ((hr__.block g7 (lt_of_block (hatV HB HV7 bup)) (fun e => l7 (Option.some.inj e).symm)).trans (hatV HB HV7 bup))); clear hs__ hr__; simp only [PT])
          | ((with_reducible refine sl 91 ?_); go_must (refine wpL_load rfl 28 (.tmp 7) rfl g7 0 rfl (y).v.cells _ (range_block HS7.out) Try.underlying28 rfl (one_size (y)) ?_); simp only [PT])
          | ((with_reducible show wpList _ _ _ (⟨none, .store _ (.tmp 4) _, _, _, _, _⟩ :: _) _ _); go_must (refine wpL_storeRowF rfl (.tmp 4) (.tmp 91) rfl g4 (y) zeroW rfl rfl HS4.out ?_); intro w99 hs__ hr__; have HF4 := Lib.hid hs__; have HFG := Lib.hid hr__; clear hs__ hr__; simp only [PT]))
        refine bodyPost_cell1x (cs := (y).v.cells) rfl rfl (range_block HF4.out) Try.underlying28 rfl (one_size (y)) rfl ?_
        have hLL : (L ++ [f]) = insF f ls1 := by
          have h1 := HDN.out
          have h2 := HLL.out
          rw [HN1.out, List.take_length] at h1 h2
          rw [insF_none f ls1 h1.symm, h2]
          unfold midF
          rw [← h1]
          rfl
        refine ⟨y, true, insF f ls1, rfl, ?_, ((HBTv.out.trans (But.of_below (HB.out.trans (Below.mono bup HB.out.size)))).trans (But.of_p HRG.out)).own HFG.out L4.out, .inr (.inr ⟨rfl, HX0.out, HRM.out, by rw [HLS.out, List.eraseIdx_zero], h00, HYE.out⟩)⟩
        rw [← hLL]
        exact RT.of_own2 HRS.out (show N2 + 1 = (L ++ [f]).length by rw [List.length_append, ← HN2.out]; rfl) lrv (lt_of_block HV4.out) l4 (own_keep HO.out bup) HRG.out HFG.out (by rw [hLL, insF_len, ← HN1.out]; omega) hlov (Below.size (HB.out.trans (Below.mono bup HB.out.size)))
    have hlt : k < n1 := by omega
    have hkL : k < ls1.length := by rw [← HN1.out]; exact hlt
    obtain ⟨b, off, rfl, hbl, hat⟩ := HFv.out.at (by omega)
    obtain ⟨x, hx⟩ : ∃ x, x = ls1[k] := ⟨_, rfl⟩
    have HX := Lib.hid (show v.rangeAt b (off + k * 41) x.v.cells by rw [hx]; exact hat k hkL)
    have HXF := Lib.hid (right_fit (HRv.out x (by rw [hx]; exact List.getElem_mem hkL)))
    have HTK : Hid (ls1.take (k + 1) = ls1.take k ++ [x]) := Lib.hid (by rw [hx, takeF_snoc hkL])
    clear hat hx
    cases dn with
    | true =>
      have HM : Hid (L ++ [x] = midF f (ls1.take (k + 1))) := Lib.hid (by rw [HTK.out, midF_done f x _ HDN.out.symm, HLL.out])
      have HD2 : Hid (true = anyF f (ls1.take (k + 1))) := Lib.hid (by rw [HTK.out, anyF_snoc, ← HDN.out]; rfl)
      go_wp2_with (first
        | ((with_reducible refine sl 49 ?_); go_must (refine wpL_loadF rfl 38 (.tmp 48) rfl r 1 rfl (.slice (some ⟨b, off, none⟩) n1 c1) (hatV HB HGv bup) rfl Try.underlying38 rfl ?_); simp only [PT]))
      refine wp_region_held_drew (S := fun u__ => u__.cell? ⟨r, 1, none⟩ = some (.slice (some ⟨b, off, none⟩) n1 c1) ∧ u__.rangeAt b (off + k * 41) x.v.cells ∧ u__.rangeAt g3 0 f.v.cells) (by kernel_rfl) ?_ (fun hHeld => ?_)
      focus (exact ⟨cellV (hatV HB HGv bup) rfl, range_keep HX.out (HB.out.trans (Below.mono bup HB.out.size)), range_block (hatV HB HV3 bup)⟩)
      refine tk 0 (oi := ⟨some 54, _, _, _, _, _⟩) (v := ?_) rfl (by kernel_rfl) (.inl ⟨by rfl, ?_⟩) hHeld ?_; rotate_left; focus (intro w hSw; (try dsimp only at hSw); go_simp; try with_reducible rfl)
      simp only [PT]
      refine tk 1 (oi := ⟨some 55, _, _, _, _, _⟩) (v := ?_) rfl (by kernel_rfl) (.inl ⟨by rfl, ?_⟩) hHeld ?_; rotate_left; focus (intro w hSw; (try dsimp only at hSw); go_simp; try with_reducible rfl)
      simp only [PT]
      refine tk 2 (oi := ⟨some 56, _, _, _, _, _⟩) (v := ?_) rfl (by kernel_rfl) (.inl ⟨by rfl, ?_⟩) hHeld ?_; rotate_left; focus (intro w hSw; (try dsimp only at hSw); go_simp; try with_reducible rfl)
      simp only [PT]
      first | (refine tk 3 (oi := ⟨some 57, _, _, _, _, _⟩) (v := undef) rfl (by kernel_rfl) (.inr ⟨by rfl, rfl⟩) hHeld ?_) | (refine' tk 3 (oi := ⟨some 57, _, _, _, _, _⟩) (v := _) rfl (by kernel_rfl) (yieldsIf_load_mid (by rfl) _ _ rfl _ _ rfl (f.v.cells) _ (fun _ h => h.2.2) (Try.underlying28) rfl (one_size f)) hHeld ?_)
      simp only [PT]
      first | (refine tk 4 (oi := ⟨some 58, _, _, _, _, _⟩) (v := undef) rfl (by kernel_rfl) (.inr ⟨by rfl, rfl⟩) hHeld ?_) | (refine tk 4 (oi := ⟨some 58, _, _, _, _, _⟩) (v := ?_) rfl (by kernel_rfl) (.inl ⟨by rfl, ?_⟩) hHeld ?_; rotate_left; focus (intro w hSw; (try dsimp only at hSw); go_simp; try with_reducible rfl))
      simp only [PT]
      first | (refine tk 5 (oi := ⟨some 59, _, _, _, _, _⟩) (v := undef) rfl (by kernel_rfl) (.inr ⟨by rfl, rfl⟩) hHeld ?_) | (refine tk 5 (oi := ⟨some 59, _, _, _, _, _⟩) (v := ?_) rfl (by kernel_rfl) (.inl ⟨by rfl, ?_⟩) hHeld ?_; rotate_left; focus (intro w hSw; (try dsimp only at hSw); go_simp; try with_reducible rfl))
      simp only [PT]
      first | (refine tk 6 (oi := ⟨some 60, _, _, _, _, _⟩) (v := undef) rfl (by kernel_rfl) (.inr ⟨by rfl, rfl⟩) hHeld ?_) | (refine tk 6 (oi := ⟨some 60, _, _, _, _, _⟩) (v := ?_) rfl (by kernel_rfl) (.inl ⟨by rfl, ?_⟩) hHeld ?_; rotate_left; focus (intro w hSw; (try dsimp only at hSw); go_simp; try with_reducible rfl))
      simp only [PT]
      first | (refine tk 7 (oi := ⟨some 61, _, _, _, _, _⟩) (v := undef) rfl (by kernel_rfl) (.inr ⟨by rfl, rfl⟩) hHeld ?_) | (refine tk 7 (oi := ⟨some 61, _, _, _, _, _⟩) (v := ?_) rfl (by kernel_rfl) (.inl ⟨by rfl, ?_⟩) hHeld ?_; rotate_left; focus (intro w hSw; (try dsimp only at hSw); go_simp; try with_reducible rfl))
      simp only [PT]
      first | (refine tk 8 (oi := ⟨some 62, _, _, _, _, _⟩) (v := undef) rfl (by kernel_rfl) (.inr ⟨by rfl, rfl⟩) hHeld ?_) | (refine tk 8 (oi := ⟨some 62, _, _, _, _, _⟩) (v := ?_) rfl (by kernel_rfl) (.inl ⟨by rfl, ?_⟩) hHeld ?_; rotate_left; focus (intro w hSw; (try dsimp only at hSw); go_simp; try with_reducible rfl))
      simp only [PT]
      first | (refine tk 9 (oi := ⟨some 63, _, _, _, _, _⟩) (v := undef) rfl (by kernel_rfl) (.inr ⟨by rfl, rfl⟩) hHeld ?_) | (refine tk 9 (oi := ⟨some 63, _, _, _, _, _⟩) (v := ?_) rfl (by kernel_rfl) (.inl ⟨by rfl, ?_⟩) hHeld ?_; rotate_left; focus (intro w hSw; (try dsimp only at hSw); go_simp; try with_reducible rfl))
      simp only [PT]
      first | (refine tk 10 (oi := ⟨some 64, _, _, _, _, _⟩) (v := undef) rfl (by kernel_rfl) (.inr ⟨by rfl, rfl⟩) hHeld ?_) | (refine' tk 10 (oi := ⟨some 64, _, _, _, _, _⟩) (v := _) rfl (by kernel_rfl) (yieldsIf_load_mid (by rfl) _ _ rfl _ _ rfl (x.v.cells) _ (fun _ h => h.2.1) (Try.underlying28) rfl (one_size x)) hHeld ?_)
      simp only [PT]
      refine wpAnyH_ready (rs := [11]) (by kernel_rfl) (by simp) ?_
      refine (AllReadyH.cons (o := ⟨some 65, _, _, _, _, _⟩) rfl (fun K hK => ?_) AllReadyH.nil)
      focus (first | (refine skip_step ?_ ?_; focus (rfl)) | (go_simp; go_must (refine (refOlder_any f.v x.v f.ok x.ok HFF.out HXF.out _).mono ?_); rintro e w5 ⟨rfl, hb__⟩; have hE__ := cU HB bup hb__; replace HB := ck HB hE__; (try replace HO := ck HO hE__); clear hE__ hb__; go_wp2_with fail))
      refine hK.out _ _ ?_ (fun hHeld => ?_)
      focus (exact ⟨cellV (hatV HB HGv bup) rfl, range_keep HX.out (HB.out.trans (Below.mono bup HB.out.size)), range_block (hatV HB HV3 bup)⟩)
      clear hK K
      try simp only [PT]
      refine tk 12 (oi := ⟨some 66, _, _, _, _, _⟩) (v := ?_) rfl (by kernel_rfl) (.inl ⟨by rfl, ?_⟩) hHeld ?_; rotate_left; focus (intro w hSw; (try dsimp only at hSw); go_simp; try with_reducible rfl)
      simp only [PT]
      refine wpAnyH_done (by kernel_rfl) ?_ _
      go_wp2_with (first
        | ((with_reducible refine sl 75 ?_); go_must (refine wpL_loadF rfl 38 (.tmp 74) rfl r 1 rfl (.slice (some ⟨b, off, none⟩) n1 c1) (hatV HB HGv bup) rfl Try.underlying38 rfl ?_); simp only [PT])
        | ((with_reducible refine sl 78 ?_); go_must (refine wpL_load rfl 28 (.tmp 77) rfl b (off + k * 41) rfl x.v.cells _ (range_keep HX.out (HB.out.trans (Below.mono bup HB.out.size))) Try.underlying28 rfl (one_size x) ?_); simp only [PT])
        | ((with_reducible refine sl 79 ?_); go_must (refine wpL_lit1 rfl 38 28 (.tmp 78) rfl x.v.cells.toArray _ rfl 41 Try.underlying38 flo_info (by omega) (by omega) (fill_flow x) ?_); intro wl79 gL le_gL lt_gL hg__ hb__; have hE__ := cU HB bup hb__; replace HB := ck HB hE__; (try replace HO := ck HO hE__); clear hE__ hb__; have HL := Lib.hid hg__; clear hg__; simp only [PT])
        | ((with_reducible refine sl 80 ?_); go_must (refine wpL_append elFl rfl (.tmp 71) (.tmp 79) rfl v.heap.size rfl (own_keep HO.out bup) rfl (by have h := sl_block (cs := x.v.cells) HL.out; rw [FloW.length] at h; exact Sl.below h bup) Flo.one (by unfold maxLen; omega) (by omega) (Nat.le_trans HB.out.size (bsz bup)) ?_); intro ad3 c3 wa hown__ hgr__ _ _; rw [← flosC_snoc] at hown__; replace HB := cEa HB bup hgr__ (ownBlock_ge HO.out); clear HO; have HO := Lib.hid hown__; clear hown__ hgr__ HL; simp only [PT]))
      go_roundw
      case rel => exact ⟨k + 1, N2 + 1, L ++ [x], ad3, c3, true, by omega, by omega, rfl, rfl, by go_num, Lib.hid (by rw [List.length_append, ← HN2.out]; rfl), HM, HD2, HO, HB⟩
      case measure => first | (simp [intOf]; done) | (simp [intOf]; omega)
    | false =>
      have hN2k : N2 ≤ k := by have h := midF_len f (ls1.take k); rw [← HLL.out, ← HN2.out, ← HDN.out, List.length_take] at h; simp at h; omega
      rcases two (oldF f.v x.v) with hol | hol
      · have HOL := Lib.hid hol
        have HM : Hid (L ++ [f] ++ [x] = midF f (ls1.take (k + 1))) := Lib.hid (by rw [HTK.out, midF_here f x _ HDN.out.symm hol, HLL.out])
        have HD2 : Hid (true = anyF f (ls1.take (k + 1))) := Lib.hid (by rw [HTK.out, anyF_snoc, hol, Bool.or_true])
        clear hol
        go_wp2_with (first
          | ((with_reducible refine sl 49 ?_); go_must (refine wpL_loadF rfl 38 (.tmp 48) rfl r 1 rfl (.slice (some ⟨b, off, none⟩) n1 c1) (hatV HB HGv bup) rfl Try.underlying38 rfl ?_); simp only [PT]))
        refine wp_region_held_drew (S := fun u__ => u__.cell? ⟨r, 1, none⟩ = some (.slice (some ⟨b, off, none⟩) n1 c1) ∧ u__.rangeAt b (off + k * 41) x.v.cells ∧ u__.rangeAt g3 0 f.v.cells) (by kernel_rfl) ?_ (fun hHeld => ?_)
        focus (exact ⟨cellV (hatV HB HGv bup) rfl, range_keep HX.out (HB.out.trans (Below.mono bup HB.out.size)), range_block (hatV HB HV3 bup)⟩)
        refine tk 0 (oi := ⟨some 54, _, _, _, _, _⟩) (v := ?_) rfl (by kernel_rfl) (.inl ⟨by rfl, ?_⟩) hHeld ?_; rotate_left; focus (intro w hSw; (try dsimp only at hSw); go_simp; try with_reducible rfl)
        simp only [PT]
        refine tk 1 (oi := ⟨some 55, _, _, _, _, _⟩) (v := ?_) rfl (by kernel_rfl) (.inl ⟨by rfl, ?_⟩) hHeld ?_; rotate_left; focus (intro w hSw; (try dsimp only at hSw); go_simp; try with_reducible rfl)
        simp only [PT]
        refine tk 2 (oi := ⟨some 56, _, _, _, _, _⟩) (v := ?_) rfl (by kernel_rfl) (.inl ⟨by rfl, ?_⟩) hHeld ?_; rotate_left; focus (intro w hSw; (try dsimp only at hSw); go_simp; try with_reducible rfl)
        simp only [PT]
        first | (refine tk 3 (oi := ⟨some 57, _, _, _, _, _⟩) (v := undef) rfl (by kernel_rfl) (.inr ⟨by rfl, rfl⟩) hHeld ?_) | (refine' tk 3 (oi := ⟨some 57, _, _, _, _, _⟩) (v := _) rfl (by kernel_rfl) (yieldsIf_load_mid (by rfl) _ _ rfl _ _ rfl (f.v.cells) _ (fun _ h => h.2.2) (Try.underlying28) rfl (one_size f)) hHeld ?_)
        simp only [PT]
        first | (refine tk 4 (oi := ⟨some 58, _, _, _, _, _⟩) (v := undef) rfl (by kernel_rfl) (.inr ⟨by rfl, rfl⟩) hHeld ?_) | (refine tk 4 (oi := ⟨some 58, _, _, _, _, _⟩) (v := ?_) rfl (by kernel_rfl) (.inl ⟨by rfl, ?_⟩) hHeld ?_; rotate_left; focus (intro w hSw; (try dsimp only at hSw); go_simp; try with_reducible rfl))
        simp only [PT]
        first | (refine tk 5 (oi := ⟨some 59, _, _, _, _, _⟩) (v := undef) rfl (by kernel_rfl) (.inr ⟨by rfl, rfl⟩) hHeld ?_) | (refine tk 5 (oi := ⟨some 59, _, _, _, _, _⟩) (v := ?_) rfl (by kernel_rfl) (.inl ⟨by rfl, ?_⟩) hHeld ?_; rotate_left; focus (intro w hSw; (try dsimp only at hSw); go_simp; try with_reducible rfl))
        simp only [PT]
        first | (refine tk 6 (oi := ⟨some 60, _, _, _, _, _⟩) (v := undef) rfl (by kernel_rfl) (.inr ⟨by rfl, rfl⟩) hHeld ?_) | (refine tk 6 (oi := ⟨some 60, _, _, _, _, _⟩) (v := ?_) rfl (by kernel_rfl) (.inl ⟨by rfl, ?_⟩) hHeld ?_; rotate_left; focus (intro w hSw; (try dsimp only at hSw); go_simp; try with_reducible rfl))
        simp only [PT]
        first | (refine tk 7 (oi := ⟨some 61, _, _, _, _, _⟩) (v := undef) rfl (by kernel_rfl) (.inr ⟨by rfl, rfl⟩) hHeld ?_) | (refine tk 7 (oi := ⟨some 61, _, _, _, _, _⟩) (v := ?_) rfl (by kernel_rfl) (.inl ⟨by rfl, ?_⟩) hHeld ?_; rotate_left; focus (intro w hSw; (try dsimp only at hSw); go_simp; try with_reducible rfl))
        simp only [PT]
        first | (refine tk 8 (oi := ⟨some 62, _, _, _, _, _⟩) (v := undef) rfl (by kernel_rfl) (.inr ⟨by rfl, rfl⟩) hHeld ?_) | (refine tk 8 (oi := ⟨some 62, _, _, _, _, _⟩) (v := ?_) rfl (by kernel_rfl) (.inl ⟨by rfl, ?_⟩) hHeld ?_; rotate_left; focus (intro w hSw; (try dsimp only at hSw); go_simp; try with_reducible rfl))
        simp only [PT]
        first | (refine tk 9 (oi := ⟨some 63, _, _, _, _, _⟩) (v := undef) rfl (by kernel_rfl) (.inr ⟨by rfl, rfl⟩) hHeld ?_) | (refine tk 9 (oi := ⟨some 63, _, _, _, _, _⟩) (v := ?_) rfl (by kernel_rfl) (.inl ⟨by rfl, ?_⟩) hHeld ?_; rotate_left; focus (intro w hSw; (try dsimp only at hSw); go_simp; try with_reducible rfl))
        simp only [PT]
        first | (refine tk 10 (oi := ⟨some 64, _, _, _, _, _⟩) (v := undef) rfl (by kernel_rfl) (.inr ⟨by rfl, rfl⟩) hHeld ?_) | (refine' tk 10 (oi := ⟨some 64, _, _, _, _, _⟩) (v := _) rfl (by kernel_rfl) (yieldsIf_load_mid (by rfl) _ _ rfl _ _ rfl (x.v.cells) _ (fun _ h => h.2.1) (Try.underlying28) rfl (one_size x)) hHeld ?_)
        simp only [PT]
        refine wpAnyH_ready (rs := [11]) (by kernel_rfl) (by simp) ?_
        refine (AllReadyH.cons (o := ⟨some 65, _, _, _, _, _⟩) rfl (fun K hK => ?_) AllReadyH.nil)
        focus (first | (refine skip_step ?_ ?_; focus (rfl)) | (go_simp; go_must (refine (refOlder_any f.v x.v f.ok x.ok HFF.out HXF.out _).mono ?_); rw [HOL.out]; rintro e w5 ⟨rfl, hb__⟩; have hE__ := cU HB bup hb__; replace HB := ck HB hE__; (try replace HO := ck HO hE__); clear hE__ hb__; go_wp2_with fail))
        refine hK.out _ _ ?_ (fun hHeld => ?_)
        focus (exact ⟨cellV (hatV HB HGv bup) rfl, range_keep HX.out (HB.out.trans (Below.mono bup HB.out.size)), range_block (hatV HB HV3 bup)⟩)
        clear hK K
        try simp only [PT]
        refine tk 12 (oi := ⟨some 66, _, _, _, _, _⟩) (v := ?_) rfl (by kernel_rfl) (.inl ⟨by rfl, ?_⟩) hHeld ?_; rotate_left; focus (intro w hSw; (try dsimp only at hSw); go_simp; try with_reducible rfl)
        simp only [PT]
        refine wpAnyH_done (by kernel_rfl) ?_ _
        go_wp2_with (first
          | ((with_reducible refine sl 68 ?_); go_must (refine wpL_load rfl 28 (.tmp 3) rfl g3 0 rfl f.v.cells _ (range_block (hatV HB HV3 bup)) Try.underlying28 rfl (one_size f) ?_); simp only [PT])
          | ((with_reducible refine sl 69 ?_); go_must (refine wpL_lit1 rfl 38 28 (.tmp 68) rfl f.v.cells.toArray _ rfl 41 Try.underlying38 flo_info (by omega) (by omega) (fill_flow f) ?_); intro wl69 gL le_gL lt_gL hg__ hb__; have hE__ := cU HB bup hb__; replace HB := ck HB hE__; (try replace HO := ck HO hE__); clear hE__ hb__; have HL := Lib.hid hg__; clear hg__; simp only [PT])
          | ((with_reducible refine sl 70 ?_); go_must (refine wpL_append elFl rfl (.tmp 67) (.tmp 69) rfl v.heap.size rfl (own_keep HO.out bup) rfl (by have h := sl_block (cs := f.v.cells) HL.out; rw [FloW.length] at h; exact Sl.below h bup) Flo.one (by unfold maxLen; omega) (by omega) (Nat.le_trans HB.out.size (bsz bup)) ?_); intro ad3 c3 wa hown__ hgr__ _ _; rw [← flosC_snoc] at hown__; replace HB := cEa HB bup hgr__ (ownBlock_ge HO.out); clear HO; have HO := Lib.hid hown__; clear hown__ hgr__ HL; simp only [PT])
          | ((with_reducible refine sl 75 ?_); go_must (refine wpL_loadF rfl 38 (.tmp 74) rfl r 1 rfl (.slice (some ⟨b, off, none⟩) n1 c1) (hatV HB HGv bup) rfl Try.underlying38 rfl ?_); simp only [PT])
          | ((with_reducible refine sl 78 ?_); go_must (refine wpL_load rfl 28 (.tmp 77) rfl b (off + k * 41) rfl x.v.cells _ (range_keep HX.out (HB.out.trans (Below.mono bup HB.out.size))) Try.underlying28 rfl (one_size x) ?_); simp only [PT])
          | ((with_reducible refine sl 79 ?_); go_must (refine wpL_lit1 rfl 38 28 (.tmp 78) rfl x.v.cells.toArray _ rfl 41 Try.underlying38 flo_info (by omega) (by omega) (fill_flow x) ?_); intro wl79 gL le_gL lt_gL hg__ hb__; have hE__ := cU HB bup hb__; replace HB := ck HB hE__; (try replace HO := ck HO hE__); clear hE__ hb__; have HL := Lib.hid hg__; clear hg__; simp only [PT])
          | ((with_reducible refine sl 80 ?_); go_must (refine wpL_append elFl rfl (.tmp 71) (.tmp 79) rfl v.heap.size rfl (own_keep HO.out bup) rfl (by have h := sl_block (cs := x.v.cells) HL.out; rw [FloW.length] at h; exact Sl.below h bup) Flo.one (by unfold maxLen; omega) (by omega) (Nat.le_trans HB.out.size (bsz bup)) ?_); intro ad4 c4 wc hown__ hgr__ _ _; rw [← flosC_snoc] at hown__; replace HB := cEa HB bup hgr__ (ownBlock_ge HO.out); clear HO; have HO := Lib.hid hown__; clear hown__ hgr__ HL; simp only [PT]))
        go_roundw
        case rel => exact ⟨k + 1, N2 + 1 + 1, L ++ [f] ++ [x], ad4, c4, true, by omega, by omega, rfl, rfl, by go_num, Lib.hid (by rw [List.length_append, List.length_append, ← HN2.out]; rfl), HM, HD2, HO, HB⟩
        case measure => first | (simp [intOf]; done) | (simp [intOf]; omega)
      · have HOL := Lib.hid hol
        have HM : Hid (L ++ [x] = midF f (ls1.take (k + 1))) := Lib.hid (by rw [HTK.out, midF_not f x _ HDN.out.symm hol, HLL.out])
        have HD2 : Hid (false = anyF f (ls1.take (k + 1))) := Lib.hid (by rw [HTK.out, anyF_snoc, hol, ← HDN.out]; rfl)
        clear hol
        go_wp2_with (first
          | ((with_reducible refine sl 49 ?_); go_must (refine wpL_loadF rfl 38 (.tmp 48) rfl r 1 rfl (.slice (some ⟨b, off, none⟩) n1 c1) (hatV HB HGv bup) rfl Try.underlying38 rfl ?_); simp only [PT]))
        refine wp_region_held_drew (S := fun u__ => u__.cell? ⟨r, 1, none⟩ = some (.slice (some ⟨b, off, none⟩) n1 c1) ∧ u__.rangeAt b (off + k * 41) x.v.cells ∧ u__.rangeAt g3 0 f.v.cells) (by kernel_rfl) ?_ (fun hHeld => ?_)
        focus (exact ⟨cellV (hatV HB HGv bup) rfl, range_keep HX.out (HB.out.trans (Below.mono bup HB.out.size)), range_block (hatV HB HV3 bup)⟩)
        refine tk 0 (oi := ⟨some 54, _, _, _, _, _⟩) (v := ?_) rfl (by kernel_rfl) (.inl ⟨by rfl, ?_⟩) hHeld ?_; rotate_left; focus (intro w hSw; (try dsimp only at hSw); go_simp; try with_reducible rfl)
        simp only [PT]
        refine tk 1 (oi := ⟨some 55, _, _, _, _, _⟩) (v := ?_) rfl (by kernel_rfl) (.inl ⟨by rfl, ?_⟩) hHeld ?_; rotate_left; focus (intro w hSw; (try dsimp only at hSw); go_simp; try with_reducible rfl)
        simp only [PT]
        refine tk 2 (oi := ⟨some 56, _, _, _, _, _⟩) (v := ?_) rfl (by kernel_rfl) (.inl ⟨by rfl, ?_⟩) hHeld ?_; rotate_left; focus (intro w hSw; (try dsimp only at hSw); go_simp; try with_reducible rfl)
        simp only [PT]
        first | (refine tk 3 (oi := ⟨some 57, _, _, _, _, _⟩) (v := undef) rfl (by kernel_rfl) (.inr ⟨by rfl, rfl⟩) hHeld ?_) | (refine' tk 3 (oi := ⟨some 57, _, _, _, _, _⟩) (v := _) rfl (by kernel_rfl) (yieldsIf_load_mid (by rfl) _ _ rfl _ _ rfl (f.v.cells) _ (fun _ h => h.2.2) (Try.underlying28) rfl (one_size f)) hHeld ?_)
        simp only [PT]
        first | (refine tk 4 (oi := ⟨some 58, _, _, _, _, _⟩) (v := undef) rfl (by kernel_rfl) (.inr ⟨by rfl, rfl⟩) hHeld ?_) | (refine tk 4 (oi := ⟨some 58, _, _, _, _, _⟩) (v := ?_) rfl (by kernel_rfl) (.inl ⟨by rfl, ?_⟩) hHeld ?_; rotate_left; focus (intro w hSw; (try dsimp only at hSw); go_simp; try with_reducible rfl))
        simp only [PT]
        first | (refine tk 5 (oi := ⟨some 59, _, _, _, _, _⟩) (v := undef) rfl (by kernel_rfl) (.inr ⟨by rfl, rfl⟩) hHeld ?_) | (refine tk 5 (oi := ⟨some 59, _, _, _, _, _⟩) (v := ?_) rfl (by kernel_rfl) (.inl ⟨by rfl, ?_⟩) hHeld ?_; rotate_left; focus (intro w hSw; (try dsimp only at hSw); go_simp; try with_reducible rfl))
        simp only [PT]
        first | (refine tk 6 (oi := ⟨some 60, _, _, _, _, _⟩) (v := undef) rfl (by kernel_rfl) (.inr ⟨by rfl, rfl⟩) hHeld ?_) | (refine tk 6 (oi := ⟨some 60, _, _, _, _, _⟩) (v := ?_) rfl (by kernel_rfl) (.inl ⟨by rfl, ?_⟩) hHeld ?_; rotate_left; focus (intro w hSw; (try dsimp only at hSw); go_simp; try with_reducible rfl))
        simp only [PT]
        first | (refine tk 7 (oi := ⟨some 61, _, _, _, _, _⟩) (v := undef) rfl (by kernel_rfl) (.inr ⟨by rfl, rfl⟩) hHeld ?_) | (refine tk 7 (oi := ⟨some 61, _, _, _, _, _⟩) (v := ?_) rfl (by kernel_rfl) (.inl ⟨by rfl, ?_⟩) hHeld ?_; rotate_left; focus (intro w hSw; (try dsimp only at hSw); go_simp; try with_reducible rfl))
        simp only [PT]
        first | (refine tk 8 (oi := ⟨some 62, _, _, _, _, _⟩) (v := undef) rfl (by kernel_rfl) (.inr ⟨by rfl, rfl⟩) hHeld ?_) | (refine tk 8 (oi := ⟨some 62, _, _, _, _, _⟩) (v := ?_) rfl (by kernel_rfl) (.inl ⟨by rfl, ?_⟩) hHeld ?_; rotate_left; focus (intro w hSw; (try dsimp only at hSw); go_simp; try with_reducible rfl))
        simp only [PT]
        first | (refine tk 9 (oi := ⟨some 63, _, _, _, _, _⟩) (v := undef) rfl (by kernel_rfl) (.inr ⟨by rfl, rfl⟩) hHeld ?_) | (refine tk 9 (oi := ⟨some 63, _, _, _, _, _⟩) (v := ?_) rfl (by kernel_rfl) (.inl ⟨by rfl, ?_⟩) hHeld ?_; rotate_left; focus (intro w hSw; (try dsimp only at hSw); go_simp; try with_reducible rfl))
        simp only [PT]
        first | (refine tk 10 (oi := ⟨some 64, _, _, _, _, _⟩) (v := undef) rfl (by kernel_rfl) (.inr ⟨by rfl, rfl⟩) hHeld ?_) | (refine' tk 10 (oi := ⟨some 64, _, _, _, _, _⟩) (v := _) rfl (by kernel_rfl) (yieldsIf_load_mid (by rfl) _ _ rfl _ _ rfl (x.v.cells) _ (fun _ h => h.2.1) (Try.underlying28) rfl (one_size x)) hHeld ?_)
        simp only [PT]
        refine wpAnyH_ready (rs := [11]) (by kernel_rfl) (by simp) ?_
        refine (AllReadyH.cons (o := ⟨some 65, _, _, _, _, _⟩) rfl (fun K hK => ?_) AllReadyH.nil)
        focus (first | (refine skip_step ?_ ?_; focus (rfl)) | (go_simp; go_must (refine (refOlder_any f.v x.v f.ok x.ok HFF.out HXF.out _).mono ?_); rw [HOL.out]; rintro e w5 ⟨rfl, hb__⟩; have hE__ := cU HB bup hb__; replace HB := ck HB hE__; (try replace HO := ck HO hE__); clear hE__ hb__; go_wp2_with fail))
        refine hK.out _ _ ?_ (fun hHeld => ?_)
        focus (exact ⟨cellV (hatV HB HGv bup) rfl, range_keep HX.out (HB.out.trans (Below.mono bup HB.out.size)), range_block (hatV HB HV3 bup)⟩)
        clear hK K
        try simp only [PT]
        refine tk 12 (oi := ⟨some 66, _, _, _, _, _⟩) (v := ?_) rfl (by kernel_rfl) (.inl ⟨by rfl, ?_⟩) hHeld ?_; rotate_left; focus (intro w hSw; (try dsimp only at hSw); go_simp; try with_reducible rfl)
        simp only [PT]
        refine wpAnyH_done (by kernel_rfl) ?_ _
        go_wp2_with (first
          | ((with_reducible refine sl 75 ?_); go_must (refine wpL_loadF rfl 38 (.tmp 74) rfl r 1 rfl (.slice (some ⟨b, off, none⟩) n1 c1) (hatV HB HGv bup) rfl Try.underlying38 rfl ?_); simp only [PT])
          | ((with_reducible refine sl 78 ?_); go_must (refine wpL_load rfl 28 (.tmp 77) rfl b (off + k * 41) rfl x.v.cells _ (range_keep HX.out (HB.out.trans (Below.mono bup HB.out.size))) Try.underlying28 rfl (one_size x) ?_); simp only [PT])
          | ((with_reducible refine sl 79 ?_); go_must (refine wpL_lit1 rfl 38 28 (.tmp 78) rfl x.v.cells.toArray _ rfl 41 Try.underlying38 flo_info (by omega) (by omega) (fill_flow x) ?_); intro wl79 gL le_gL lt_gL hg__ hb__; have hE__ := cU HB bup hb__; replace HB := ck HB hE__; (try replace HO := ck HO hE__); clear hE__ hb__; have HL := Lib.hid hg__; clear hg__; simp only [PT])
          | ((with_reducible refine sl 80 ?_); go_must (refine wpL_append elFl rfl (.tmp 71) (.tmp 79) rfl v.heap.size rfl (own_keep HO.out bup) rfl (by have h := sl_block (cs := x.v.cells) HL.out; rw [FloW.length] at h; exact Sl.below h bup) Flo.one (by unfold maxLen; omega) (by omega) (Nat.le_trans HB.out.size (bsz bup)) ?_); intro ad3 c3 wa hown__ hgr__ _ _; rw [← flosC_snoc] at hown__; replace HB := cEa HB bup hgr__ (ownBlock_ge HO.out); clear HO; have HO := Lib.hid hown__; clear hown__ hgr__ HL; simp only [PT]))
        go_roundw
        case rel => exact ⟨k + 1, N2 + 1, L ++ [x], ad3, c3, false, by omega, by omega, rfl, rfl, by go_num, Lib.hid (by rw [List.length_append, ← HN2.out]; rfl), HM, HD2, HO, HB⟩
        case measure => first | (simp [intOf]; done) | (simp [intOf]; omega)
/-- Put, all ways -/
theorem rput_any (r lo room : Nat) (ls : List FloW) (f : FloW) (hsz : f.v.name.size ≤ 140737488351232) (hrl : ∀ x ∈ ls, rightF x.v = true) (hone : OneK ls) (hl8 : ls.length < 8192) (hr1 : 1 ≤ room) (w : World) (h : RT w r lo room ls) :
    Calls Try.prog 26 #[.pointer (some ⟨r, 0, none⟩), .agg f.v.cells.toArray] w fun e w' => ∃ (gone : FloW) (left : Bool) (err : Int) (ls' : List FloW), e = .returned (.tuple #[.agg gone.v.cells.toArray, .bool left, .int .i64 err]) ∧ RT w' r lo room ls' ∧ But r r w w' ∧ ((rightF f.v = false ∧ err = 1 ∧ gone = zeroW ∧ left = false ∧ ls' = ls) ∨ (rightF f.v = true ∧ err = 0 ∧ putF room ls f gone left ls')) := by
  rcases two (rightF f.v) with hr | hr
  · have base : Calls Try.prog 26 #[.pointer (some ⟨r, 0, none⟩), .agg f.v.cells.toArray] w (RPut r lo room ls f w) := by
      rcases Classical.em (∃ x ∈ ls, x.v.key = f.v.key) with hx | hx
      · exact rput_there r lo room ls f hr hrl hone hl8 hx w h
      · have hno : ∀ x ∈ ls, x.v.key ≠ f.v.key := fun x h1 h2 => hx ⟨x, h1, h2⟩
        rcases Nat.lt_or_ge ls.length room with h1 | h1
        · exact rput_room r lo room ls f hr hrl hone hl8 hno h1 w h
        · exact rput_full r lo room ls f hr hrl hone hl8 hno h1 hr1 w h
    exact base.mono fun e w' ⟨gone, left, ls', he, h1, h2, h3⟩ => ⟨gone, left, 0, ls', he, h1, h2, .inr ⟨hr, rfl, h3⟩⟩
  · exact (rput_wrong r f hsz hr w).mono fun e w' ⟨he, hb⟩ => ⟨zeroW, false, 1, ls, he, h.keep hb, But.of_below hb, .inl ⟨hr, rfl, rfl, rfl, rfl⟩⟩
end Go.Proofs.Ytgpdlhbndoeldaa
/-
  Chapter 21, plain: a table's flows and the document's sorted list.
-/
namespace Go.Proofs.Ytgpdlhbndoeldaa
open Go.RowKit Go.Sort
set_option linter.unusedVariables false
set_option linter.unusedSimpArgs false

theorem byteOf_inj {a b : Int} (ha : 0 ≤ a) (ha' : a ≤ 255) (hb : 0 ≤ b) (hb' : b ≤ 255) (h : byteOf a = byteOf b) : a = b := by
  have h2 := congrArg UInt8.toNat h
  unfold byteOf at h2
  rw [UInt8.toNat_ofNat_of_lt' (by show (a % 256).toNat < 256; omega), UInt8.toNat_ofNat_of_lt' (by show (b % 256).toNat < 256; omega)] at h2
  omega
theorem fam_inj {a b : Bool} (h : fam a = fam b) : a = b := by
  cases a <;> cases b <;> first | rfl | (exact absurd h (by decide))
theorem bytes_inj {t u : Tup} (ht : t.ok) (hu : u.ok) (ft : t.fit = true) (fu : u.fit = true) (h : t.bytes = u.bytes) : t = u := by
  obtain ⟨k0, k1, k2, k3, k4, k5, k6⟩ := Tup.fit_ports ft
  obtain ⟨m0, m1, m2, m3, m4, m5, m6⟩ := Tup.fit_ports fu
  obtain ⟨s6, sb, d6, db, p, s, d⟩ := t
  obtain ⟨s6', sb', d6', db', p', s', d'⟩ := u
  have h1 : sb.length = 16 := ht.1
  have h2 : db.length = 16 := ht.2
  have h3 : sb'.length = 16 := hu.1
  have h4 : db'.length = 16 := hu.2
  simp only at k0 k1 k2 k3 k4 k5 k6 m0 m1 m2 m3 m4 m5 m6
  unfold Tup.bytes at h
  simp only at h
  rw [be16_two _ k3 k4, be16_two _ k5 k6, be16_two _ m3 m4, be16_two _ m5 m6] at h
  simp only [List.append_assoc, List.cons_append, List.nil_append, List.cons.injEq] at h
  obtain ⟨e0, h⟩ := h
  obtain ⟨e1, h⟩ := List.append_inj h (by rw [h1, h3])
  obtain ⟨e2, h⟩ := List.append_inj h (by rw [h2, h4])
  simp only [List.cons.injEq, and_true] at h
  obtain ⟨e3, e4, e5, e6, e7⟩ := h
  have f0 := fam_inj e0
  have f3 := byteOf_inj k1 k2 m1 m2 e3
  have f4 := byteOf_inj (by omega) (by omega) (by omega) (by omega) e4
  have f5 := byteOf_inj (by omega) (by omega) (by omega) (by omega) e5
  have f6 := byteOf_inj (by omega) (by omega) (by omega) (by omega) e6
  have f7 := byteOf_inj (by omega) (by omega) (by omega) (by omega) e7
  have g1 : s = s' := by omega
  have g2 : d = d' := by omega
  rw [f0, e1, e2, f3, g1, g2, ← k0, ← m0, f0]

/-- flows that are right, of unlike keys -/
structure Nice (l : List FloW) : Prop where
  right : ∀ x ∈ l, rightF x.v = true
  one : OneK l
theorem OneK.perm {l m : List FloW} (h : OneK l) (p : l.Perm m) : OneK m := p.pairwise h (fun {a b} hab e => hab e.symm)
theorem OneK.filter {l : List FloW} (h : OneK l) (f : FloW → Bool) : OneK (l.filter f) := List.Pairwise.filter f h
theorem OneK.inj {l : List FloW} (h : OneK l) {x y : FloW} (hx : x ∈ l) (hy : y ∈ l) (e : x.v.key = y.v.key) : x = y := by
  unfold OneK at h
  induction l with
  | nil => cases hx
  | cons a l ih =>
    rw [List.pairwise_cons] at h
    rcases List.mem_cons.1 hx with rfl | hx2 <;> rcases List.mem_cons.1 hy with rfl | hy2
    · rfl
    · exact absurd e (h.1 y hy2)
    · exact absurd e.symm (h.1 x hx2)
    · exact ih h.2 hx2 hy2
theorem Nice.perm {l m : List FloW} (h : Nice l) (p : l.Perm m) : Nice m := ⟨fun x hx => h.right x (p.mem_iff.2 hx), h.one.perm p⟩
theorem Nice.filter {l : List FloW} (h : Nice l) (f : FloW → Bool) : Nice (l.filter f) := ⟨fun x hx => h.right x (List.mem_filter.1 hx).1, h.one.filter f⟩
theorem Good.oneK {kb : List UInt8} {S : List Slt} (g : Good kb S) : OneK (flowsS S) := by
  unfold OneK flowsS
  rw [List.pairwise_map, List.pairwise_filter, List.pairwise_iff_getElem]
  intro i j hi hj hij h1 h2 he
  have := g.keys i j S[i] S[j] (List.getElem?_eq_getElem hi) (List.getElem?_eq_getElem hj) h1 h2 he
  omega
theorem Good.nice {kb : List UInt8} {S : List Slt} (g : Good kb S) : Nice (flowsS S) := ⟨fun x hx => flows_right g hx, g.oneK⟩
/-- neither is older: it is the same one -/
theorem same_of_tri {a b : FloW} (ha : rightF a.v = true) (hb : rightF b.v = true) (h : oldF a.v b.v = false) (k : oldF b.v a.v = false) : a.v.key = b.v.key :=
  bytes_inj a.ok.1 b.ok.1 (right_fit ha) (right_fit hb) (oldF_tri a b h k).2
theorem Sorted.filter {l : List FloW} (h : Sorted l) (f : FloW → Bool) : Sorted (l.filter f) := List.Pairwise.filter f h
/-- one order alone -/
theorem sorted_one : ∀ {l m : List FloW}, Nice l → Sorted l → Sorted m → l.Perm m → l = m
  | [], m, _, _, _, p => (List.nil_perm.1 p).symm
  | a :: l, [], _, _, _, p => by have := p.length_eq; simp at this
  | a :: l, b :: m, hn, hl, hm, p => by
    have hn2 := hn.perm p
    unfold Sorted at hl hm
    rw [List.pairwise_cons] at hl hm
    have hab : a = b := by
      have ha : a ∈ b :: m := p.mem_iff.1 List.mem_cons_self
      have hb : b ∈ a :: l := p.mem_iff.2 List.mem_cons_self
      rcases List.mem_cons.1 ha with h | ha'
      · exact h
      · rcases List.mem_cons.1 hb with h | hb'
        · exact h.symm
        · have h1 := hm.1 a ha'
          have h2 := hl.1 b hb'
          exact hn.one.inj List.mem_cons_self hb (same_of_tri (hn.right a List.mem_cons_self) (hn.right b hb) h1 h2)
    subst hab
    rw [sorted_one (l := l) (m := m) ⟨fun x hx => hn.right x (List.mem_cons_of_mem _ hx), (List.pairwise_cons.1 hn.one).2⟩ hl.2 hm.2 (List.Perm.cons_inv p)]
theorem noK_perm {l m : List FloW} (p : l.Perm m) (k : Tup) : (noK l k).Perm (noK m k) := p.filter _
theorem insF_perm (f : FloW) : ∀ l : List FloW, (insF f l).Perm (f :: l)
  | [] => List.Perm.refl _
  | a :: l => by
    unfold insF
    split
    · exact List.Perm.refl _
    · exact ((insF_perm f l).cons a).trans (List.Perm.swap f a l)
theorem insF_sorted (f : FloW) : ∀ {l : List FloW}, Sorted l → Sorted (insF f l)
  | [], _ => by simp [insF, Sorted]
  | a :: l, h => by
    unfold Sorted at h
    rw [List.pairwise_cons] at h
    unfold insF
    split
    · rename_i h1
      unfold Sorted
      rw [List.pairwise_cons]
      refine ⟨fun x hx => ?_, List.pairwise_cons.2 h⟩
      rcases List.mem_cons.1 hx with rfl | hx
      · exact oldF_asym f x h1
      · cases h2 : oldF x.v f.v with
        | false => rfl
        | true => have := oldF_trans x f a h2 h1; rw [h.1 x hx] at this; cases this
    · rename_i h1
      unfold Sorted
      rw [List.pairwise_cons]
      refine ⟨fun x hx => ?_, insF_sorted f h.2⟩
      rcases List.mem_cons.1 ((insF_perm f l).mem_iff.1 hx) with rfl | hx
      · exact Bool.not_eq_true _ ▸ h1
      · exact h.1 x hx
/-- a table of slots, and its sorted list -/
structure Twin (S : List Slt) (ls : List FloW) : Prop where
  perm : (flowsS S).Perm ls
  sorted : Sorted ls
theorem Twin.nice {kb : List UInt8} {S : List Slt} {ls : List FloW} (h : Twin S ls) (g : Good kb S) : Nice ls := g.nice.perm h.perm
theorem Twin.len {S : List Slt} {ls : List FloW} (h : Twin S ls) : (flowsS S).length = ls.length := h.perm.length_eq
/-- a sorted list of the same flows is it -/
theorem Twin.eq {kb : List UInt8} {S : List Slt} {ls m : List FloW} (h : Twin S ls) (g : Good kb S) (hm : Sorted m) (p : m.Perm (flowsS S)) : m = ls :=
  (sorted_one (h.nice g) h.sorted hm (h.perm.symm.trans p.symm)).symm
/-- put, as a function -/
def putT (room : Nat) (ls : List FloW) (f : FloW) : FloW × Bool × List FloW :=
  if (ls.any fun x => decide (x.v.key = f.v.key)) = true then (zeroW, false, insF f (noK ls f.v.key))
  else if ls.length < room then (zeroW, false, insF f ls)
  else ((ls.head?).getD zeroW, true, insF f ls.tail)
theorem any_key {ls : List FloW} {k : Tup} : (ls.any fun x => decide (x.v.key = k)) = true ↔ ∃ x ∈ ls, x.v.key = k := by simp
theorem putF_eq {room : Nat} {ls : List FloW} {f gone : FloW} {left : Bool} {ls' : List FloW} (h : putF room ls f gone left ls') : (gone, left, ls') = putT room ls f := by
  unfold putT
  rcases h with ⟨rfl, rfl, h1, rfl⟩ | ⟨rfl, rfl, h1, h2, rfl⟩ | ⟨rfl, h1, h2, rfl, h3, rfl⟩
  · rw [if_pos (any_key.2 h1)]
  · rw [if_neg (fun h => by obtain ⟨x, hx, e⟩ := any_key.1 h; exact h1 x hx e), if_pos h2]
  · rw [if_neg (fun h => by obtain ⟨x, hx, e⟩ := any_key.1 h; exact h1 x hx e), if_neg (by omega)]
    rw [List.head?_eq_getElem?, List.getElem?_eq_getElem h3]
    rfl
theorem noK_not {ls : List FloW} {k : Tup} (h : ∀ x ∈ ls, x.v.key ≠ k) : noK ls k = ls := noK_none h
theorem putS_eq {kb : List UInt8} {room : Nat} {S S' : List Slt} {ls : List FloW} {f gone : FloW} {left : Bool} (g : Good kb S) (t : Twin S ls) (hr : rightF f.v = true) (h : PutS room S f gone.v left S') :
    gone = (putT room ls f).1 ∧ left = (putT room ls f).2.1 ∧ Twin S' (putT room ls f).2.2 := by
  unfold putT
  have hmem : ∀ x, x ∈ flowsS S ↔ x ∈ ls := fun x => t.perm.mem_iff
  rcases h with ⟨rfl, hz, h1, h2⟩ | ⟨rfl, h1, h2, g0, R, h3, h4, h5, h6⟩
  · have hg : gone = zeroW := FloW.ext' hz
    by_cases hk : ∃ x ∈ ls, x.v.key = f.v.key
    · rw [if_pos (any_key.2 hk)]
      refine ⟨hg, rfl, ?_, insF_sorted f (t.sorted.filter _)⟩
      exact h2.trans (((noK_perm t.perm _).cons f).trans (insF_perm f _).symm)
    · rw [if_neg (fun h => hk (any_key.1 h))]
      have hlt : ls.length < room := by
        rcases h1 with ⟨x, hx, e⟩ | h1
        · exact absurd ⟨x, (hmem x).1 hx, e⟩ hk
        · rw [← t.len]; exact h1
      rw [if_pos hlt]
      refine ⟨hg, rfl, ?_, insF_sorted f t.sorted⟩
      have hno : ∀ x ∈ flowsS S, x.v.key ≠ f.v.key := fun x hx e => hk ⟨x, (hmem x).1 hx, e⟩
      rw [filter_none hno] at h2
      exact h2.trans ((t.perm.cons f).trans (insF_perm f _).symm)
  · have hk : ¬∃ x ∈ ls, x.v.key = f.v.key := fun ⟨x, hx, e⟩ => h1 x ((hmem x).2 hx) e
    rw [if_neg (fun h => hk (any_key.1 h)), if_neg (by rw [← t.len]; omega)]
    have hg : gone = g0 := FloW.ext' h4
    subst hg
    have hn := t.nice g
    have hgm : gone ∈ ls := (hmem gone).1 (minL_mem h3)
    cases ls with
    | nil => cases hgm
    | cons a l =>
      have hso := t.sorted
      unfold Sorted at hso
      rw [List.pairwise_cons] at hso
      have hag : a = gone := by
        rcases List.mem_cons.1 hgm with h | h
        · exact h.symm
        · have e1 := minL_min h3 a ((hmem a).2 List.mem_cons_self)
          have e2 := hso.1 gone h
          exact hn.one.inj List.mem_cons_self hgm (same_of_tri (hn.right a List.mem_cons_self) (hn.right gone hgm) e1 e2)
      subst hag
      refine ⟨rfl, rfl, ?_, insF_sorted f hso.2⟩
      have hp : l.Perm R := List.Perm.cons_inv (t.perm.symm.trans h5)
      exact h6.trans ((hp.symm.cons f).trans (insF_perm f _).symm)
theorem twin_new {S : List Slt} (h : flowsS S = []) : Twin S [] := ⟨by rw [h], List.Pairwise.nil⟩
/-- of a right list each one is older than the next one -/
theorem sorted_old {l : List FloW} (hn : Nice l) (hs : Sorted l) {i j : Nat} (hij : i < j) (hj : j < l.length) : oldF (l[i]'(by omega)).v l[j].v = true := by
  have h1 := (List.pairwise_iff_getElem.1 hs) i j (by omega) hj hij
  cases h : oldF (l[i]'(by omega)).v l[j].v with
  | true => rfl
  | false =>
    have hk := same_of_tri (hn.right _ (List.getElem_mem (by omega))) (hn.right _ (List.getElem_mem hj)) h h1
    exact absurd hk ((List.pairwise_iff_getElem.1 hn.one) i j (by omega) hj hij)
end Go.Proofs.Ytgpdlhbndoeldaa
/-
  Chapter 21: what both tables do alike (written by gen/flawe.py).
-/
namespace Go.Proofs.Ytgpdlhbndoeldaa
open Go.RowKit Go.Sort
set_option linter.unusedVariables false
set_option linter.unusedSimpArgs false
set_option maxRecDepth 100000
set_option maxHeartbeats 16000000

theorem RT.but {w w' : World} {r lo room p q : Nat} {ls : List FloW} (h : RT w r lo room ls) (hb : But p q w w') (hp : p < lo) (hq : q < lo) (hpr : r ≠ p) (hqr : r ≠ q) : RT w' r lo room ls := by
  obtain ⟨ad, c, h1, h2, h3, h4, h5⟩ := h
  exact ⟨ad, c, hb.keep h1 hpr hqr, Sl.but h2 hb (fun x hx => by have := (h3 x hx).2; omega), h3, h4, Nat.le_trans h5 hb.size⟩
theorem put_both {kb : List UInt8} {room : Nat} {S S' : List Slt} {ls ls' : List FloW} {f gone gone2 : FloW} {left left2 : Bool} {err err2 : Int} (g : Good kb S) (t : Twin S ls) (h : PutW room S f gone left err S')
    (h2 : (rightF f.v = false ∧ err2 = 1 ∧ gone2 = zeroW ∧ left2 = false ∧ ls' = ls) ∨ (rightF f.v = true ∧ err2 = 0 ∧ putF room ls f gone2 left2 ls')) : gone2 = gone ∧ left2 = left ∧ err2 = err ∧ Twin S' ls' := by
  rcases h with ⟨h1, rfl, rfl, rfl, rfl⟩ | ⟨h1, rfl, hp⟩
  · rcases h2 with ⟨_, rfl, rfl, rfl, rfl⟩ | ⟨k, _⟩
    · exact ⟨rfl, rfl, rfl, t⟩
    · rw [h1] at k; cases k
  · rcases h2 with ⟨k, _⟩ | ⟨_, rfl, hq⟩
    · rw [h1] at k; cases k
    · obtain ⟨e1, e2, e3⟩ := putS_eq g t h1 hp
      have e := putF_eq hq
      rw [← e] at e1 e2 e3
      exact ⟨e1.symm, e2.symm, rfl, e3⟩
theorem drop_both {kb : List UInt8} {S S' : List Slt} {ls : List FloW} {k : Tup} {t2 : Bool} (g : Good kb S) (t : Twin S ls) (h : (flowsS S').Perm ((flowsS S).filter (fun x => decide (x.v.key ≠ k)))) (h2 : t2 = true ↔ ∃ x ∈ ls, x.v.key = k) : t2 = (look S k).isSome ∧ Twin S' (noK ls k) := by
  refine ⟨?_, h.trans (noK_perm t.perm k), t.sorted.filter _⟩
  rw [Bool.eq_iff_iff, h2, Option.isSome_iff_exists]
  constructor
  · rintro ⟨x, hx, e⟩
    exact ⟨x, (look_iff g).2 ⟨t.perm.mem_iff.2 hx, e⟩⟩
  · rintro ⟨x, hx⟩
    obtain ⟨h3, h4⟩ := look_some hx
    exact ⟨x, t.perm.mem_iff.1 h3, h4⟩
theorem sweep_both {kb : List UInt8} {S S' : List Slt} {ls out : List FloW} {now : Int} {idle : List Int} (g : Good kb S) (t : Twin S ls) (h1 : out.Perm (outF now idle (flowsS S))) (h2 : Sorted out) (h3 : (flowsS S').Perm ((flowsS S).filter (fun x => !staleW now idle x))) : out = outF now idle ls ∧ Twin S' (stF now idle ls) :=
  ⟨sorted_one ((g.nice.filter _).perm h1.symm) h2 (t.sorted.filter _) (h1.trans (t.perm.filter _)), h3.trans (t.perm.filter _), t.sorted.filter _⟩
theorem wpL_neqF {ops : Array Oper} {rest : List Oper} {o : Oper} {a : Act} {w : World} {Q : Exit → Act → World → Prop} (hgd : Region.wanted o (yielded ops a.tmps) = true) (X Y : Operand) (ho : o.op = .binOp .neq 28 X Y 28) (x y : FloW) (b : Bool) (hb : b = false ↔ x.v = y.v)
    (hx : a.eval X = .agg x.v.cells.toArray) (hy : a.eval Y = .agg y.v.cells.toArray) (h : wpList Try.prog ops Q rest (a.put o.dst (.bool b)) w) : wpList Try.prog ops Q (o :: rest) a w := by
  refine wpL_run hgd ?_ h
  have hh := equal_flo x.v y.v x.ok y.ok (!b) (by cases b <;> simp_all) w
  have hgd := run_eqGuard_agg (P := Try.prog) w .neq 28 X Y x.v.cells.toArray y.v.cells.toArray (by kernel_rfl)
  have hes := run_neq_struct (P := Try.prog) w 28 x.v.cells.toArray y.v.cells.toArray
  rw [hh] at hes
  simp only [execOp, ho, hx, hy, Sem.run_bind, hgd, hes, Result.andThen_ok, Sem.run_pure, Bool.not_not]
theorem built_rt (n : Int) : Try.prog.built 59 [(0, .int .i64 n)] = some #[.int .i64 n, .slice none 0 0] := by kernel_rfl
theorem rt_new {w : World} {r room : Nat} (h : w.heap[r]? = some (.cells #[.int .i64 (room : Int), .slice none 0 0] 59 (0, 0))) : RT w r r room [] :=
  ⟨none, 0, h, Sl.nil w 41, (fun x hx => by cases hx), Nat.zero_le _, Nat.le_of_lt (lt_of_block h)⟩
theorem act_now {w : World} {b o : Nat} {x : ActV} (h : w.rangeAt b o x.cells) : w.cell? ⟨b, o + 42, none⟩ = some (.int .i64 x.now) := h 42 _ x.nowc
theorem act_idle {w : World} {b o : Nat} {x : ActV} (h : w.rangeAt b o x.cells) : w.rangeAt b (o + 43) (x.idle.map (Value.int .i64)) := fun j v hj => by
  have hl : j < 6 := by have := (List.getElem?_eq_some_iff.1 hj).1; rw [List.length_map, x.hl] at this; exact this
  have := h (43 + j) v ((x.idlec j hl).trans hj)
  rwa [← Nat.add_assoc] at this
end Go.Proofs.Ytgpdlhbndoeldaa
