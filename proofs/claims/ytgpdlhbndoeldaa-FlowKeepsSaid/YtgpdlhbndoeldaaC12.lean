/-
  Joined by program (merge.py): FloG.
-/
import Derived.Test.YtgpdlhbndoeldaaC9
/-
  Chapter 21: the statement FlowKeeps: walked (written by gen/flawg.py).
-/
namespace Go.Proofs.Ytgpdlhbndoeldaa
open Go.RowKit Go.Sort
set_option linter.unusedVariables false
set_option linter.unusedSimpArgs false
set_option maxRecDepth 100000
set_option maxHeartbeats 16000000

/-- '[]T{}' of flows -/
theorem run_lit0L {o : Oper} {a : Act} {w : World} (ho : o.op = .buildSlice 38 0 #[]) : (execOp a.eval o).run Try.prog w = .ok (.value (.slice (some ⟨w.heap.size, 0, none⟩) 0 0)) (w.alloc (.cells #[] 28)) := by
  obtain ⟨i, hi, hz, hsize, hby⟩ := info_parts elFl.info
  have e : (Array.range 0).map (fun _ : Nat => (default : Value)) = #[] := by simp
  simp [execOp, ho, Instr.buildSlice, run_underlying Try.underlying38, sizeOf, typeInfo, hi, newRow, Instr.fill, e, hz, hsize]
theorem wpL_lit0L {ops : Array Oper} {rest : List Oper} {o : Oper} {a : Act} {w : World} {Q : Exit → Act → World → Prop} (hgd : o.guard = none) (ho : o.op = .buildSlice 38 0 #[])
    (h : ∀ w1 g, w.heap.size ≤ g → g < w1.heap.size → w1.ownsRow w.heap.size 28 41 (.slice (some ⟨g, 0, none⟩) 0 0) 0 [] → Below w.heap.size w w1 → wpList Try.prog ops Q rest (a.put o.dst (.slice (some ⟨g, 0, none⟩) 0 0)) w1) :
    wpList Try.prog ops Q (o :: rest) a w :=
  wpL_run (by simp [Region.wanted, hgd]) (run_lit0L ho) (h _ _ (Nat.le_refl _) (by simp) (World.ownsRow_lit (size := 41) (base := w.heap.size) (e := 28) w #[] 0 (Nat.le_refl _) (by simp [maxLen]) rfl) ((Below.refl _ _).alloc (Nat.le_refl _) _))
/-- an append of structs, its length named -/
theorem wpL_appS {P : Program} {w : World} {ops : Array Oper} {rest : List Oper} {o : Oper} {a : Act} {Q : Exit → Act → World → Prop} {t e : TypeId} {size bytes : Nat} {z : Value} (el : Elem P t e size bytes z)
    (hgd : Region.wanted o (yielded ops a.tmps) = true) (s x : Operand) (ho : o.op = .call { callee := .builtin .append, args := #[s, x], argTypes := #[t, t] })
    (base : Nat) {ad : Option Addr} {n c : Nat} {xs : List Value} (hs : a.eval s = .slice ad n c) (hown : w.ownsRow base e size (.slice ad n c) n xs)
    {ad2 : Option Addr} {m c2 : Nat} {news : List Value} (hx : a.eval x = .slice ad2 m c2) (hsl : Sl w ad2 m c2 size news) (h1 : ∀ u ∈ news, u.oneCell' = true) (r : Nat) (hr : n + m = r)
    (h63 : r ≤ maxLen) (hbytes : r * bytes ≤ 140737488355328) (hbase : base ≤ w.heap.size)
    (h : ∀ ad' c' w', w'.ownsRow base e size (.slice ad' r c') r (xs ++ news) → Below base w w' → wpList P ops Q rest (a.put o.dst (.slice ad' r c')) w') :
    wpList P ops Q (o :: rest) a w := by
  subst hr
  exact wpL_append el hgd s x ho base hs hown hx hsl h1 h63 hbytes hbase fun ad' c' w' ho' hg _ _ => h ad' c' w' ho' ((Below.refl base w).grown hg hbase (ownBlock_ge hown))
/-- what may be written -/
def Wr (w : World) (ad : Option Addr) (m : Nat) : Prop := m = 0 ∨ ∃ g, ad = some ⟨g, 0, none⟩ ∧ ∃ cs : List Value, w.heap[g]? = some (.cells cs.toArray 28 (0, 0)) ∧ m * 41 ≤ cs.length
theorem Wr.of_own {w : World} {base : Nat} {ad : Option Addr} {n c : Nat} {xs : List Value} (h : w.ownsRow base 28 41 (.slice ad n c) n xs) : Wr w ad n := by
  rcases h.2 with ⟨_, h0⟩ | ⟨g, cap, cur, hv, hb2, hg, hnc, hcm, hcs, hr⟩
  · exact .inl h0
  · simp only [Value.slice.injEq] at hv
    refine .inr ⟨g, hv.1, cur.toList, hg, ?_⟩
    rw [Array.length_toList, hcs]
    exact Nat.mul_le_mul_right _ hnc
theorem Wr.below {w w' : World} {ad : Option Addr} {m : Nat} (h : Wr w ad m) (hb : Below w.heap.size w w') : Wr w' ad m := by
  rcases h with h | ⟨g, h1, cs, h2, h3⟩
  · exact .inl h
  · exact .inr ⟨g, h1, cs, (hb.block _ (lt_of_block h2)).trans h2, h3⟩
instance {w w' : World} {ad : Option Addr} {m : Nat} : Ck (Wr w ad m) w' w (Wr w' ad m) := ⟨fun h hE => h.below hE⟩
theorem wpL_zeroFl {ops : Array Oper} {rest : List Oper} {o : Oper} {a : Act} {w : World} {Q : Exit → Act → World → Prop} (hgd : o.guard = none) (x y : Operand) (ho : o.op = .store 28 x y) (g m i : Nat) (hb : Wr w (some ⟨g, 0, none⟩) m) (hi : i < m) (u : FloW)
    (hx : a.eval x = .pointer (some ⟨g, i * 41, none⟩)) (hy : a.eval y = .agg u.v.cells.toArray) (h : ∀ w1, Wr w1 (some ⟨g, 0, none⟩) m → w.grownBy w1 (some g) → wpList Try.prog ops Q rest (a.put o.dst undef) w1) : wpList Try.prog ops Q (o :: rest) a w := by
  rcases hb with h0 | ⟨g', he, cs, hg, hl⟩
  · omega
  · simp only [Option.some.injEq, Addr.mk.injEq, and_true] at he
    subst he
    have hlt : i * 41 + 41 ≤ cs.length := by have := Nat.mul_le_mul_right 41 (show i + 1 ≤ m from hi); omega
    have hsz : u.v.cells.toArray.size = 41 := by rw [List.size_toArray]; exact FloW.length u
    refine wpList_store_mid hgd 28 x y ho g (i * 41) u.v.cells.toArray hx hy (by
      rw [hsz]
      intro j hj
      refine ⟨?_, frz hg _⟩
      rw [cells_get hg, List.getElem?_eq_getElem (by omega)]
      rfl) (by rw [hsz]; exact flo_size) (flo_one _) (h _ (.inr ⟨g, rfl, _, setCells_heap _ _ _ _ _ _ _ hg (by rw [FloW.length]; exact hlt), ?_⟩) (setCells_grown _ _ _ _))
    simp only [List.length_append, List.length_take, List.length_drop, FloW.length]
    omega
theorem own_gr1 {w w' : World} {base g : Nat} {e : TypeId} {size : Nat} {ad : Option Addr} {n c : Nat} {xs : List Value} (h : w.ownsRow base e size (.slice ad n c) n xs) (hg : w.grownBy w' (some g)) (hne : ∀ x, ad = some x → x.block ≠ g) : w'.ownsRow base e size (.slice ad n c) n xs := by
  rcases h.2 with h2 | ⟨g', cap, cur, hv, hb2, hgg, hr⟩
  · exact ⟨h.1, .inl h2⟩
  · simp only [Value.slice.injEq] at hv
    exact ⟨h.1, .inr ⟨g', cap, cur, by rw [hv.1, ← hv.2.2], hb2, (hg.block g' (lt_of_block hgg) (fun e => hne _ hv.1 (Option.some.inj e))).trans hgg, hr⟩⟩
theorem Wr.gr1 {w w' : World} {g : Nat} {ad : Option Addr} {m : Nat} (h : Wr w ad m) (hg : w.grownBy w' (some g)) (hne : ∀ x, ad = some x → x.block ≠ g) : Wr w' ad m := by
  rcases h with h | ⟨g', h1, cs, h2, h3⟩
  · exact .inl h
  · exact .inr ⟨g', h1, cs, (hg.block _ (lt_of_block h2) (fun e => hne _ h1 (Option.some.inj e))).trans h2, h3⟩
theorem Rep.keepB {w w' : World} {p q base : Nat} {kb : List UInt8} {room : Nat} {S : List Slt} (h : Rep w p q kb room S) (hb : Below base w w') (hp : p < base) (hq : q < base) : Rep w' p q kb room S :=
  ⟨⟨(hb.block _ hp).trans h.tb.hp, (hb.block _ hq).trans h.tb.hq, h.tb.hk, h.tb.h0, h.tb.hn⟩, h.good, h.le, h.two, h.one, h.ne⟩
theorem keeps21_walk (kb : List UInt8) (hk : kb.length = 16) (ad : Option Addr) (n c : Nat) (xs : List FloW) (w : World) (hv : Fls w ad n c xs) :
    Calls Try.prog 7 #[.agg (BV kb).toArray, .slice ad n c] w fun e w' => e = .returned (.bool true) ∧ Below w.heap.size w w' := by
  have HB := Lib.hid (Below.refl w.heap.size w)
  have HIK : Hid ((Try.prog.info? 22).map (·.size) = some (BV kb).length) := Lib.hid (by rw [BV_length, hk]; kernel_rfl)
  have HK := Lib.hid hk
  have HV := Lib.hid hv
  have hle := hv.le
  have HLN := Lib.hid hv.len
  clear hk hv
  go_enter Try.func7, Try.ntmps7
  go_wp2_with (first
    | ((with_reducible refine sl 2 ?_); go_must (refine wpL_boxG rfl 22 (.tmp 0) rfl (BV kb).toArray rfl ?_); intro wb2 g2 he__ le_2 lt_2 hg__ hb__; have hE__ := cU HB bup hb__; replace HB := ck HB hE__; clear hE__ hb__; have HG2 := Lib.hid hg__; clear hg__ he__; simp only [PT])
    | (go_at_call 10; go_must (refine (awake_any _).mono ?_); rintro e wa ⟨rfl, hb__⟩; have hE__ := cU HB bup hb__; replace HB := ck HB hE__; (try replace HG2 := ck HG2 hE__); clear hE__ hb__))
  go_at_call 17
  refine (few21_any ad n c xs _ (HV.out.below HB.out)).mono ?_
  rintro e w3 ⟨⟨bf, rfl, hf⟩, hb__⟩
  have hE__ := cU HB bup hb__; replace HB := ck HB hE__; (try replace HG2 := ck HG2 hE__); clear hE__ hb__
  cases bf with
  | false =>
    clear hf
    go_wp2_with (first
      | (go_at_call 10; go_must (refine (awake_any _).mono ?_); rintro e wa ⟨rfl, hb__⟩; have hE__ := cU HB bup hb__; replace HB := ck HB hE__; (try replace HG2 := ck HG2 hE__); clear hE__ hb__))
    go_ret
    exact ⟨rfl, HB.out⟩
  | true =>
    have HF := Lib.hid (hf rfl)
    clear hf
    have hn80 : n ≤ 80 := by have := HF.out.1; have := HLN.out; omega
    have FLONE : Hid (∀ u ∈ flosC xs, u.oneCell' = true) := Lib.hid (fun u hu => by obtain ⟨v, _, h⟩ := List.mem_flatMap.1 hu; exact Flo.one u h)
    go_wp2_with (first
      | ((with_reducible refine sl 22 ?_); go_must (refine wpL_load rfl 22 (.tmp 2) rfl g2 0 rfl (BV kb) _ (range_block HG2.out) Try.underlying22 rfl HIK.out ?_); simp only [PT])
      | (go_at_call 11; (with_reducible show Calls _ _ #[_, .int .i64 80] _ _); go_must (refine (new_rep kb HK.out 80 (by omega) (by omega) _).mono ?_); rintro e w1 ⟨p, q, S0, rfl, hr, hS0, lq, lqp, hb__⟩; go_must (have HQ : Hid (w.heap.size ≤ q) := Lib.hid (Nat.le_trans HB.out.size (Nat.le_trans (bsz bup) lq))); have HP : Hid (w.heap.size ≤ p) := Lib.hid (by have := HQ.out; omega); have hE__ := cU HB bup hb__; replace HB := ck HB hE__; (try replace HG2 := ck HG2 hE__); clear hE__ hb__; have HR := Lib.hid hr; clear hr hS0 lq)
      | ((with_reducible refine sl 28 ?_); go_must (refine wpL_lit0L rfl rfl ?_); intro wl28 g28 le_28 lt_28 hown__ hb__; go_must (have HO := Lib.hid (own_base hown__ (show p + 1 ≤ _ from lt_of_block HR.out.tb.hp))); have hE__ := cU HB bup hb__; replace HB := ck HB hE__; (try replace HR := ck HR hE__); clear hE__ hb__; clear hown__; simp only [PT])
      | ((with_reducible refine sl 30 ?_); go_must (refine wpL_appS elFl rfl (.tmp 28) (.tmp 29) rfl (p + 1) rfl HO.out rfl (HV.out.below HB.out) FLONE.out n (Nat.zero_add n) (by unfold maxLen; omega) (by omega) (lt_of_block HR.out.tb.hp) ?_); intro ad7 c7 w7 hown__ hbB__; rw [List.nil_append] at hown__; clear HO; have HO := Lib.hid hown__; go_must (have HRn := Lib.hid (Rep.keepB HR.out hbB__ (by omega) (by omega))); go_must (have HBn := Lib.hid (HB.out.trans (hbB__.mono (by have := HP.out; omega)))); clear HR HB; have HR := HRn; have HB := HBn; clear HRn HBn hown__ hbB__; simp only [PT]))
    go_loopw [8] (fun i wr => ∃ (k : Nat) (S : List Slt), k ≤ n ∧ i = .int .i64 (k : Int) ∧ Hid (Below w.heap.size w wr) ∧ Hid (Rep wr p q kb 80 S) ∧ Hid (wr.ownsRow (p + 1) 28 41 (.slice ad7 n c7) n (flosC xs))) (fun i _ => n - (intOf i).toNat)
    case atStart => exact ⟨0, S0, by omega, rfl, HB, HR, HO⟩
    case round =>
      clear HB HR HO
      obtain ⟨k, S, hk, rfl, HB, HR, HO⟩ := hrel
      by_cases hend : k = n
      · subst k
        obtain ⟨wv, hwv⟩ : ∃ wv, wv = wr := ⟨_, rfl⟩
        subst hwv
        have TK1 : True := trivial
        go_wp2_with (first
          | (have hgd__ := TK1; clear hgd__ TK1; go_at_call 19; go_must (refine (list_law p q kb _ S _ (HR.out.keep bup)).mono ?_); rintro e w9 ⟨adx, cx, lx, rfl, hpm, hso, ho, hb__⟩; go_must (have HX7 : Hid (∀ x, ad7 = some x → ∀ y, adx = some y → x.block < y.block) := Lib.hid (fun x hx y hy => Nat.lt_of_lt_of_le (own_block (own_keep HO.out bup) x hx).2 (own_block ho y hy).1)); go_must (have HXP : Hid (∀ y, adx = some y → p < y.block) := Lib.hid (fun y hy => Nat.lt_of_lt_of_le (lt_of_block (HR.out.keep bup).tb.hp) (own_block ho y hy).1)); go_must (have hE__ := cU HB bup hb__; replace HB := ck HB hE__; (try replace HR := ck HR hE__); (try replace HO := ck HO hE__); clear hE__ hb__); have HOX := Lib.hid ho; go_must (have hx80 : lx.length ≤ 80 := (by have h1 := hpm.length_eq; have h2 := HR.out.le; omega)); clear ho hpm hso)
          | (have hgd__ := HOX; clear hgd__; go_at_call 19; go_must (refine (list_law p q kb _ S _ (HR.out.keep bup)).mono ?_); rintro e w10 ⟨ady, cy, ly, rfl, hpm, hso, ho, hb__⟩; go_must (have HY7 : Hid (∀ x, ad7 = some x → ∀ y, ady = some y → x.block < y.block) := Lib.hid (fun x hx y hy => Nat.lt_of_lt_of_le (own_block (own_keep HO.out bup) x hx).2 (own_block ho y hy).1)); go_must (have HYX : Hid (∀ x, adx = some x → ∀ y, ady = some y → x.block < y.block) := Lib.hid (fun x hx y hy => Nat.lt_of_lt_of_le (own_block (own_keep HOX.out bup) x hx).2 (own_block ho y hy).1)); go_must (have hE__ := cU HB bup hb__; replace HB := ck HB hE__; (try replace HR := ck HR hE__); (try replace HO := ck HO hE__); (try replace HOX := ck HOX hE__); clear hE__ hb__); have HOY := Lib.hid ho; have HYS := Lib.hid (And.intro hpm hso); clear ho hpm hso))
        have HTY := Lib.hid (Twin.mk HYS.out.1.symm HYS.out.2)
        have HWX := Lib.hid (Wr.of_own HOX.out)
        have HW7 := Lib.hid (Wr.of_own HO.out)
        have H7P : Hid (∀ x, ad7 = some x → p < x.block) := Lib.hid (fun x hx => (own_block HO.out x hx).1)
        obtain ⟨N, hN⟩ : ∃ N, N = lx.length := ⟨_, rfl⟩
        rw [← hN] at HWX hx80
        obtain ⟨wv, hwv⟩ : ∃ wv, wv = w10 := ⟨_, rfl⟩
        subst hwv
        have HOYn := Lib.hid (own_base HOY.out (Nat.zero_le _))
        clear HOY HOX HO
        have HOY := HOYn
        clear HOYn
        go_wp2_with fail
        go_loopw [11] (fun i wr => ∃ m : Nat, m ≤ N ∧ i = .int .i64 (m : Int) ∧ Hid (Below w.heap.size w wr) ∧ Hid (Rep wr p q kb 80 S) ∧ Hid (Wr wr adx N) ∧ Hid (Wr wr ad7 n) ∧ Hid (wr.ownsRow 0 28 41 (.slice ady ly.length cy) ly.length (flosC ly))) (fun i _ => N - (intOf i).toNat)
        case atStart => exact ⟨0, by omega, rfl, HB, HR, HWX, HW7, HOY⟩
        case round =>
          clear HB HR HWX HW7 HOY
          obtain ⟨m, hm, rfl, HB, HR, HWX, HW7, HOY⟩ := hrel
          by_cases hend2 : m = N
          · subst hend2
            clear HWX
            obtain ⟨wv, hwv⟩ : ∃ wv, wv = wr := ⟨_, rfl⟩
            subst hwv
            go_wp2_with fail
            go_loopw [12] (fun i wr => ∃ m : Nat, m ≤ n ∧ i = .int .i64 (m : Int) ∧ Hid (Below w.heap.size w wr) ∧ Hid (Rep wr p q kb 80 S) ∧ Hid (Wr wr ad7 n) ∧ Hid (wr.ownsRow 0 28 41 (.slice ady ly.length cy) ly.length (flosC ly))) (fun i _ => n - (intOf i).toNat)
            case atStart => exact ⟨0, by omega, rfl, HB, HR, HW7, HOY⟩
            case round =>
              clear HB HR HW7 HOY
              obtain ⟨m3, hm3, rfl, HB, HR, HW7, HOY⟩ := hrel
              by_cases hend3 : m3 = n
              · subst m3
                go_wp2_with (first
                  | (go_at_call 19; go_must (refine (list_law p q kb _ S _ (HR.out.keep bup)).mono ?_); rintro e w11 ⟨adz, cz, lz, rfl, hpm, hso, ho, hb__⟩; go_must (obtain rfl : ly = lz := (HTY.out.eq HR.out.good hso hpm).symm); have hE__ := cU HB bup hb__; replace HB := ck HB hE__; (try replace HOY := ck HOY hE__); clear hE__ hb__; have HZ := Lib.hid (Fls.of_own ho); clear ho hpm hso)
                  | (go_at_call 24; go_must (refine (same_at adz ady _ cz _ cy ly _ (HZ.out.below bup) (Fls.of_own (own_keep HOY.out bup))).mono ?_); rintro e w5 ⟨rfl, hb__⟩; have hE__ := cU HB bup hb__; replace HB := ck HB hE__; (try replace HOY := ck HOY hE__); clear hE__ hb__))
                go_ret
                exact ⟨rfl, (HB.out.trans (Below.mono bup HB.out.size))⟩
              have hlt3 : m3 < n := by omega
              rcases HW7.out with h0 | ⟨g7, rfl, _⟩
              · omega
              have hpg := H7P.out _ rfl
              simp only at hpg
              go_wp2_with (first
                | ((with_reducible refine sl 65 ?_); go_must (refine wpL_build rfl 28 #[] rfl [] rfl zeroF.cells.toArray zero_flow ?_); simp only [PT])
                | ((with_reducible show wpList _ _ _ (⟨none, .store _ (.tmp 66) (.tmp 65), _, _, _, _⟩ :: _) _ _); go_must (refine wpL_zeroFl rfl (.tmp 66) (.tmp 65) rfl g7 n m3 HW7.out hlt3 zeroW (by first | rfl | (simp; done)) rfl ?_); intro ws hw__ hg__; have HWn := Lib.hid hw__; clear HW7; have HW7 := HWn; clear HWn; go_must (have HBn := Lib.hid (HB.out.grown hg__ HB.out.size (fun k e => by cases e; have := HP.out; omega))); go_must (have HRn := Lib.hid (Rep.grown HR.out hg__ (by omega) (by omega))); go_must (have HOYn := Lib.hid (own_gr1 HOY.out hg__ (fun x hx => Nat.ne_of_gt (HY7.out _ rfl x hx)))); clear HB HR HOY hw__ hg__; have HB := HBn; have HR := HRn; have HOY := HOYn; clear HBn HRn HOYn; simp only [PT]))
              go_roundw
              case rel => exact ⟨m3 + 1, by omega, by go_num, HB, HR, HW7, HOY⟩
              case measure => first | (simp [intOf]; done) | (simp [intOf]; omega)
          have hlt2 : m < N := by omega
          rcases HWX.out with h0 | ⟨gx, rfl, _⟩
          · omega
          have hpg := HXP.out _ rfl
          simp only at hpg
          go_wp2_with (first
            | ((with_reducible refine sl 55 ?_); go_must (refine wpL_build rfl 28 #[] rfl [] rfl zeroF.cells.toArray zero_flow ?_); simp only [PT])
            | ((with_reducible show wpList _ _ _ (⟨none, .store _ (.tmp 56) (.tmp 55), _, _, _, _⟩ :: _) _ _); go_must (refine wpL_zeroFl rfl (.tmp 56) (.tmp 55) rfl gx N m HWX.out hlt2 zeroW (by first | rfl | (simp; done)) rfl ?_); intro ws hw__ hg__; have HWn := Lib.hid hw__; go_must (have HW7n := Lib.hid (Wr.gr1 HW7.out hg__ (fun x hx => Nat.ne_of_lt (HX7.out x hx _ rfl)))); clear HWX HW7; have HWX := HWn; have HW7 := HW7n; clear HW7n; clear HWn; go_must (have HBn := Lib.hid (HB.out.grown hg__ HB.out.size (fun k e => by cases e; have := HP.out; omega))); go_must (have HRn := Lib.hid (Rep.grown HR.out hg__ (by omega) (by omega))); go_must (have HOYn := Lib.hid (own_gr1 HOY.out hg__ (fun x hx => Nat.ne_of_gt (HYX.out _ rfl x hx)))); clear HB HR HOY hw__ hg__; have HB := HBn; have HR := HRn; have HOY := HOYn; clear HBn HRn HOYn; simp only [PT]))
          go_roundw
          case rel => exact ⟨m + 1, by omega, by go_num, HB, HR, HWX, HW7, HOY⟩
          case measure => first | (simp [intOf]; done) | (simp [intOf]; omega)
      have hlt : k < n := by omega
      obtain ⟨b, off, rfl, hbl, hat⟩ := (Fls.of_own HO.out).at (by have := HLN.out; omega)
      obtain ⟨x, hx⟩ : ∃ x, x = xs[k]'(by have := HLN.out; omega) := ⟨_, rfl⟩
      have HXR := Lib.hid (show wr.rangeAt b (off + k * 41) x.v.cells by rw [hx]; exact hat k (by have := HLN.out; omega))
      have HSZ : Hid (x.v.name.size ≤ 140737488351232) := Lib.hid (by rw [hx]; have := HF.out.2 _ (List.getElem_mem (show k < xs.length by have := HLN.out; omega)); omega)
      clear hx hat
      go_wp2_with (first
        | ((with_reducible refine sl 41 ?_); go_must (refine wpL_load rfl 28 (.tmp 40) rfl b (off + k * 41) rfl x.v.cells _ (range_keep HXR.out bup) Try.underlying28 rfl (one_size x) ?_); simp only [PT])
        | (go_at_call 21; (with_reducible show Calls _ _ #[_, .agg x.v.cells.toArray] _ _); go_must (refine (put_law p q kb _ S x HSZ.out _ (HR.out.keep bup)).mono ?_); rintro e w6 ⟨gone, left, err, S', rfl, hr, hb__, _⟩; have HBn := Lib.hid (But.below (p := p) (q := q) hb__ (HB.out.trans (Below.mono bup HB.out.size)) HP.out HQ.out (Nat.le_refl _)); go_must (have HOn := Lib.hid (own_but (own_keep HO.out bup) hb__ (by omega) (by omega))); clear HB HR HO hb__; have HB := HBn; have HO := HOn; clear HBn HOn; have HR := Lib.hid hr; clear hr))
      go_roundw
      case rel => exact ⟨k + 1, S', by omega, by go_num, HB, HR, HO⟩
      case measure => first | (simp [intOf]; done) | (simp [intOf]; omega)
end Go.Proofs.Ytgpdlhbndoeldaa
