/-
  Joined by program (merge.py): Flo22, Fls, Fls2, PlainFlo, FloKit, Stl, Swp1.
-/
import Derived.Deep.QuietTactic
import Derived.BigQuiet
import Derived.Test.YtgpdlhbndoeldaaC2
import Derived.Test.YtgpdlhbndoeldaaC6
/-
  Chapter 21: the anchor: walked (written by gen/flo22.py).
-/
namespace Go.Proofs.Ytgpdlhbndoeldaa
open Go.RowKit Go.Sort
set_option linter.unusedVariables false
set_option linter.unusedSimpArgs false
set_option maxRecDepth 100000
set_option maxHeartbeats 16000000

def kb0 : List UInt8 := List.replicate 16 0
theorem one_size (x : FloW) : (Try.prog.info? 28).map (·.size) = some x.v.cells.length := by rw [FloW.length]; exact flo_size
theorem wpL_eqF {ops : Array Oper} {rest : List Oper} {o : Oper} {a : Act} {w : World} {Q : Exit → Act → World → Prop} (x y : FloW) (b : Bool) (hb : b = true ↔ x.v = y.v) (hgd : Region.wanted o (yielded ops a.tmps) = true) (X Y : Operand) (ho : o.op = .binOp .eql 28 X Y 28)
    (hx : a.eval X = .agg x.v.cells.toArray) (hy : a.eval Y = .agg y.v.cells.toArray) (h : wpList Try.prog ops Q rest (a.put o.dst (.bool b)) w) : wpList Try.prog ops Q (o :: rest) a w := by
  refine wpL_run hgd ?_ h
  have hh := equal_flo x.v y.v x.ok y.ok b hb w
  have hgd := run_eqGuard_agg (P := Try.prog) w .eql 28 X Y x.v.cells.toArray y.v.cells.toArray (by kernel_rfl)
  have hes := run_eql_struct (P := Try.prog) w 28 x.v.cells.toArray y.v.cells.toArray
  rw [hh] at hes
  simp only [execOp, ho, hx, hy, Sem.run_bind, hgd, hes, Result.andThen_ok, Sem.run_pure]
theorem range_keep {w w' : World} {b off : Nat} {cs : List Value} (h : w.rangeAt b off cs) (hb : Below w.heap.size w w') : w'.rangeAt b off cs := fun j u hj => by
  have hc := h j u hj
  rw [hb.cell (World.block_lt_of_cell? w _ hc)]
  exact hc
theorem field_key (x : FloW) (w : World) : (Instr.field 28 (.agg x.v.cells.toArray) 0).run Try.prog w = .ok (.agg x.v.key.cells.toArray) w := by
  have e : x.v.cells.toArray.extract 0 (0 + 37) = x.v.key.cells.toArray := by
    rw [List.extract_toArray]
    have h := Tup.length x.ok.1
    unfold Flo.cells
    simp [List.extract_eq_take_drop, h]
  have hc : Try.prog.cellsOf 26 = 37 := by kernel_rfl
  obtain ⟨i, hi⟩ : ∃ i, Try.prog.info? 26 = some i := by
    have h : ((Try.prog.info? 26).map (·.size)) = some 37 := by kernel_rfl
    cases hh : Try.prog.info? 26 with
    | none => rw [hh] at h; cases h
    | some i => exact ⟨i, rfl⟩
  simp only [Instr.field, Sem.run_bind, run_underlying Try.underlying28, Result.andThen_ok]
  simp only [part, isAgg, asAgg, Sem.run_bind, Sem.run_pure, Result.andThen_ok, List.getElem?_toArray, List.getElem?_cons_zero, run_underlying Try.underlying26, run_sizeOf _ hi, hc, if_true, e]
theorem wpL_field {P : Program} {ops : Array Oper} {rest : List Oper} {o : Oper} {a : Act} {w : World} {Q : Exit → Act → World → Prop} (hgd : Region.wanted o (yielded ops a.tmps) = true) (T : TypeId) (X : Operand) (i : Nat) (ho : o.op = .field T X i) (xs ys : Array Value) (hx : a.eval X = .agg xs) (hr : ∀ w, (Instr.field T (.agg xs) i).run P w = .ok (.agg ys) w) (h : wpList P ops Q rest (a.put o.dst (.agg ys)) w) : wpList P ops Q (o :: rest) a w := by
  refine wpL_run hgd ?_ h
  unfold execOp
  simp only [ho, hx, Sem.run_bind, hr, Result.andThen_ok, Sem.run_pure]
theorem yields_field {P : Program} {ops : Array Oper} {S : World → Prop} {o : Oper} {a : Act} (hgd : Region.wanted o (yielded ops a.tmps) = true) (T : TypeId) (X : Operand) (i : Nat) (ho : o.op = .field T X i) (xs ys : Array Value) (hx : a.eval X = .agg xs) (hr : ∀ w, (Instr.field T (.agg xs) i).run P w = .ok (.agg ys) w) : YieldsIf P ops S o (.agg ys) a := by
  refine Or.inl ⟨hgd, fun w _ => ?_⟩
  unfold execOp
  simp only [ho, hx, Sem.run_bind, hr, Result.andThen_ok, Sem.run_pure]
theorem yields_eqF {ops : Array Oper} {S : World → Prop} {o : Oper} {a : Act} (x y : FloW) (b : Bool) (hb : b = true ↔ x.v = y.v) (hgd : Region.wanted o (yielded ops a.tmps) = true) (X Y : Operand) (ho : o.op = .binOp .eql 28 X Y 28)
    (hx : a.eval X = .agg x.v.cells.toArray) (hy : a.eval Y = .agg y.v.cells.toArray) : YieldsIf Try.prog ops S o (.bool b) a := by
  refine Or.inl ⟨hgd, fun w _ => ?_⟩
  have hh := equal_flo x.v y.v x.ok y.ok b hb w
  have hgd := run_eqGuard_agg (P := Try.prog) w .eql 28 X Y x.v.cells.toArray y.v.cells.toArray (by kernel_rfl)
  have hes := run_eql_struct (P := Try.prog) w 28 x.v.cells.toArray y.v.cells.toArray
  rw [hh] at hes
  simp only [execOp, ho, hx, hy, Sem.run_bind, hgd, hes, Result.andThen_ok, Sem.run_pure]
/-- what the answer's region reads -/
def AwF (g h b : Nat) (u : World) : Prop := u.heap[g]? = some (.cells one3.v.cells.toArray 28 (0, 0)) ∧ u.heap[h]? = some (.cells one9.v.cells.toArray 28 (0, 0)) ∧ u.rangeAt b 0 one5.v.cells
theorem AwF.keep {g h b : Nat} {w w' : World} (k : AwF g h b w) (hE : Below w.heap.size w w') : AwF g h b w' := ⟨(hE.block g (lt_of_block k.1)).trans k.1, (hE.block h (lt_of_block k.2.1)).trans k.2.1, range_keep k.2.2 hE⟩
instance {g h b : Nat} {w w' : World} : Ck (AwF g h b w) w' w (AwF g h b w') := ⟨fun k hE => k.keep hE⟩
theorem AwF.but {p q g h b : Nat} {w w' : World} (k : AwF g h b w) (hb : But p q w w') (hg : p < g) (hh : p < h) (hbb : p < b) (hqp : q < p) : AwF g h b w' :=
  ⟨(hb.block g (lt_of_block k.1) (by omega) (by omega)).trans k.1, (hb.block h (lt_of_block k.2.1) (by omega) (by omega)).trans k.2.1, fun j v hj => by
    have := k.2.2 j v hj
    unfold World.cell? at this ⊢
    rw [hb.block b (by cases hq : w.heap[b]? with
      | none => simp [hq] at this
      | some x => exact lt_of_block hq) (by omega) (by omega)]
    exact this⟩
/-- a new variable, its block named -/
theorem wpL_newG {P : Program} {w : World} {ops : Array Oper} {rest : List Oper} {o1 o2 : Oper} {a : Act} {Q : Exit → Act → World → Prop} (hg1 : o1.guard = none) (hg2 : o2.guard = none) (T : TypeId) (ho1 : o1.op = .alloc T) (x y : Operand) (ho2 : o2.op = .store T x y)
    (cs zs : Array Value) (hi : (P.info? T).map (fun i => (i.zero, i.size)) = some (some (.agg zs), cs.size)) (hz : zs.size = cs.size) (h1 : cs.all (·.oneCell') = true)
    (hx : ∀ p, (a.put o1.dst p).eval x = p) (hy : ∀ p, (a.put o1.dst p).eval y = .agg cs)
    (h : ∀ w1 g, w.heap.size ≤ g → w1.heap[g]? = some (.cells cs T (0, 0)) → Below w.heap.size w w1 → wpList P ops Q rest ((a.put o1.dst (.pointer (some ⟨g, 0, none⟩))).put o2.dst undef) w1) :
    wpList P ops Q (o1 :: o2 :: rest) a w :=
  wpL_newR hg1 hg2 T ho1 x y ho2 cs zs hi hz h1 hx hy (fun w1 hg hb => h w1 _ (Nat.le_refl _) hg hb)
theorem own_two {w : World} {base : Nat} {ad : Option Addr} {c : Nat} {x y : FloW} (h : w.ownsRow base 28 41 (.slice ad 2 c) 2 (flosC [x, y])) : ∃ b, ad = some ⟨b, 0, none⟩ ∧ base ≤ b ∧ w.rangeAt b 0 x.v.cells := by
  rcases h.2 with ⟨h2, h0⟩ | ⟨g, cap, cur, hv, hb, hg, hnc, hcm, hcs, ht⟩
  · cases h0
  · simp only [Value.slice.injEq] at hv
    refine ⟨g, hv.1, hb, fun j v hj => ?_⟩
    have hj41 : j < 41 := by have := (List.getElem?_eq_some_iff.1 hj).1; rw [FloW.length] at this; exact this
    have e := flosC_at [x, y] 0 j (by simp) hj41
    rw [← ht, List.getElem?_take, if_pos (by omega), Nat.zero_mul, Nat.zero_add, Array.getElem?_toList] at e
    simp only [World.cell?, hg, Nat.zero_add]
    rw [show (cur[j]? : Option Value) = some v from e.trans hj]
    rfl
theorem len_two (p q : Nat) (kb : List UInt8) (S : List Slt) (hS : (flowsS S).Perm [one9, one5]) (w : World) (h : Rep w p q kb 2 S) : Calls Try.prog 12 #[.pointer (some ⟨p, 0, none⟩)] w fun e w' => e = .returned (.int .i64 2) ∧ Below w.heap.size w w' :=
  (len_rep p q kb 2 S w h).mono fun e w' ⟨he, hb⟩ => by rw [hS.length_eq] at he; exact ⟨he, hb⟩
theorem len_one (p q : Nat) (kb : List UInt8) (S : List Slt) (hS : (flowsS S).Perm [one9]) (w : World) (h : Rep w p q kb 2 S) : Calls Try.prog 12 #[.pointer (some ⟨p, 0, none⟩)] w fun e w' => e = .returned (.int .i64 1) ∧ Below w.heap.size w w' :=
  (len_rep p q kb 2 S w h).mono fun e w' ⟨he, hb⟩ => by rw [hS.length_eq] at he; exact ⟨he, hb⟩
theorem awake_any (w : World) : Calls Try.prog 10 #[] w fun e w' => e = .returned (.bool true) ∧ Below w.heap.size w w' := by
  have HB := Lib.hid (Below.refl w.heap.size w)
  have HK0 : Hid (Try.prog.built 22 [] = some (BV kb0).toArray) := Lib.hid (by kernel_rfl)
  go_enter Try.func10, Try.ntmps10
  go_wp2_with (first
    | ((with_reducible refine sl 23 ?_); go_must (refine wpL_build rfl 22 #[] rfl [] rfl (BV kb0).toArray HK0.out ?_); simp only [PT])
    | ((with_reducible refine sl 28 ?_); go_must (refine wpL_build rfl 22 #[] rfl [] rfl (BV kb0).toArray HK0.out ?_); simp only [PT])
    | (go_at_call 11; (with_reducible show Calls _ _ #[_, .int .i64 2] _ _); go_must (refine (new_rep kb0 rfl 2 (by omega) (by omega) _).mono ?_); rintro e w1 ⟨p, q, S0, rfl, hr, hS0, lq, lqp, hb__⟩; have hpq0 : w.heap.size ≤ p := (by have := HB.out.size; omega); have hq0 : w.heap.size ≤ q := (by have := HB.out.size; omega); have hE__ := cU HB bup hb__; replace HB := ck HB hE__; (try replace HR := ck HR hE__); (try replace HG11 := ck HG11 hE__); (try replace HG17 := ck HG17 hE__); (try replace HL := ck HL hE__); clear hE__; have HR := Lib.hid hr; have HS0 := Lib.hid hS0; clear hb__ hr hS0)
    | (go_at_call 11; (with_reducible show Calls _ _ #[_, .int .i64 0] _ _); go_must (refine (new_any kb0 rfl 0 _).mono ?_); rintro e w2 ⟨h | ⟨h, _⟩, hb__⟩; rotate_left; exact absurd h (by omega); obtain ⟨_, rfl⟩ := h; have hE__ := cU HB bup hb__; replace HB := ck HB hE__; (try replace HR := ck HR hE__); (try replace HG11 := ck HG11 hE__); (try replace HG17 := ck HG17 hE__); (try replace HL := ck HL hE__); clear hE__; clear hb__)
    | (go_at_call 31; (with_reducible show Calls _ _ #[.int .i64 1] _ _); go_must (refine (one_1 _).mono ?_); rintro e w3 ⟨rfl, hb__⟩; have hE__ := cU HB bup hb__; replace HB := ck HB hE__; (try replace HR := ck HR hE__); (try replace HG11 := ck HG11 hE__); (try replace HG17 := ck HG17 hE__); (try replace HL := ck HL hE__); clear hE__; clear hb__)
    | (go_at_call 31; (with_reducible show Calls _ _ #[.int .i64 2] _ _); go_must (refine (one_2 _).mono ?_); rintro e w3 ⟨rfl, hb__⟩; have hE__ := cU HB bup hb__; replace HB := ck HB hE__; (try replace HR := ck HR hE__); (try replace HG11 := ck HG11 hE__); (try replace HG17 := ck HG17 hE__); (try replace HL := ck HL hE__); clear hE__; clear hb__)
    | (go_at_call 31; (with_reducible show Calls _ _ #[.int .i64 3] _ _); go_must (refine (one_3 _).mono ?_); rintro e w3 ⟨rfl, hb__⟩; have hE__ := cU HB bup hb__; replace HB := ck HB hE__; (try replace HR := ck HR hE__); (try replace HG11 := ck HG11 hE__); (try replace HG17 := ck HG17 hE__); (try replace HL := ck HL hE__); clear hE__; clear hb__)
    | (go_at_call 31; (with_reducible show Calls _ _ #[.int .i64 5] _ _); go_must (refine (one_5 _).mono ?_); rintro e w3 ⟨rfl, hb__⟩; have hE__ := cU HB bup hb__; replace HB := ck HB hE__; (try replace HR := ck HR hE__); (try replace HG11 := ck HG11 hE__); (try replace HG17 := ck HG17 hE__); (try replace HL := ck HL hE__); clear hE__; clear hb__)
    | (go_at_call 31; (with_reducible show Calls _ _ #[.int .i64 9] _ _); go_must (refine (one_9 _).mono ?_); rintro e w3 ⟨rfl, hb__⟩; have hE__ := cU HB bup hb__; replace HB := ck HB hE__; (try replace HR := ck HR hE__); (try replace HG11 := ck HG11 hE__); (try replace HG17 := ck HG17 hE__); (try replace HL := ck HL hE__); clear hE__; clear hb__)
    | (go_at_call 21; (with_reducible show Calls _ _ #[_, .agg one5.v.cells.toArray] _ _); go_must (refine (put5_any p q kb0 S0 HS0.out _ HR.out).mono ?_); rintro e w4 ⟨S1, rfl, hr, hs, hb__⟩; have HBn := Lib.hid (But.below (p := p) (q := q) hb__ HB.out hpq0 hq0 (Nat.le_refl _)); clear HR HB; have HB := HBn; clear HBn; have HR := Lib.hid hr; have HS1 := Lib.hid hs; clear hr hs hb__)
    | (go_at_call 21; (with_reducible show Calls _ _ #[_, .agg one3.v.cells.toArray] _ _); go_must (refine (put3_any p q kb0 S1 HS1.out _ HR.out).mono ?_); rintro e w4 ⟨S2, rfl, hr, hs, hb__⟩; have HBn := Lib.hid (But.below (p := p) (q := q) hb__ HB.out hpq0 hq0 (Nat.le_refl _)); clear HR HB; have HB := HBn; clear HBn; have HR := Lib.hid hr; have HS2 := Lib.hid hs; clear hr hs hb__)
    | (go_at_call 21; (with_reducible show Calls _ _ #[_, .agg one9.v.cells.toArray] _ _); go_must (refine (put9_any p q kb0 S2 HS2.out _ HR.out).mono ?_); rintro e w4 ⟨S3, rfl, hr, hs, hb__⟩; have HBn := Lib.hid (But.below (p := p) (q := q) hb__ HB.out hpq0 hq0 (Nat.le_refl _)); clear HR HB; have HB := HBn; clear HBn; have HR := Lib.hid hr; have HS3 := Lib.hid hs; clear hr hs hb__)
    | ((with_reducible refine sl 61 ?_); go_must (refine wpL_build rfl 28 #[] rfl [] rfl zeroF.cells.toArray zero_flow ?_); simp only [PT])
    | (go_at_call 21; (with_reducible show Calls _ _ #[_, .agg zeroF.cells.toArray] _ _); go_must (refine (put_wrong p q ⟨zeroF, zeroF_ok⟩ (by decide) (by kernel_rfl) _).mono ?_); rintro e w4 ⟨rfl, hb__⟩; have hE__ := cU HB bup hb__; replace HB := ck HB hE__; (try replace HR := ck HR hE__); (try replace HG11 := ck HG11 hE__); (try replace HG17 := ck HG17 hE__); (try replace HL := ck HL hE__); clear hE__; clear hb__)
    | ((with_reducible refine sl 5 ?_); go_must (refine wpL_newG rfl rfl 28 rfl (.tmp 5) (.tmp 42) rfl (zeroF).cells.toArray zeroF.cells.toArray (by rw [List.size_toArray]; exact (show _ = some (some _, zeroF.cells.length) by rw [show zeroF.cells.length = 41 from by first | exact Flo.length zeroF_ok | exact FloW.length _]; exact flo_info)) (by simp only [List.size_toArray, FloW.length, Flo.length zeroF_ok]) (flo_one _) (fun _ => rfl) (fun _ => rfl) ?_); intro w6 g5 le__ hg__ hb__; have hE__ := cU HB bup hb__; replace HB := ck HB hE__; (try replace HR := ck HR hE__); (try replace HG11 := ck HG11 hE__); (try replace HG17 := ck HG17 hE__); (try replace HL := ck HL hE__); clear hE__; clear le__ hg__ hb__; simp only [PT])
    | ((with_reducible refine sl 8 ?_); go_must (refine wpL_newG rfl rfl 28 rfl (.tmp 8) (.tmp 49) rfl (zeroF).cells.toArray zeroF.cells.toArray (by rw [List.size_toArray]; exact (show _ = some (some _, zeroF.cells.length) by rw [show zeroF.cells.length = 41 from by first | exact Flo.length zeroF_ok | exact FloW.length _]; exact flo_info)) (by simp only [List.size_toArray, FloW.length, Flo.length zeroF_ok]) (flo_one _) (fun _ => rfl) (fun _ => rfl) ?_); intro w6 g8 le__ hg__ hb__; have hE__ := cU HB bup hb__; replace HB := ck HB hE__; (try replace HR := ck HR hE__); (try replace HG11 := ck HG11 hE__); (try replace HG17 := ck HG17 hE__); (try replace HL := ck HL hE__); clear hE__; clear le__ hg__ hb__; simp only [PT])
    | ((with_reducible refine sl 11 ?_); go_must (refine wpL_newG rfl rfl 28 rfl (.tmp 11) (.tmp 56) rfl (one3.v).cells.toArray zeroF.cells.toArray (by rw [List.size_toArray]; exact (show _ = some (some _, one3.v.cells.length) by rw [show one3.v.cells.length = 41 from by first | exact Flo.length zeroF_ok | exact FloW.length _]; exact flo_info)) (by simp only [List.size_toArray, FloW.length, Flo.length zeroF_ok]) (flo_one _) (fun _ => rfl) (fun _ => rfl) ?_); intro w6 g11 le__ hg__ hb__; have pg11 : p < g11 := Nat.lt_of_lt_of_le (lt_of_block HR.out.tb.hp) le__; have hE__ := cU HB bup hb__; replace HB := ck HB hE__; (try replace HR := ck HR hE__); (try replace HG11 := ck HG11 hE__); (try replace HG17 := ck HG17 hE__); (try replace HL := ck HL hE__); clear hE__; have HG11 := Lib.hid hg__; clear le__ hg__ hb__; simp only [PT])
    | ((with_reducible refine sl 14 ?_); go_must (refine wpL_newG rfl rfl 28 rfl (.tmp 14) (.tmp 63) rfl (zeroF).cells.toArray zeroF.cells.toArray (by rw [List.size_toArray]; exact (show _ = some (some _, zeroF.cells.length) by rw [show zeroF.cells.length = 41 from by first | exact Flo.length zeroF_ok | exact FloW.length _]; exact flo_info)) (by simp only [List.size_toArray, FloW.length, Flo.length zeroF_ok]) (flo_one _) (fun _ => rfl) (fun _ => rfl) ?_); intro w6 g14 le__ hg__ hb__; have hE__ := cU HB bup hb__; replace HB := ck HB hE__; (try replace HR := ck HR hE__); (try replace HG11 := ck HG11 hE__); (try replace HG17 := ck HG17 hE__); (try replace HL := ck HL hE__); clear hE__; clear le__ hg__ hb__; simp only [PT])
    | ((with_reducible refine sl 17 ?_); go_must (refine wpL_newG rfl rfl 28 rfl (.tmp 17) (.tmp 71) rfl (one9.v).cells.toArray zeroF.cells.toArray (by rw [List.size_toArray]; exact (show _ = some (some _, one9.v.cells.length) by rw [show one9.v.cells.length = 41 from by first | exact Flo.length zeroF_ok | exact FloW.length _]; exact flo_info)) (by simp only [List.size_toArray, FloW.length, Flo.length zeroF_ok]) (flo_one _) (fun _ => rfl) (fun _ => rfl) ?_); intro w6 g17 le__ hg__ hb__; have pg17 : p < g17 := Nat.lt_of_lt_of_le (lt_of_block HR.out.tb.hp) le__; have hE__ := cU HB bup hb__; replace HB := ck HB hE__; (try replace HR := ck HR hE__); (try replace HG11 := ck HG11 hE__); (try replace HG17 := ck HG17 hE__); (try replace HL := ck HL hE__); clear hE__; have HG17 := Lib.hid hg__; clear le__ hg__ hb__; simp only [PT])
    | ((with_reducible refine sl 19 ?_); go_must (refine wpL_newG rfl rfl 28 rfl (.tmp 19) (.tmp 78) rfl (zeroF).cells.toArray zeroF.cells.toArray (by rw [List.size_toArray]; exact (show _ = some (some _, zeroF.cells.length) by rw [show zeroF.cells.length = 41 from by first | exact Flo.length zeroF_ok | exact FloW.length _]; exact flo_info)) (by simp only [List.size_toArray, FloW.length, Flo.length zeroF_ok]) (flo_one _) (fun _ => rfl) (fun _ => rfl) ?_); intro w6 g19 le__ hg__ hb__; have hE__ := cU HB bup hb__; replace HB := ck HB hE__; (try replace HR := ck HR hE__); (try replace HG11 := ck HG11 hE__); (try replace HG17 := ck HG17 hE__); (try replace HL := ck HL hE__); clear hE__; clear le__ hg__ hb__; simp only [PT])
    | ((with_reducible refine sl 69 ?_); go_must (refine wpL_field rfl 28 (.tmp 68) 0 rfl one9.v.cells.toArray one9.v.key.cells.toArray rfl (field_key one9) ?_); simp only [PT])
    | ((with_reducible refine sl 76 ?_); go_must (refine wpL_field rfl 28 (.tmp 75) 0 rfl one3.v.cells.toArray one3.v.key.cells.toArray rfl (field_key one3) ?_); simp only [PT])
    | ((with_reducible refine sl 149 ?_); go_must (refine wpL_field rfl 28 (.tmp 148) 0 rfl one5.v.cells.toArray one5.v.key.cells.toArray rfl (field_key one5) ?_); simp only [PT])
    | ((with_reducible refine sl 155 ?_); go_must (refine wpL_field rfl 28 (.tmp 154) 0 rfl one5.v.cells.toArray one5.v.key.cells.toArray rfl (field_key one5) ?_); simp only [PT])
    | (go_at_call 20; (with_reducible show Calls _ _ #[_, .agg one9.v.key.cells.toArray] _ _); go_must (refine (get9_any p q kb0 S3 HS3.out _ HR.out).mono ?_); rintro e w4 ⟨rfl, hb__⟩; have hE__ := cU HB bup hb__; replace HB := ck HB hE__; (try replace HR := ck HR hE__); (try replace HG11 := ck HG11 hE__); (try replace HG17 := ck HG17 hE__); (try replace HL := ck HL hE__); clear hE__; clear hb__)
    | (go_at_call 20; (with_reducible show Calls _ _ #[_, .agg one3.v.key.cells.toArray] _ _); go_must (refine (get3_any p q kb0 S3 HS3.out _ HR.out).mono ?_); rintro e w4 ⟨rfl, hb__⟩; have hE__ := cU HB bup hb__; replace HB := ck HB hE__; (try replace HR := ck HR hE__); (try replace HG11 := ck HG11 hE__); (try replace HG17 := ck HG17 hE__); (try replace HL := ck HL hE__); clear hE__; clear hb__)
    | (go_at_call 19; go_must (refine (list9_any p q kb0 S3 HS3.out _ HR.out).mono ?_); rintro e w4 ⟨ad, cL, rfl, ho, hb__⟩; obtain ⟨bL, rfl, hbL__, hLB__⟩ := own_two ho; have pgL : p < bL := Nat.lt_of_lt_of_le (lt_of_block HR.out.tb.hp) hbL__; have hE__ := cU HB bup hb__; replace HB := ck HB hE__; (try replace HR := ck HR hE__); (try replace HG11 := ck HG11 hE__); (try replace HG17 := ck HG17 hE__); (try replace HL := ck HL hE__); clear hE__; have HL := Lib.hid hLB__; clear hb__ ho hbL__ hLB__))
  have HA := Lib.hid (show AwF g11 g17 bL _ from ⟨HG11.out, HG17.out, HL.out⟩)
  clear HG11 HG17 HL
  refine wp_region_held_drew (S := fun u__ => AwF g11 g17 bL u__) (by kernel_rfl) ?_ (fun hHeld => ?_)
  focus (exact HA.out)
  refine tk 0 (oi := ⟨some 82, _, _, _, _, _⟩) (v := ?_) rfl (by kernel_rfl) (.inl ⟨by rfl, ?_⟩) hHeld ?_; rotate_left; focus (intro w hSw; (try dsimp only at hSw); go_simp; try with_reducible rfl)
  simp only [PT]
  refine tk 1 (oi := ⟨some 83, _, _, _, _, _⟩) (v := ?_) rfl (by kernel_rfl) (.inl ⟨by rfl, ?_⟩) hHeld ?_; rotate_left; focus (intro w hSw; (try dsimp only at hSw); go_simp; try with_reducible rfl)
  simp only [PT]
  refine tk 2 (oi := ⟨some 84, _, _, _, _, _⟩) (v := ?_) rfl (by kernel_rfl) (.inl ⟨by rfl, ?_⟩) hHeld ?_; rotate_left; focus (intro w hSw; (try dsimp only at hSw); go_simp; try with_reducible rfl)
  simp only [PT]
  first | (refine tk 3 (oi := ⟨some 85, _, _, _, _, _⟩) (v := undef) rfl (by kernel_rfl) (.inr ⟨by rfl, rfl⟩) hHeld ?_) | (refine tk 3 (oi := ⟨some 85, _, _, _, _, _⟩) (v := ?_) rfl (by kernel_rfl) (.inl ⟨by rfl, ?_⟩) hHeld ?_; rotate_left; focus (intro w hSw; (try dsimp only at hSw); go_simp; try with_reducible rfl))
  simp only [PT]
  first | (refine tk 4 (oi := ⟨some 86, _, _, _, _, _⟩) (v := undef) rfl (by kernel_rfl) (.inr ⟨by rfl, rfl⟩) hHeld ?_) | (refine tk 4 (oi := ⟨some 86, _, _, _, _, _⟩) (v := ?_) rfl (by kernel_rfl) (.inl ⟨by rfl, ?_⟩) hHeld ?_; rotate_left; focus (intro w hSw; (try dsimp only at hSw); go_simp; try with_reducible rfl))
  simp only [PT]
  refine tk 5 (oi := ⟨some 87, _, _, _, _, _⟩) (v := ?_) rfl (by kernel_rfl) (.inl ⟨by rfl, ?_⟩) hHeld ?_; rotate_left; focus (intro w hSw; (try dsimp only at hSw); go_simp; try with_reducible rfl)
  simp only [PT]
  refine tk 6 (oi := ⟨some 88, _, _, _, _, _⟩) (v := ?_) rfl (by kernel_rfl) (.inl ⟨by rfl, ?_⟩) hHeld ?_; rotate_left; focus (intro w hSw; (try dsimp only at hSw); go_simp; try with_reducible rfl)
  simp only [PT]
  first | (refine tk 7 (oi := ⟨some 89, _, _, _, _, _⟩) (v := undef) rfl (by kernel_rfl) (.inr ⟨by rfl, rfl⟩) hHeld ?_) | (refine tk 7 (oi := ⟨some 89, _, _, _, _, _⟩) (v := ?_) rfl (by kernel_rfl) (.inl ⟨by rfl, ?_⟩) hHeld ?_; rotate_left; focus (intro w hSw; (try dsimp only at hSw); go_simp; try with_reducible rfl))
  simp only [PT]
  first | (refine tk 8 (oi := ⟨some 90, _, _, _, _, _⟩) (v := undef) rfl (by kernel_rfl) (.inr ⟨by rfl, rfl⟩) hHeld ?_) | (refine tk 8 (oi := ⟨some 90, _, _, _, _, _⟩) (v := ?_) rfl (by kernel_rfl) (.inl ⟨by rfl, ?_⟩) hHeld ?_; rotate_left; focus (intro w hSw; (try dsimp only at hSw); go_simp; try with_reducible rfl))
  simp only [PT]
  refine tk 9 (oi := ⟨some 91, _, _, _, _, _⟩) (v := ?_) rfl (by kernel_rfl) (.inl ⟨by rfl, ?_⟩) hHeld ?_; rotate_left; focus (intro w hSw; (try dsimp only at hSw); go_simp; try with_reducible rfl)
  simp only [PT]
  refine tk 10 (oi := ⟨some 92, _, _, _, _, _⟩) (v := ?_) rfl (by kernel_rfl) (.inl ⟨by rfl, ?_⟩) hHeld ?_; rotate_left; focus (intro w hSw; (try dsimp only at hSw); go_simp; try with_reducible rfl)
  simp only [PT]
  first | (refine tk 11 (oi := ⟨some 93, _, _, _, _, _⟩) (v := undef) rfl (by kernel_rfl) (.inr ⟨by rfl, rfl⟩) hHeld ?_) | (refine tk 11 (oi := ⟨some 93, _, _, _, _, _⟩) (v := ?_) rfl (by kernel_rfl) (.inl ⟨by rfl, ?_⟩) hHeld ?_; rotate_left; focus (intro w hSw; (try dsimp only at hSw); go_simp; try with_reducible rfl))
  simp only [PT]
  refine tk 12 (oi := ⟨some 94, _, _, _, _, _⟩) (v := ?_) rfl (by kernel_rfl) (.inl ⟨by rfl, ?_⟩) hHeld ?_; rotate_left; focus (intro w hSw; (try dsimp only at hSw); go_simp; try with_reducible rfl)
  simp only [PT]
  refine tk 13 (oi := ⟨some 95, _, _, _, _, _⟩) (v := ?_) rfl (by kernel_rfl) (.inl ⟨by rfl, ?_⟩) hHeld ?_; rotate_left; focus (intro w hSw; (try dsimp only at hSw); go_simp; try with_reducible rfl)
  simp only [PT]
  first | (refine tk 14 (oi := ⟨some 96, _, _, _, _, _⟩) (v := undef) rfl (by kernel_rfl) (.inr ⟨by rfl, rfl⟩) hHeld ?_) | (refine tk 14 (oi := ⟨some 96, _, _, _, _, _⟩) (v := ?_) rfl (by kernel_rfl) (.inl ⟨by rfl, ?_⟩) hHeld ?_; rotate_left; focus (intro w hSw; (try dsimp only at hSw); go_simp; try with_reducible rfl))
  simp only [PT]
  first | (refine tk 15 (oi := ⟨some 97, _, _, _, _, _⟩) (v := undef) rfl (by kernel_rfl) (.inr ⟨by rfl, rfl⟩) hHeld ?_) | (refine tk 15 (oi := ⟨some 97, _, _, _, _, _⟩) (v := ?_) rfl (by kernel_rfl) (.inl ⟨by rfl, ?_⟩) hHeld ?_; rotate_left; focus (intro w hSw; (try dsimp only at hSw); go_simp; try with_reducible rfl))
  simp only [PT]
  refine tk 16 (oi := ⟨some 98, _, _, _, _, _⟩) (v := ?_) rfl (by kernel_rfl) (.inl ⟨by rfl, ?_⟩) hHeld ?_; rotate_left; focus (intro w hSw; (try dsimp only at hSw); go_simp; try with_reducible rfl)
  simp only [PT]
  refine tk 17 (oi := ⟨some 99, _, _, _, _, _⟩) (v := ?_) rfl (by kernel_rfl) (.inl ⟨by rfl, ?_⟩) hHeld ?_; rotate_left; focus (intro w hSw; (try dsimp only at hSw); go_simp; try with_reducible rfl)
  simp only [PT]
  first | (refine tk 18 (oi := ⟨some 100, _, _, _, _, _⟩) (v := undef) rfl (by kernel_rfl) (.inr ⟨by rfl, rfl⟩) hHeld ?_) | (refine tk 18 (oi := ⟨some 100, _, _, _, _, _⟩) (v := ?_) rfl (by kernel_rfl) (.inl ⟨by rfl, ?_⟩) hHeld ?_; rotate_left; focus (intro w hSw; (try dsimp only at hSw); go_simp; try with_reducible rfl))
  simp only [PT]
  first | (refine tk 19 (oi := ⟨some 101, _, _, _, _, _⟩) (v := undef) rfl (by kernel_rfl) (.inr ⟨by rfl, rfl⟩) hHeld ?_) | (refine tk 19 (oi := ⟨some 101, _, _, _, _, _⟩) (v := ?_) rfl (by kernel_rfl) (.inl ⟨by rfl, ?_⟩) hHeld ?_; rotate_left; focus (intro w hSw; (try dsimp only at hSw); go_simp; try with_reducible rfl))
  simp only [PT]
  refine tk 20 (oi := ⟨some 102, _, _, _, _, _⟩) (v := ?_) rfl (by kernel_rfl) (.inl ⟨by rfl, ?_⟩) hHeld ?_; rotate_left; focus (intro w hSw; (try dsimp only at hSw); go_simp; try with_reducible rfl)
  simp only [PT]
  refine tk 21 (oi := ⟨some 103, _, _, _, _, _⟩) (v := ?_) rfl (by kernel_rfl) (.inl ⟨by rfl, ?_⟩) hHeld ?_; rotate_left; focus (intro w hSw; (try dsimp only at hSw); go_simp; try with_reducible rfl)
  simp only [PT]
  first | (refine tk 22 (oi := ⟨some 104, _, _, _, _, _⟩) (v := undef) rfl (by kernel_rfl) (.inr ⟨by rfl, rfl⟩) hHeld ?_) | (refine' tk 22 (oi := ⟨some 104, _, _, _, _, _⟩) (v := _) rfl (by kernel_rfl) (yieldsIf_load_mid (by rfl) _ _ rfl _ _ rfl (one3.v.cells) _ (fun _ h => range_block h.1) (Try.underlying28) rfl (one_size one3)) hHeld ?_)
  simp only [PT]
  refine wpAnyH_ready (rs := [23]) (by kernel_rfl) (by simp) ?_
  refine (AllReadyH.cons (o := ⟨some 105, _, _, _, _, _⟩) rfl (fun K hK => ?_) AllReadyH.nil)
  focus (go_simp; go_must (refine (one_3 _).mono ?_); rintro e w3 ⟨rfl, hb__⟩; have hE__ := cU HB bup hb__; replace HB := ck HB hE__; replace HR := ck HR hE__; replace HA := ck HA hE__; clear hE__ hb__; go_wp2_with fail)
  refine hK.out _ _ ?_ (fun hHeld => ?_)
  focus (exact HA.out)
  clear hK K
  try simp only [PT]
  first | (refine tk 24 (oi := ⟨some 106, _, _, _, _, _⟩) (v := undef) rfl (by kernel_rfl) (.inr ⟨by rfl, rfl⟩) hHeld ?_) | (refine' tk 24 (oi := ⟨some 106, _, _, _, _, _⟩) (v := _) rfl (by kernel_rfl) (yields_eqF one3 one3 true (by simp) (by rfl) (.tmp 104) (.tmp 105) rfl rfl rfl) hHeld ?_)
  simp only [PT]
  refine tk 25 (oi := ⟨some 107, _, _, _, _, _⟩) (v := ?_) rfl (by kernel_rfl) (.inl ⟨by rfl, ?_⟩) hHeld ?_; rotate_left; focus (intro w hSw; (try dsimp only at hSw); go_simp; try with_reducible rfl)
  simp only [PT]
  refine tk 26 (oi := ⟨some 108, _, _, _, _, _⟩) (v := ?_) rfl (by kernel_rfl) (.inl ⟨by rfl, ?_⟩) hHeld ?_; rotate_left; focus (intro w hSw; (try dsimp only at hSw); go_simp; try with_reducible rfl)
  simp only [PT]
  first | (refine tk 27 (oi := ⟨some 109, _, _, _, _, _⟩) (v := undef) rfl (by kernel_rfl) (.inr ⟨by rfl, rfl⟩) hHeld ?_) | (refine tk 27 (oi := ⟨some 109, _, _, _, _, _⟩) (v := ?_) rfl (by kernel_rfl) (.inl ⟨by rfl, ?_⟩) hHeld ?_; rotate_left; focus (intro w hSw; (try dsimp only at hSw); go_simp; try with_reducible rfl))
  simp only [PT]
  refine tk 28 (oi := ⟨some 110, _, _, _, _, _⟩) (v := ?_) rfl (by kernel_rfl) (.inl ⟨by rfl, ?_⟩) hHeld ?_; rotate_left; focus (intro w hSw; (try dsimp only at hSw); go_simp; try with_reducible rfl)
  simp only [PT]
  refine tk 29 (oi := ⟨some 111, _, _, _, _, _⟩) (v := ?_) rfl (by kernel_rfl) (.inl ⟨by rfl, ?_⟩) hHeld ?_; rotate_left; focus (intro w hSw; (try dsimp only at hSw); go_simp; try with_reducible rfl)
  simp only [PT]
  first | (refine tk 30 (oi := ⟨some 112, _, _, _, _, _⟩) (v := undef) rfl (by kernel_rfl) (.inr ⟨by rfl, rfl⟩) hHeld ?_) | (refine' tk 30 (oi := ⟨some 112, _, _, _, _, _⟩) (v := _) rfl (by kernel_rfl) (yieldsIf_load_mid (by rfl) _ _ rfl _ _ rfl (one9.v.cells) _ (fun _ h => range_block h.2.1) (Try.underlying28) rfl (one_size one9)) hHeld ?_)
  simp only [PT]
  refine wpAnyH_ready (rs := [31]) (by kernel_rfl) (by simp) ?_
  refine (AllReadyH.cons (o := ⟨some 113, _, _, _, _, _⟩) rfl (fun K hK => ?_) AllReadyH.nil)
  focus (go_simp; go_must (refine (one_9 _).mono ?_); rintro e w3 ⟨rfl, hb__⟩; have hE__ := cU HB bup hb__; replace HB := ck HB hE__; replace HR := ck HR hE__; replace HA := ck HA hE__; clear hE__ hb__; go_wp2_with fail)
  refine hK.out _ _ ?_ (fun hHeld => ?_)
  focus (exact HA.out)
  clear hK K
  try simp only [PT]
  first | (refine tk 32 (oi := ⟨some 114, _, _, _, _, _⟩) (v := undef) rfl (by kernel_rfl) (.inr ⟨by rfl, rfl⟩) hHeld ?_) | (refine' tk 32 (oi := ⟨some 114, _, _, _, _, _⟩) (v := _) rfl (by kernel_rfl) (yields_eqF one9 one9 true (by simp) (by rfl) (.tmp 112) (.tmp 113) rfl rfl rfl) hHeld ?_)
  simp only [PT]
  refine tk 33 (oi := ⟨some 115, _, _, _, _, _⟩) (v := ?_) rfl (by kernel_rfl) (.inl ⟨by rfl, ?_⟩) hHeld ?_; rotate_left; focus (intro w hSw; (try dsimp only at hSw); go_simp; try with_reducible rfl)
  simp only [PT]
  refine tk 34 (oi := ⟨some 116, _, _, _, _, _⟩) (v := ?_) rfl (by kernel_rfl) (.inl ⟨by rfl, ?_⟩) hHeld ?_; rotate_left; focus (intro w hSw; (try dsimp only at hSw); go_simp; try with_reducible rfl)
  simp only [PT]
  first | (refine tk 35 (oi := ⟨some 117, _, _, _, _, _⟩) (v := undef) rfl (by kernel_rfl) (.inr ⟨by rfl, rfl⟩) hHeld ?_) | (refine tk 35 (oi := ⟨some 117, _, _, _, _, _⟩) (v := ?_) rfl (by kernel_rfl) (.inl ⟨by rfl, ?_⟩) hHeld ?_; rotate_left; focus (intro w hSw; (try dsimp only at hSw); go_simp; try with_reducible rfl))
  simp only [PT]
  first | (refine tk 36 (oi := ⟨some 118, _, _, _, _, _⟩) (v := undef) rfl (by kernel_rfl) (.inr ⟨by rfl, rfl⟩) hHeld ?_) | (refine tk 36 (oi := ⟨some 118, _, _, _, _, _⟩) (v := ?_) rfl (by kernel_rfl) (.inl ⟨by rfl, ?_⟩) hHeld ?_; rotate_left; focus (intro w hSw; (try dsimp only at hSw); go_simp; try with_reducible rfl))
  simp only [PT]
  refine tk 37 (oi := ⟨some 119, _, _, _, _, _⟩) (v := ?_) rfl (by kernel_rfl) (.inl ⟨by rfl, ?_⟩) hHeld ?_; rotate_left; focus (intro w hSw; (try dsimp only at hSw); go_simp; try with_reducible rfl)
  simp only [PT]
  refine tk 38 (oi := ⟨some 120, _, _, _, _, _⟩) (v := ?_) rfl (by kernel_rfl) (.inl ⟨by rfl, ?_⟩) hHeld ?_; rotate_left; focus (intro w hSw; (try dsimp only at hSw); go_simp; try with_reducible rfl)
  simp only [PT]
  first | (refine tk 39 (oi := ⟨some 121, _, _, _, _, _⟩) (v := undef) rfl (by kernel_rfl) (.inr ⟨by rfl, rfl⟩) hHeld ?_) | (refine tk 39 (oi := ⟨some 121, _, _, _, _, _⟩) (v := ?_) rfl (by kernel_rfl) (.inl ⟨by rfl, ?_⟩) hHeld ?_; rotate_left; focus (intro w hSw; (try dsimp only at hSw); go_simp; try with_reducible rfl))
  simp only [PT]
  refine wpAnyH_ready (rs := [40]) (by kernel_rfl) (by simp) ?_
  refine (AllReadyH.cons (o := ⟨some 122, _, _, _, _, _⟩) rfl (fun K hK => ?_) AllReadyH.nil)
  focus (go_simp; go_must (refine (len_two p q kb0 S3 HS3.out _ (HR.out.keep bup)).mono ?_); rintro e w3 ⟨rfl, hb__⟩; have hE__ := cU HB bup hb__; replace HB := ck HB hE__; replace HR := ck HR hE__; replace HA := ck HA hE__; clear hE__ hb__; go_wp2_with fail)
  refine hK.out _ _ ?_ (fun hHeld => ?_)
  focus (exact HA.out)
  clear hK K
  try simp only [PT]
  first | (refine tk 41 (oi := ⟨some 123, _, _, _, _, _⟩) (v := undef) rfl (by kernel_rfl) (.inr ⟨by rfl, rfl⟩) hHeld ?_) | (refine tk 41 (oi := ⟨some 123, _, _, _, _, _⟩) (v := ?_) rfl (by kernel_rfl) (.inl ⟨by rfl, ?_⟩) hHeld ?_; rotate_left; focus (intro w hSw; (try dsimp only at hSw); go_simp; try with_reducible rfl))
  simp only [PT]
  refine tk 42 (oi := ⟨some 124, _, _, _, _, _⟩) (v := ?_) rfl (by kernel_rfl) (.inl ⟨by rfl, ?_⟩) hHeld ?_; rotate_left; focus (intro w hSw; (try dsimp only at hSw); go_simp; try with_reducible rfl)
  simp only [PT]
  refine tk 43 (oi := ⟨some 125, _, _, _, _, _⟩) (v := ?_) rfl (by kernel_rfl) (.inl ⟨by rfl, ?_⟩) hHeld ?_; rotate_left; focus (intro w hSw; (try dsimp only at hSw); go_simp; try with_reducible rfl)
  simp only [PT]
  first | (refine tk 44 (oi := ⟨some 126, _, _, _, _, _⟩) (v := undef) rfl (by kernel_rfl) (.inr ⟨by rfl, rfl⟩) hHeld ?_) | (refine tk 44 (oi := ⟨some 126, _, _, _, _, _⟩) (v := ?_) rfl (by kernel_rfl) (.inl ⟨by rfl, ?_⟩) hHeld ?_; rotate_left; focus (intro w hSw; (try dsimp only at hSw); go_simp; try with_reducible rfl))
  simp only [PT]
  first | (refine tk 45 (oi := ⟨some 127, _, _, _, _, _⟩) (v := undef) rfl (by kernel_rfl) (.inr ⟨by rfl, rfl⟩) hHeld ?_) | (refine tk 45 (oi := ⟨some 127, _, _, _, _, _⟩) (v := ?_) rfl (by kernel_rfl) (.inl ⟨by rfl, ?_⟩) hHeld ?_; rotate_left; focus (intro w hSw; (try dsimp only at hSw); go_simp; try with_reducible rfl))
  simp only [PT]
  first | (refine tk 46 (oi := ⟨some 128, _, _, _, _, _⟩) (v := undef) rfl (by kernel_rfl) (.inr ⟨by rfl, rfl⟩) hHeld ?_) | (refine tk 46 (oi := ⟨some 128, _, _, _, _, _⟩) (v := ?_) rfl (by kernel_rfl) (.inl ⟨by rfl, ?_⟩) hHeld ?_; rotate_left; focus (intro w hSw; (try dsimp only at hSw); go_simp; try with_reducible rfl))
  simp only [PT]
  refine tk 47 (oi := ⟨some 129, _, _, _, _, _⟩) (v := ?_) rfl (by kernel_rfl) (.inl ⟨by rfl, ?_⟩) hHeld ?_; rotate_left; focus (intro w hSw; (try dsimp only at hSw); go_simp; try with_reducible rfl)
  simp only [PT]
  refine tk 48 (oi := ⟨some 130, _, _, _, _, _⟩) (v := ?_) rfl (by kernel_rfl) (.inl ⟨by rfl, ?_⟩) hHeld ?_; rotate_left; focus (intro w hSw; (try dsimp only at hSw); go_simp; try with_reducible rfl)
  simp only [PT]
  first | (refine tk 49 (oi := ⟨some 131, _, _, _, _, _⟩) (v := undef) rfl (by kernel_rfl) (.inr ⟨by rfl, rfl⟩) hHeld ?_) | (refine tk 49 (oi := ⟨some 131, _, _, _, _, _⟩) (v := ?_) rfl (by kernel_rfl) (.inl ⟨by rfl, ?_⟩) hHeld ?_; rotate_left; focus (intro w hSw; (try dsimp only at hSw); go_simp; try with_reducible rfl))
  simp only [PT]
  first | (refine tk 50 (oi := ⟨some 132, _, _, _, _, _⟩) (v := undef) rfl (by kernel_rfl) (.inr ⟨by rfl, rfl⟩) hHeld ?_) | (refine tk 50 (oi := ⟨some 132, _, _, _, _, _⟩) (v := ?_) rfl (by kernel_rfl) (.inl ⟨by rfl, ?_⟩) hHeld ?_; rotate_left; focus (intro w hSw; (try dsimp only at hSw); go_simp; try with_reducible rfl))
  simp only [PT]
  first | (refine tk 51 (oi := ⟨some 133, _, _, _, _, _⟩) (v := undef) rfl (by kernel_rfl) (.inr ⟨by rfl, rfl⟩) hHeld ?_) | (refine' tk 51 (oi := ⟨some 133, _, _, _, _, _⟩) (v := _) rfl (by kernel_rfl) (yieldsIf_load_mid (by rfl) _ _ rfl _ _ rfl (one5.v.cells) _ (fun _ h => h.2.2) (Try.underlying28) rfl (one_size one5)) hHeld ?_)
  simp only [PT]
  refine wpAnyH_ready (rs := [52]) (by kernel_rfl) (by simp) ?_
  refine (AllReadyH.cons (o := ⟨some 134, _, _, _, _, _⟩) rfl (fun K hK => ?_) AllReadyH.nil)
  focus (go_simp; go_must (refine (one_5 _).mono ?_); rintro e w3 ⟨rfl, hb__⟩; have hE__ := cU HB bup hb__; replace HB := ck HB hE__; replace HR := ck HR hE__; replace HA := ck HA hE__; clear hE__ hb__; go_wp2_with fail)
  refine hK.out _ _ ?_ (fun hHeld => ?_)
  focus (exact HA.out)
  clear hK K
  try simp only [PT]
  first | (refine tk 53 (oi := ⟨some 135, _, _, _, _, _⟩) (v := undef) rfl (by kernel_rfl) (.inr ⟨by rfl, rfl⟩) hHeld ?_) | (refine' tk 53 (oi := ⟨some 135, _, _, _, _, _⟩) (v := _) rfl (by kernel_rfl) (yields_eqF one5 one5 true (by simp) (by rfl) (.tmp 133) (.tmp 134) rfl rfl rfl) hHeld ?_)
  simp only [PT]
  refine tk 54 (oi := ⟨some 136, _, _, _, _, _⟩) (v := ?_) rfl (by kernel_rfl) (.inl ⟨by rfl, ?_⟩) hHeld ?_; rotate_left; focus (intro w hSw; (try dsimp only at hSw); go_simp; try with_reducible rfl)
  simp only [PT]
  refine tk 55 (oi := ⟨some 137, _, _, _, _, _⟩) (v := ?_) rfl (by kernel_rfl) (.inl ⟨by rfl, ?_⟩) hHeld ?_; rotate_left; focus (intro w hSw; (try dsimp only at hSw); go_simp; try with_reducible rfl)
  simp only [PT]
  refine wpAnyH_ready (rs := [56]) (by kernel_rfl) (by simp) ?_
  refine (AllReadyH.cons (o := ⟨some 138, _, _, _, _, _⟩) rfl (fun K hK => ?_) AllReadyH.nil)
  focus (go_simp; go_must (refine (one_1 _).mono ?_); rintro e w3 ⟨rfl, hb__⟩; have hE__ := cU HB bup hb__; replace HB := ck HB hE__; replace HR := ck HR hE__; replace HA := ck HA hE__; clear hE__ hb__; go_wp2_with fail)
  refine hK.out _ _ ?_ (fun hHeld => ?_)
  focus (exact HA.out)
  clear hK K
  try simp only [PT]
  refine wpAnyH_ready (rs := [57]) (by kernel_rfl) (by simp) ?_
  refine (AllReadyH.cons (o := ⟨some 139, _, _, _, _, _⟩) rfl (fun K hK => ?_) AllReadyH.nil)
  focus (go_simp; go_must (refine (one_2 _).mono ?_); rintro e w3 ⟨rfl, hb__⟩; have hE__ := cU HB bup hb__; replace HB := ck HB hE__; replace HR := ck HR hE__; replace HA := ck HA hE__; clear hE__ hb__; go_wp2_with fail)
  refine hK.out _ _ ?_ (fun hHeld => ?_)
  focus (exact HA.out)
  clear hK K
  try simp only [PT]
  refine wpAnyH_ready (rs := [58]) (by kernel_rfl) (by simp) ?_
  refine (AllReadyH.cons (o := ⟨some 140, _, _, _, _, _⟩) rfl (fun K hK => ?_) AllReadyH.nil)
  focus (go_simp; go_must (refine (older_any one1.v one2.v one1.ok one2.ok (by decide) (by decide) _).mono ?_); rw [o12]; rintro e w3 ⟨rfl, hb__⟩; have hE__ := cU HB bup hb__; replace HB := ck HB hE__; replace HR := ck HR hE__; replace HA := ck HA hE__; clear hE__ hb__; go_wp2_with fail)
  refine hK.out _ _ ?_ (fun hHeld => ?_)
  focus (exact HA.out)
  clear hK K
  try simp only [PT]
  refine tk 59 (oi := ⟨some 141, _, _, _, _, _⟩) (v := ?_) rfl (by kernel_rfl) (.inl ⟨by rfl, ?_⟩) hHeld ?_; rotate_left; focus (intro w hSw; (try dsimp only at hSw); go_simp; try with_reducible rfl)
  simp only [PT]
  refine tk 60 (oi := ⟨some 142, _, _, _, _, _⟩) (v := ?_) rfl (by kernel_rfl) (.inl ⟨by rfl, ?_⟩) hHeld ?_; rotate_left; focus (intro w hSw; (try dsimp only at hSw); go_simp; try with_reducible rfl)
  simp only [PT]
  refine wpAnyH_ready (rs := [61]) (by kernel_rfl) (by simp) ?_
  refine (AllReadyH.cons (o := ⟨some 143, _, _, _, _, _⟩) rfl (fun K hK => ?_) AllReadyH.nil)
  focus (go_simp; go_must (refine (one_1 _).mono ?_); rintro e w3 ⟨rfl, hb__⟩; have hE__ := cU HB bup hb__; replace HB := ck HB hE__; replace HR := ck HR hE__; replace HA := ck HA hE__; clear hE__ hb__; go_wp2_with fail)
  refine hK.out _ _ ?_ (fun hHeld => ?_)
  focus (exact HA.out)
  clear hK K
  try simp only [PT]
  refine wpAnyH_ready (rs := [62]) (by kernel_rfl) (by simp) ?_
  refine (AllReadyH.cons (o := ⟨some 144, _, _, _, _, _⟩) rfl (fun K hK => ?_) AllReadyH.nil)
  focus (go_simp; go_must (refine (right_any one1.v one1.ok (by decide) _).mono ?_); rw [show rightF one1.v = true from oneF_right 1 (by omega)]; rintro e w3 ⟨rfl, hb__⟩; have hE__ := cU HB bup hb__; replace HB := ck HB hE__; replace HR := ck HR hE__; replace HA := ck HA hE__; clear hE__ hb__; go_wp2_with fail)
  refine hK.out _ _ ?_ (fun hHeld => ?_)
  focus (exact HA.out)
  clear hK K
  try simp only [PT]
  refine tk 63 (oi := ⟨some 145, _, _, _, _, _⟩) (v := ?_) rfl (by kernel_rfl) (.inl ⟨by rfl, ?_⟩) hHeld ?_; rotate_left; focus (intro w hSw; (try dsimp only at hSw); go_simp; try with_reducible rfl)
  simp only [PT]
  refine tk 64 (oi := ⟨some 146, _, _, _, _, _⟩) (v := ?_) rfl (by kernel_rfl) (.inl ⟨by rfl, ?_⟩) hHeld ?_; rotate_left; focus (intro w hSw; (try dsimp only at hSw); go_simp; try with_reducible rfl)
  simp only [PT]
  first | (refine tk 65 (oi := ⟨some 147, _, _, _, _, _⟩) (v := undef) rfl (by kernel_rfl) (.inr ⟨by rfl, rfl⟩) hHeld ?_) | (refine tk 65 (oi := ⟨some 147, _, _, _, _, _⟩) (v := ?_) rfl (by kernel_rfl) (.inl ⟨by rfl, ?_⟩) hHeld ?_; rotate_left; focus (intro w hSw; (try dsimp only at hSw); go_simp; try with_reducible rfl))
  simp only [PT]
  refine wpAnyH_ready (rs := [66]) (by kernel_rfl) (by simp) ?_
  refine (AllReadyH.cons (o := ⟨some 148, _, _, _, _, _⟩) rfl (fun K hK => ?_) AllReadyH.nil)
  focus (go_simp; go_must (refine (one_5 _).mono ?_); rintro e w3 ⟨rfl, hb__⟩; have hE__ := cU HB bup hb__; replace HB := ck HB hE__; replace HR := ck HR hE__; replace HA := ck HA hE__; clear hE__ hb__; go_wp2_with fail)
  refine hK.out _ _ ?_ (fun hHeld => ?_)
  focus (exact HA.out)
  clear hK K
  try simp only [PT]
  first | (refine tk 67 (oi := ⟨some 149, _, _, _, _, _⟩) (v := undef) rfl (by kernel_rfl) (.inr ⟨by rfl, rfl⟩) hHeld ?_) | (refine' tk 67 (oi := ⟨some 149, _, _, _, _, _⟩) (v := _) rfl (by kernel_rfl) (yields_field (by rfl) 28 (.tmp 148) 0 rfl one5.v.cells.toArray one5.v.key.cells.toArray rfl (field_key one5)) hHeld ?_)
  simp only [PT]
  refine wpAnyH_ready (rs := [68]) (by kernel_rfl) (by simp) ?_
  refine (AllReadyH.cons (o := ⟨some 150, _, _, _, _, _⟩) rfl (fun K hK => ?_) AllReadyH.nil)
  focus (go_simp; go_must (refine (drop5_any p q kb0 S3 HS3.out _ (HR.out.keep bup)).mono ?_); rintro e w4 ⟨S4, rfl, hr, hs, hb__⟩; have HBn := Lib.hid (But.below (p := p) (q := q) hb__ (HB.out.trans (Below.mono bup HB.out.size)) hpq0 hq0 (Nat.le_refl _)); have HAn := Lib.hid (AwF.but (HA.out.keep bup) hb__ pg11 pg17 pgL lqp); clear HR HB HA; have HB := HBn; have HA := HAn; clear HBn HAn; have HR := Lib.hid hr; have HS4 := Lib.hid hs; clear hr hs hb__; go_wp2_with fail)
  refine hK.out _ _ ?_ (fun hHeld => ?_)
  focus (exact HA.out)
  clear hK K
  try simp only [PT]
  refine tk 69 (oi := ⟨some 151, _, _, _, _, _⟩) (v := ?_) rfl (by kernel_rfl) (.inl ⟨by rfl, ?_⟩) hHeld ?_; rotate_left; focus (intro w hSw; (try dsimp only at hSw); go_simp; try with_reducible rfl)
  simp only [PT]
  refine tk 70 (oi := ⟨some 152, _, _, _, _, _⟩) (v := ?_) rfl (by kernel_rfl) (.inl ⟨by rfl, ?_⟩) hHeld ?_; rotate_left; focus (intro w hSw; (try dsimp only at hSw); go_simp; try with_reducible rfl)
  simp only [PT]
  first | (refine tk 71 (oi := ⟨some 153, _, _, _, _, _⟩) (v := undef) rfl (by kernel_rfl) (.inr ⟨by rfl, rfl⟩) hHeld ?_) | (refine tk 71 (oi := ⟨some 153, _, _, _, _, _⟩) (v := ?_) rfl (by kernel_rfl) (.inl ⟨by rfl, ?_⟩) hHeld ?_; rotate_left; focus (intro w hSw; (try dsimp only at hSw); go_simp; try with_reducible rfl))
  simp only [PT]
  refine wpAnyH_ready (rs := [72]) (by kernel_rfl) (by simp) ?_
  refine (AllReadyH.cons (o := ⟨some 154, _, _, _, _, _⟩) rfl (fun K hK => ?_) AllReadyH.nil)
  focus (go_simp; go_must (refine (one_5 _).mono ?_); rintro e w3 ⟨rfl, hb__⟩; have hE__ := cU HB bup hb__; replace HB := ck HB hE__; replace HR := ck HR hE__; replace HA := ck HA hE__; clear hE__ hb__; go_wp2_with fail)
  refine hK.out _ _ ?_ (fun hHeld => ?_)
  focus (exact HA.out)
  clear hK K
  try simp only [PT]
  first | (refine tk 73 (oi := ⟨some 155, _, _, _, _, _⟩) (v := undef) rfl (by kernel_rfl) (.inr ⟨by rfl, rfl⟩) hHeld ?_) | (refine' tk 73 (oi := ⟨some 155, _, _, _, _, _⟩) (v := _) rfl (by kernel_rfl) (yields_field (by rfl) 28 (.tmp 154) 0 rfl one5.v.cells.toArray one5.v.key.cells.toArray rfl (field_key one5)) hHeld ?_)
  simp only [PT]
  refine wpAnyH_ready (rs := [74]) (by kernel_rfl) (by simp) ?_
  refine (AllReadyH.cons (o := ⟨some 156, _, _, _, _, _⟩) rfl (fun K hK => ?_) AllReadyH.nil)
  focus (go_simp; go_must (refine (drop5_none p q kb0 S4 HS4.out _ (HR.out.keep bup)).mono ?_); rintro e w3 ⟨rfl, hb__⟩; have hE__ := cU HB bup hb__; replace HB := ck HB hE__; replace HR := ck HR hE__; replace HA := ck HA hE__; clear hE__ hb__; go_wp2_with fail)
  refine hK.out _ _ ?_ (fun hHeld => ?_)
  focus (exact HA.out)
  clear hK K
  try simp only [PT]
  first | (refine tk 75 (oi := ⟨some 157, _, _, _, _, _⟩) (v := undef) rfl (by kernel_rfl) (.inr ⟨by rfl, rfl⟩) hHeld ?_) | (refine tk 75 (oi := ⟨some 157, _, _, _, _, _⟩) (v := ?_) rfl (by kernel_rfl) (.inl ⟨by rfl, ?_⟩) hHeld ?_; rotate_left; focus (intro w hSw; (try dsimp only at hSw); go_simp; try with_reducible rfl))
  simp only [PT]
  refine tk 76 (oi := ⟨some 158, _, _, _, _, _⟩) (v := ?_) rfl (by kernel_rfl) (.inl ⟨by rfl, ?_⟩) hHeld ?_; rotate_left; focus (intro w hSw; (try dsimp only at hSw); go_simp; try with_reducible rfl)
  simp only [PT]
  refine tk 77 (oi := ⟨some 159, _, _, _, _, _⟩) (v := ?_) rfl (by kernel_rfl) (.inl ⟨by rfl, ?_⟩) hHeld ?_; rotate_left; focus (intro w hSw; (try dsimp only at hSw); go_simp; try with_reducible rfl)
  simp only [PT]
  first | (refine tk 78 (oi := ⟨some 160, _, _, _, _, _⟩) (v := undef) rfl (by kernel_rfl) (.inr ⟨by rfl, rfl⟩) hHeld ?_) | (refine tk 78 (oi := ⟨some 160, _, _, _, _, _⟩) (v := ?_) rfl (by kernel_rfl) (.inl ⟨by rfl, ?_⟩) hHeld ?_; rotate_left; focus (intro w hSw; (try dsimp only at hSw); go_simp; try with_reducible rfl))
  simp only [PT]
  refine wpAnyH_ready (rs := [79]) (by kernel_rfl) (by simp) ?_
  refine (AllReadyH.cons (o := ⟨some 161, _, _, _, _, _⟩) rfl (fun K hK => ?_) AllReadyH.nil)
  focus (go_simp; go_must (refine (len_one p q kb0 S4 HS4.out _ (HR.out.keep bup)).mono ?_); rintro e w3 ⟨rfl, hb__⟩; have hE__ := cU HB bup hb__; replace HB := ck HB hE__; replace HR := ck HR hE__; replace HA := ck HA hE__; clear hE__ hb__; go_wp2_with fail)
  refine hK.out _ _ ?_ (fun hHeld => ?_)
  focus (exact HA.out)
  clear hK K
  try simp only [PT]
  first | (refine tk 80 (oi := ⟨some 162, _, _, _, _, _⟩) (v := undef) rfl (by kernel_rfl) (.inr ⟨by rfl, rfl⟩) hHeld ?_) | (refine tk 80 (oi := ⟨some 162, _, _, _, _, _⟩) (v := ?_) rfl (by kernel_rfl) (.inl ⟨by rfl, ?_⟩) hHeld ?_; rotate_left; focus (intro w hSw; (try dsimp only at hSw); go_simp; try with_reducible rfl))
  simp only [PT]
  refine tk 81 (oi := ⟨some 163, _, _, _, _, _⟩) (v := ?_) rfl (by kernel_rfl) (.inl ⟨by rfl, ?_⟩) hHeld ?_; rotate_left; focus (intro w hSw; (try dsimp only at hSw); go_simp; try with_reducible rfl)
  simp only [PT]
  refine tk 82 (oi := ⟨some 0, _, _, _, _, _⟩) (v := ?_) rfl (by kernel_rfl) (.inl ⟨by rfl, ?_⟩) hHeld ?_; rotate_left; focus (intro w hSw; (try dsimp only at hSw); go_simp; try with_reducible rfl)
  simp only [PT]
  refine wpAnyH_done (by kernel_rfl) ?_ _
  go_wp2
  go_ret
  exact ⟨rfl, HB.out⟩
end Go.Proofs.Ytgpdlhbndoeldaa
/-
  Chapter 21: slices of flows and of acts in memory, and how they come in.
-/
namespace Go.Proofs.Ytgpdlhbndoeldaa
open Go.RowKit Go.Sort
open Go.ChangeAt Go.ChangeShapes Go.WideShapes
set_option linter.unusedVariables false
set_option linter.unusedSimpArgs false
set_option maxRecDepth 100000
set_option maxHeartbeats 4000000

/-- a slice of flows -/
def Fls (w : World) (ad : Option Addr) (n c : Nat) (xs : List FloW) : Prop := Sl w ad n c 41 (flosC xs)
theorem Fls.len {w : World} {ad : Option Addr} {n c : Nat} {xs : List FloW} (h : Fls w ad n c xs) : n = xs.length := by have := Sl.len h; rw [flosC_length] at this; omega
theorem Fls.le {w : World} {ad : Option Addr} {n c : Nat} {xs : List FloW} (h : Fls w ad n c xs) : n ≤ c ∧ c ≤ 9223372036854775807 := ⟨h.2.1, by have := h.2.2.1; simp [maxLen] at this; omega⟩
theorem Fls.below {w w' : World} {ad : Option Addr} {n c : Nat} {xs : List FloW} (h : Fls w ad n c xs) (hb : Below w.heap.size w w') : Fls w' ad n c xs := Sl.below h hb
instance {w w' : World} {ad : Option Addr} {n c : Nat} {xs : List FloW} : Ck (Fls w ad n c xs) w' w (Fls w' ad n c xs) := ⟨fun h hE => h.below hE⟩
theorem rows_at {α : Type} {cells : α → List Value} {K : Nat} (hK : ∀ v, (cells v).length = K) {w : World} {ad : Option Addr} {n c : Nat} {xs : List α} (h : Sl w ad n c K (xs.flatMap cells)) (h0 : 0 < xs.length) (hK0 : 0 < K) :
    ∃ b off, ad = some ⟨b, off, none⟩ ∧ b < w.heap.size ∧ ∀ i (hi : i < xs.length), w.rangeAt b (off + i * K) (cells xs[i]) := by
  have hl := flat_len cells K hK xs
  have h1 : K ≤ xs.length * K := Nat.le_mul_of_pos_left K h0
  obtain ⟨b, off, ha, hb, hc⟩ := Sl.at h (j := 0) (by rw [hl]; omega)
  refine ⟨b, off, ha, hb, fun i hi j u hj => ?_⟩
  have hjK : j < K := by have := (List.getElem?_eq_some_iff.1 hj).1; rwa [hK] at this
  have hg := flat_at cells K hK xs i j hi hjK
  rw [hj] at hg
  obtain ⟨hl, he⟩ := List.getElem?_eq_some_iff.1 hg
  have := hc (i * K + j) hl
  rw [he] at this
  rw [Nat.add_assoc]
  exact this
theorem Fls.at {w : World} {ad : Option Addr} {n c : Nat} {xs : List FloW} (h : Fls w ad n c xs) (h0 : 0 < xs.length) :
    ∃ b off, ad = some ⟨b, off, none⟩ ∧ b < w.heap.size ∧ ∀ i (hi : i < xs.length), w.rangeAt b (off + i * 41) xs[i].v.cells := rows_at FloW.length h h0 (by omega)
theorem Fls.of_own {w : World} {base : Nat} {ad : Option Addr} {n c : Nat} {xs : List FloW} (h : w.ownsRow base 28 41 (.slice ad n c) n (flosC xs)) : Fls w ad n c xs := Sl.of_own h
/-- a cell, and a slice, where a table is written -/
theorem But.cell {p q : Nat} {w w' : World} (hb : But p q w w') {x : Addr} {v : Value} (h : w.cell? x = some v) (h1 : x.block ≠ p) (h2 : x.block ≠ q) : w'.cell? x = some v := by
  have hl := World.block_lt_of_cell? w _ h
  unfold World.cell? at h ⊢
  rw [hb.block x.block hl h1 h2]
  exact h
theorem But.range {p q : Nat} {w w' : World} (hb : But p q w w') {b o : Nat} {cs : List Value} (h : w.rangeAt b o cs) (h1 : b ≠ p) (h2 : b ≠ q) : w'.rangeAt b o cs := fun j v hj => hb.cell (h j v hj) h1 h2
theorem Sl.but {p q : Nat} {w w' : World} {ad : Option Addr} {n c size : Nat} {vs : List Value} (h : Sl w ad n c size vs) (hb : But p q w w') (hne : ∀ x, ad = some x → x.block ≠ p ∧ x.block ≠ q) : Sl w' ad n c size vs :=
  ⟨h.1, h.2.1, h.2.2.1, h.2.2.2.1, fun j u hj => by
    obtain ⟨x, hx, hc⟩ := h.2.2.2.2 j u hj
    exact ⟨x, hx, hb.cell hc (by rw [add_block]; exact (hne x hx).1) (by rw [add_block]; exact (hne x hx).2)⟩⟩

/-- an act -/
structure ActV where
  kind : Int
  fl : FloW
  now : Int
  idle : List Int
  hk : (Lit.int .i64 kind).wf = true
  hn : (Lit.int .i64 now).wf = true
  hl : idle.length = 6
  hi : ∀ x ∈ idle, (Lit.int .i64 x).wf = true
def ActV.cells (a : ActV) : List Value := .int .i64 a.kind :: (a.fl.v.cells ++ .int .i64 a.now :: a.idle.map (Value.int .i64))
theorem ActV.length (a : ActV) : a.cells.length = 49 := by simp [ActV.cells, FloW.length, a.hl]
theorem ActV.flow (a : ActV) : ∀ j, j < a.fl.v.cells.length → a.cells[1 + j]? = a.fl.v.cells[j]? := fun j hj => by
  rw [ActV.cells, Nat.add_comm, List.getElem?_cons_succ, List.getElem?_append_left hj]
theorem ActV.nowc (a : ActV) : a.cells[42]? = some (.int .i64 a.now) := by
  rw [ActV.cells, List.getElem?_cons_succ, List.getElem?_append_right (by rw [FloW.length]; omega), FloW.length]
  rfl
theorem ActV.idlec (a : ActV) : ∀ j, j < 6 → a.cells[43 + j]? = (a.idle.map (Value.int .i64))[j]? := fun j hj => by
  rw [ActV.cells, show 43 + j = (42 + j) + 1 by omega, List.getElem?_cons_succ, List.getElem?_append_right (by rw [FloW.length]; omega), FloW.length, show 42 + j - 41 = j + 1 by omega, List.getElem?_cons_succ]
def Acts (w : World) (ad : Option Addr) (n c : Nat) (xs : List ActV) : Prop := Sl w ad n c 49 (xs.flatMap ActV.cells)
theorem Acts.len {w : World} {ad : Option Addr} {n c : Nat} {xs : List ActV} (h : Acts w ad n c xs) : n = xs.length := by have := Sl.len h; rw [flat_len _ 49 ActV.length] at this; omega
theorem Acts.le {w : World} {ad : Option Addr} {n c : Nat} {xs : List ActV} (h : Acts w ad n c xs) : n ≤ c ∧ c ≤ 9223372036854775807 := ⟨h.2.1, by have := h.2.2.1; simp [maxLen] at this; omega⟩
theorem Acts.below {w w' : World} {ad : Option Addr} {n c : Nat} {xs : List ActV} (h : Acts w ad n c xs) (hb : Below w.heap.size w w') : Acts w' ad n c xs := Sl.below h hb
theorem Acts.at {w : World} {ad : Option Addr} {n c : Nat} {xs : List ActV} (h : Acts w ad n c xs) (h0 : 0 < xs.length) :
    ∃ b off, ad = some ⟨b, off, none⟩ ∧ b < w.heap.size ∧ ∀ i (hi : i < xs.length), w.rangeAt b (off + i * 49) xs[i].cells := rows_at ActV.length h h0 (by omega)

theorem mapM_get {f : Nat → Option Value} : ∀ (n m : Nat) (cs : List Value), (List.range' m n).mapM f = some cs → ∀ j u, cs[j]? = some u → f (m + j) = some u
  | 0, m, cs, h, j, u, hj => by
    simp at h
    subst h
    simp at hj
  | n + 1, m, cs, h, j, u, hj => by
    rw [List.range'_succ, List.mapM_cons] at h
    obtain ⟨x, hx, h⟩ := Option.bind_eq_some_iff.1 h
    obtain ⟨ys, hy, h⟩ := Option.bind_eq_some_iff.1 h
    simp at h
    subst h
    cases j with
    | zero => simp at hj; subst hj; exact hx
    | succ j =>
      have := mapM_get n (m + 1) ys hy j u (by simpa using hj)
      rw [show m + (j + 1) = m + 1 + j by omega]
      exact this
theorem cells_each {w : World} {b n : Nat} {a : Addr} {cs : List Value} (h : w.cells? b a n = some cs) : ∀ j u, cs[j]? = some u → w.cell? (a.add j) = some u := by
  unfold World.cells? at h
  split at h
  · rw [List.range_eq_range'] at h
    intro j u hj
    have := mapM_get n 0 cs h j u hj
    rwa [Nat.zero_add] at this
  · cases h
theorem choose_list {α : Type} {P : Nat → α → Prop} : ∀ n : Nat, (∀ i, i < n → ∃ x, P i x) → ∃ l : List α, l.length = n ∧ ∀ i (h : i < l.length), P i l[i]
  | 0, _ => ⟨[], rfl, fun i h => by cases h⟩
  | n + 1, h => by
    obtain ⟨l, hl, hp⟩ := choose_list n (fun i hi => h i (by omega))
    obtain ⟨x, hx⟩ := h n (by omega)
    refine ⟨l ++ [x], by simp [hl], fun i hi => ?_⟩
    simp only [List.length_append, List.length_cons, List.length_nil] at hi
    by_cases e : i < l.length
    · rw [List.getElem_append_left e]; exact hp i e
    · obtain rfl : i = n := by omega
      rw [List.getElem_append_right (by omega)]
      simpa [hl] using hx
section
variable {H : Type} {enc : TypeId × Value → H} {w : World} {base : Nat} {spare : Nat → Bool} {held : Bool}
theorem open_rows {α : Type} (cells : α → List Value) (K : Nat) (hK : ∀ v, (cells v).length = K) (hK0 : 0 < K) {T E : TypeId} (hT : Try.prog.underlying T = some (.slice E)) (hc : Try.prog.cellsOf E = K)
    (hE : ∀ (fuel : Nat) (cs : List Value) (x : DataW H × List MemPlace), DataW.trod enc Try.prog w base spare held fuel E cs = some x → ∃ v : α, cs = cells v)
    {fuel : Nat} {cs : List Value} {x : DataW H × List MemPlace} (h : DataW.trod enc Try.prog w base spare held fuel T cs = some x) :
    ∃ (a : Option Addr) (len cap : Nat) (vs : List α), cs = [.slice a len cap] ∧ Sl w a len cap K (vs.flatMap cells) := by
  rcases DataW.trod_slice hT h with ⟨rfl, _⟩ | ⟨ad, ln, cap, elems, rest, n, _, rfl, rfl, hb, hl, hm, hlen, hel, hsp, hns⟩
  · exact ⟨none, 0, 0, [], rfl, Sl.nil w K⟩
  · rw [hc] at hel
    have hos : ∀ i, i < ln → ∃ v : α, (∀ j u, (cells v)[j]? = some u → w.cell? ((ad.add (i * K)).add j) = some u) := by
      intro i hi
      have hy := hel i hi
      rw [List.getElem?_eq_getElem (by omega)] at hy
      obtain ⟨cs, hcs, hy⟩ := Option.bind_eq_some_iff.1 hy
      obtain ⟨v, rfl⟩ := hE _ _ _ hy
      exact ⟨v, cells_each hcs⟩
    obtain ⟨vs, hl2, hos⟩ := choose_list ln hos
    have hfl := flat_len cells K hK vs
    refine ⟨some ad, ln, cap, vs, rfl, ⟨by rw [hfl, hl2], hl, hm, by simp, fun j u hj => ⟨_, rfl, ?_⟩⟩⟩
    have hjl : j < vs.length * K := by have := (List.getElem?_eq_some_iff.1 hj).1; rwa [hfl] at this
    have hdiv : j / K < vs.length := by rw [Nat.div_lt_iff_lt_mul hK0]; exact hjl
    have hg := flat_at cells K hK vs (j / K) (j % K) hdiv (Nat.mod_lt _ hK0)
    have hdm : j / K * K + j % K = j := by rw [Nat.mul_comm]; exact Nat.div_add_mod j K
    rw [hdm, hj] at hg
    have := hos (j / K) hdiv (j % K) u hg.symm
    have ea : ad.add j = (ad.add (j / K * K)).add (j % K) := by
      rw [add_add (w := w) ad (j / K * K) (j % K) (u := u)]
      · exact congrArg _ hdm.symm
      · have e2 : (ad.add (j / K * K)).add (j % K) = ad.add (j / K * K + j % K) := by
          unfold Addr.add
          by_cases h1 : j / K * K = 0
          · simp [h1]
          · by_cases h2 : j % K = 0
            · simp [h2]
            · simp [h1, h2, Nat.add_assoc]
        rw [← e2]
        exact this
    rw [ea]
    exact this
theorem open_flos {fuel : Nat} {cs : List Value} {x : DataW H × List MemPlace} (h : DataW.trod enc Try.prog w base spare held fuel 38 cs = some x) :
    ∃ (a : Option Addr) (len cap : Nat) (xs : List FloW), cs = [.slice a len cap] ∧ Fls w a len cap xs :=
  open_rows (fun x : FloW => x.v.cells) 41 FloW.length (by omega) Try.underlying38 (by kernel_rfl) (fun fuel cs x h => by
    obtain ⟨f, e, o⟩ := trod_flo h
    exact ⟨⟨f, o⟩, e⟩) h
theorem mapM_ints' {k : IntKind} {t e : TypeId} {n : Nat} (ht : Try.prog.underlying t = some (.array n e)) (he : Try.prog.underlying e = some (.int k)) (hce : Try.prog.cellsOf e = 1) {fuel : Nat} {cs : List Value} {x : DataW H × List MemPlace} (hct : Try.prog.cellsOf t = n)
    (h : DataW.trod enc Try.prog w base spare held fuel t cs = some x) : ∃ zs : List Int, zs.length = n ∧ cs = zs.map (Value.int k) ∧ ∀ z ∈ zs, (Lit.int k z).wf = true := by
  cases fuel with
  | zero => simp [DataW.trod] at h
  | succ f =>
    simp only [DataW.trod, ht] at h
    split at h
    · rename_i hl
      obtain ⟨xs, hxs, _⟩ := Option.map_eq_some_iff.1 h
      rw [List.range_eq_range'] at hxs
      obtain ⟨zs, h1, h2, h3⟩ := mapM_ints he hce n 0 xs (by omega) hxs
      rw [List.drop_zero, List.take_of_length_le (by omega)] at h2
      exact ⟨zs, h1, h2, h3⟩
    · cases h
theorem trod_act {fuel : Nat} {cs : List Value} {x : DataW H × List MemPlace} (h : DataW.trod enc Try.prog w base spare held fuel 51 cs = some x) : ∃ a : ActV, cs = a.cells := by
  have hc : Try.prog.cellsOf 51 = 49 := by kernel_rfl
  have hc1 : Try.prog.cellsOf 28 = 41 := by kernel_rfl
  have hc2 : Try.prog.cellsOf 3 = 1 := by kernel_rfl
  have hc3 : Try.prog.cellsOf 49 = 6 := by kernel_rfl
  obtain ⟨hl, f, hf⟩ := trod_struct Try.underlying51 h
  simp only [List.mem_cons, List.not_mem_nil, or_false, forall_eq_or_imp, forall_eq, hc1, hc2, hc3] at hf
  obtain ⟨⟨y1, h1⟩, ⟨y2, h2⟩, ⟨y3, h3⟩, ⟨y4, h4⟩⟩ := hf
  rw [hc] at hl
  rw [take_one_of (show 0 < cs.length by omega)] at h1
  rw [take_one_of (show 42 < cs.length by omega)] at h3
  obtain ⟨k, e1, w1⟩ := trod_int Try.underlying3 h1
  obtain ⟨g, e2, o2⟩ := trod_flo h2
  obtain ⟨n, e3, w3⟩ := trod_int Try.underlying3 h3
  obtain ⟨zs, l4, e4, w4⟩ := mapM_ints' Try.underlying49 Try.underlying3 hc2 hc3 h4
  refine ⟨⟨k, ⟨g, o2⟩, n, zs, w1, w3, l4, w4⟩, ?_⟩
  have k1 : cs = cs[0] :: ((cs.drop 1).take 41 ++ cs.drop 42) := by
    rw [show cs.drop 42 = (cs.drop 1).drop 41 by rw [List.drop_drop], List.take_append_drop, ← List.drop_eq_getElem_cons (show 0 < cs.length by omega), List.drop_zero]
  have k2 : cs.drop 42 = cs[42] :: (cs.drop 43).take 6 := by
    rw [List.take_of_length_le (by rw [List.length_drop]; omega), ← List.drop_eq_getElem_cons (show 42 < cs.length by omega)]
  rw [e1, k2, e3, e2, e4] at k1
  exact k1
theorem open_acts {fuel : Nat} {cs : List Value} {x : DataW H × List MemPlace} (h : DataW.trod enc Try.prog w base spare held fuel 47 cs = some x) :
    ∃ (a : Option Addr) (len cap : Nat) (xs : List ActV), cs = [.slice a len cap] ∧ Acts w a len cap xs :=
  open_rows ActV.cells 49 ActV.length (by omega) Try.underlying47 (by kernel_rfl) (fun fuel cs x h => trod_act h) h
end
end Go.Proofs.Ytgpdlhbndoeldaa
/-
  Chapter 21: the small functions of the laws: few, room, the same flows, flows of unlike keys: walked (written by gen/fls2.py).
-/
namespace Go.Proofs.Ytgpdlhbndoeldaa
open Go.RowKit Go.Sort
set_option linter.unusedVariables false
set_option linter.unusedSimpArgs false
set_option maxRecDepth 100000
set_option maxHeartbeats 8000000

theorem wpL_loadC {P : Program} {ops : Array Oper} {rest : List Oper} {o : Oper} {a : Act} {w : World} {Q : Exit → Act → World → Prop} (hgd : Region.wanted o (yielded ops a.tmps) = true) (ty : TypeId) (x : Operand) (ho : o.op = .load ty x)
    (g k : Nat) (hx : a.eval x = .pointer (some ⟨g, k, none⟩)) (v : Value) (hc : w.cell? ⟨g, k, none⟩ = some v) {d : TypeDesc} (hu : P.underlying ty = some d) (hd : d.isRow = false)
    (h : wpList P ops Q rest (a.put o.dst v) w) : wpList P ops Q (o :: rest) a w := by
  refine wpL_run hgd ?_ h
  have hagg : (isAgg ty).run P w = .ok false w := by
    unfold isAgg
    rw [Sem.run_bind, run_underlying hu w]
    cases d <;> simp_all
  unfold execOp
  simp [ho, hx, Instr.loadAt, Instr.sureAddr, Sem.run_bind, Sem.run_pure, Result.andThen_ok, loadVar, hagg, load, Sem.run, hc]
theorem yields_loadC {P : Program} {ops : Array Oper} {S : World → Prop} {o : Oper} {a : Act} (hw : Region.wanted o (yielded ops a.tmps) = true) (ty : TypeId) (x : Operand) (ho : o.op = .load ty x)
    (g k : Nat) (hx : a.eval x = .pointer (some ⟨g, k, none⟩)) (v : Value) (hc : ∀ w, S w → w.cell? ⟨g, k, none⟩ = some v) {d : TypeDesc} (hu : P.underlying ty = some d) (hd : d.isRow = false) : YieldsIf P ops S o v a := by
  refine Or.inl ⟨hw, fun w hS => ?_⟩
  have hagg : (isAgg ty).run P w = .ok false w := by
    unfold isAgg
    rw [Sem.run_bind, run_underlying hu w]
    cases d <;> simp_all
  unfold execOp
  simp [ho, hx, Instr.loadAt, Instr.sureAddr, Sem.run_bind, Sem.run_pure, Result.andThen_ok, loadVar, hagg, load, Sem.run, hc w hS]
theorem yields_eqT {ops : Array Oper} {S : World → Prop} {o : Oper} {a : Act} (x y : FloW) (b : Bool) (hb : b = true ↔ x.v.key = y.v.key) (hgd : Region.wanted o (yielded ops a.tmps) = true) (X Y : Operand) (ho : o.op = .binOp .eql 26 X Y 26)
    (hx : a.eval X = .agg x.v.key.cells.toArray) (hy : a.eval Y = .agg y.v.key.cells.toArray) : YieldsIf Try.prog ops S o (.bool b) a := by
  refine Or.inl ⟨hgd, fun w _ => ?_⟩
  have hh := equal_tup x.v.key y.v.key x.ok.1 y.ok.1 x.ok.2.1 y.ok.2.1 b hb w
  have hgd := run_eqGuard_agg (P := Try.prog) w .eql 26 X Y x.v.key.cells.toArray y.v.key.cells.toArray (by kernel_rfl)
  have hes := run_eql_struct (P := Try.prog) w 26 x.v.key.cells.toArray y.v.key.cells.toArray
  rw [hh] at hes
  simp only [execOp, ho, hx, hy, Sem.run_bind, hgd, hes, Result.andThen_ok, Sem.run_pure]
theorem yields_neqT {ops : Array Oper} {S : World → Prop} {o : Oper} {a : Act} (x y : FloW) (b : Bool) (hb : b = false ↔ x.v.key = y.v.key) (hgd : Region.wanted o (yielded ops a.tmps) = true) (X Y : Operand) (ho : o.op = .binOp .neq 26 X Y 26)
    (hx : a.eval X = .agg x.v.key.cells.toArray) (hy : a.eval Y = .agg y.v.key.cells.toArray) : YieldsIf Try.prog ops S o (.bool b) a := by
  refine Or.inl ⟨hgd, fun w _ => ?_⟩
  have hh := equal_tup x.v.key y.v.key x.ok.1 y.ok.1 x.ok.2.1 y.ok.2.1 (!b) (by cases b <;> simp_all) w
  have hgd := run_eqGuard_agg (P := Try.prog) w .neq 26 X Y x.v.key.cells.toArray y.v.key.cells.toArray (by kernel_rfl)
  have hes := run_neq_struct (P := Try.prog) w 26 x.v.key.cells.toArray y.v.key.cells.toArray
  rw [hh] at hes
  simp only [execOp, ho, hx, hy, Sem.run_bind, hgd, hes, Result.andThen_ok, Sem.run_pure, Bool.not_not]
theorem tup_len (x : FloW) : (Try.prog.info? 26).map (·.size) = some x.v.key.cells.length := by rw [Tup.length x.ok.1]; exact tup_size
theorem range_key {w : World} {b o : Nat} {x : FloW} (h : w.rangeAt b o x.v.cells) : w.rangeAt b o x.v.key.cells := fun j v hj => by
  have hj2 := (List.getElem?_eq_some_iff.1 hj).1
  have := Flo.tup x.ok j hj2
  rw [Nat.zero_add] at this
  exact h j v (this.trans hj)
theorem yields_neqF {ops : Array Oper} {S : World → Prop} {o : Oper} {a : Act} (x y : FloW) (b : Bool) (hb : b = false ↔ x.v = y.v) (hgd : Region.wanted o (yielded ops a.tmps) = true) (X Y : Operand) (ho : o.op = .binOp .neq 28 X Y 28)
    (hx : a.eval X = .agg x.v.cells.toArray) (hy : a.eval Y = .agg y.v.cells.toArray) : YieldsIf Try.prog ops S o (.bool b) a := by
  refine Or.inl ⟨hgd, fun w _ => ?_⟩
  have hh := equal_flo x.v y.v x.ok y.ok (!b) (by cases b <;> simp_all) w
  have hgd := run_eqGuard_agg (P := Try.prog) w .neq 28 X Y x.v.cells.toArray y.v.cells.toArray (by kernel_rfl)
  have hes := run_neq_struct (P := Try.prog) w 28 x.v.cells.toArray y.v.cells.toArray
  rw [hh] at hes
  simp only [execOp, ho, hx, hy, Sem.run_bind, hgd, hes, Result.andThen_ok, Sem.run_pure, Bool.not_not]
def FloW.cells' (x : FloW) : List Value := x.v.cells
def ActV.cells' (x : ActV) : List Value := x.cells
theorem Flo.namec {w : World} {b o : Nat} {x : FloW} (h : w.rangeAt b o x.v.cells) : w.cell? ⟨b, o + 37, none⟩ = some (.string x.v.name) := h 37 _ (Flo.get x.ok).2.1
theorem Act.namec {w : World} {b o : Nat} {x : ActV} (h : w.rangeAt b o x.cells) : w.cell? ⟨b, o + 1 + 37, none⟩ = some (.string x.fl.v.name) := by
  have := h 38 (.string x.fl.v.name) (by
    have := x.flow 37 (by rw [FloW.length]; omega)
    rw [this]
    exact (Flo.get x.fl.ok).2.1)
  exact this
/-- what it says -/
def few21R (xs : List FloW) (e : Ending) : Prop := ∃ b, e = .returned (.bool b) ∧ (b = true → xs.length ≤ 80 ∧ ∀ x ∈ xs, (x.v).name.size ≤ 60)
theorem few21_any (ad : Option Addr) (n c : Nat) (xs : List FloW) (w : World) (hv : Fls w ad n c xs) :
    Calls Try.prog 17 #[.slice ad n c] w fun e w' => few21R xs e ∧ Below w.heap.size w w' := by
  have HV := Lib.hid hv
  have hle := hv.le
  have HLN := Lib.hid hv.len
  clear hv
  go_enter Try.func17, Try.ntmps17
  go_wp2_with fail
  go_loop [3] (fun i => ∃ k : Nat, k ≤ n ∧ k ≤ 100 ∧ i = .int .i64 (k : Int) ∧ Hid (∀ x ∈ xs.take k, (x.v).name.size ≤ 60)) (fun i => 1000 - (intOf i).toNat)
  case atStart => exact ⟨0, by omega, by omega, rfl, Lib.hid (by simp)⟩
  case round =>
    obtain ⟨k, hk, hk2, rfl, HA⟩ := hrel
    by_cases hend : k = n
    · subst hend
      have HT : Hid (xs.take k = xs) := Lib.hid (by rw [HLN.out, List.take_length])
      by_cases h1 : k ≤ 80
      · go_wp2_with fail
        go_ret
        exact ⟨⟨_, rfl, fun _ => ⟨by rw [← HLN.out]; exact h1, by rw [← HT.out]; exact HA.out⟩⟩, Below.refl _ _⟩
      · go_wp2_with fail
        go_ret
        exact ⟨⟨_, rfl, fun h => by simp at h; omega⟩, Below.refl _ _⟩
    by_cases hbig : k = 100
    · subst hbig
      have h80 : ¬ n ≤ 80 := by omega
      go_wp2_with fail
      go_ret
      exact ⟨⟨_, rfl, fun h => by simp at h; omega⟩, Below.refl _ _⟩
    have hlt : k < n := by omega
    have hlt2 : k < 100 := by omega
    obtain ⟨x, hx⟩ : ∃ x, x = xs[k]'(by have := HLN.out; omega) := ⟨_, rfl⟩
    obtain ⟨b, off, rfl, hbl, hat⟩ := HV.out.at (by have := HLN.out; omega)
    have HR := Lib.hid (show w.rangeAt b (off + k * 41) x.v.cells by rw [hx]; exact hat k (by have := HLN.out; omega))
    have HX : Hid (∀ y ∈ xs.take (k + 1), y = x ∨ y ∈ xs.take k) := Lib.hid (by
      intro y hy
      rw [List.take_succ_eq_append_getElem (by have := HLN.out; omega), List.mem_append, List.mem_singleton] at hy
      rcases hy with h | h
      · exact .inr h
      · exact .inl (by rw [h, hx]))
    clear hat
    have HCN := Lib.hid (Flo.namec HR.out)
    rcases Nat.lt_or_ge 60 (x.v).name.size with h60 | h60
    · have HBAD : Hid (x ∈ xs) := Lib.hid (by rw [hx]; exact List.getElem_mem _)
      clear hx HR HX
      go_wp2_with ((with_reducible refine sl 18 ?_); go_must (refine wpL_loadC rfl 9 (.tmp 17) rfl b _ rfl (.string (x.v).name) HCN.out Try.underlying9 rfl ?_); simp only [PT])
      go_ret
      exact ⟨⟨_, rfl, fun h => by cases h⟩, Below.refl _ _⟩
    · clear hx HR
      go_wp2_with ((with_reducible refine sl 18 ?_); go_must (refine wpL_loadC rfl 9 (.tmp 17) rfl b _ rfl (.string (x.v).name) HCN.out Try.underlying9 rfl ?_); simp only [PT])
      go_round
      case rel => exact ⟨k + 1, by omega, by omega, by go_num, Lib.hid (by
        intro y hy
        rcases HX.out y hy with rfl | h
        · exact h60
        · exact HA.out y h)⟩
      case measure => simp [intOf]; omega

/-- what it says -/
def fewAR (xs : List ActV) (e : Ending) : Prop := ∃ b, e = .returned (.bool b) ∧ (b = true → xs.length ≤ 80 ∧ ∀ x ∈ xs, (x.fl.v).name.size ≤ 60)
theorem fewA_any (ad : Option Addr) (n c : Nat) (xs : List ActV) (w : World) (hv : Acts w ad n c xs) :
    Calls Try.prog 22 #[.slice ad n c] w fun e w' => fewAR xs e ∧ Below w.heap.size w w' := by
  have HV := Lib.hid hv
  have hle := hv.le
  have HLN := Lib.hid hv.len
  clear hv
  go_enter Try.func22, Try.ntmps22
  go_wp2_with fail
  go_loop [3] (fun i => ∃ k : Nat, k ≤ n ∧ k ≤ 100 ∧ i = .int .i64 (k : Int) ∧ Hid (∀ x ∈ xs.take k, (x.fl.v).name.size ≤ 60)) (fun i => 1000 - (intOf i).toNat)
  case atStart => exact ⟨0, by omega, by omega, rfl, Lib.hid (by simp)⟩
  case round =>
    obtain ⟨k, hk, hk2, rfl, HA⟩ := hrel
    by_cases hend : k = n
    · subst hend
      have HT : Hid (xs.take k = xs) := Lib.hid (by rw [HLN.out, List.take_length])
      by_cases h1 : k ≤ 80
      · go_wp2_with fail
        go_ret
        exact ⟨⟨_, rfl, fun _ => ⟨by rw [← HLN.out]; exact h1, by rw [← HT.out]; exact HA.out⟩⟩, Below.refl _ _⟩
      · go_wp2_with fail
        go_ret
        exact ⟨⟨_, rfl, fun h => by simp at h; omega⟩, Below.refl _ _⟩
    by_cases hbig : k = 100
    · subst hbig
      have h80 : ¬ n ≤ 80 := by omega
      go_wp2_with fail
      go_ret
      exact ⟨⟨_, rfl, fun h => by simp at h; omega⟩, Below.refl _ _⟩
    have hlt : k < n := by omega
    have hlt2 : k < 100 := by omega
    obtain ⟨x, hx⟩ : ∃ x, x = xs[k]'(by have := HLN.out; omega) := ⟨_, rfl⟩
    obtain ⟨b, off, rfl, hbl, hat⟩ := HV.out.at (by have := HLN.out; omega)
    have HR := Lib.hid (show w.rangeAt b (off + k * 49) x.cells by rw [hx]; exact hat k (by have := HLN.out; omega))
    have HX : Hid (∀ y ∈ xs.take (k + 1), y = x ∨ y ∈ xs.take k) := Lib.hid (by
      intro y hy
      rw [List.take_succ_eq_append_getElem (by have := HLN.out; omega), List.mem_append, List.mem_singleton] at hy
      rcases hy with h | h
      · exact .inr h
      · exact .inl (by rw [h, hx]))
    clear hat
    have HCN := Lib.hid (Act.namec HR.out)
    rcases Nat.lt_or_ge 60 (x.fl.v).name.size with h60 | h60
    · have HBAD : Hid (x ∈ xs) := Lib.hid (by rw [hx]; exact List.getElem_mem _)
      clear hx HR HX
      go_wp2_with ((with_reducible refine sl 19 ?_); go_must (refine wpL_loadC rfl 9 (.tmp 18) rfl b _ rfl (.string (x.fl.v).name) HCN.out Try.underlying9 rfl ?_); simp only [PT])
      go_ret
      exact ⟨⟨_, rfl, fun h => by cases h⟩, Below.refl _ _⟩
    · clear hx HR
      go_wp2_with ((with_reducible refine sl 19 ?_); go_must (refine wpL_loadC rfl 9 (.tmp 18) rfl b _ rfl (.string (x.fl.v).name) HCN.out Try.underlying9 rfl ?_); simp only [PT])
      go_round
      case rel => exact ⟨k + 1, by omega, by omega, by go_num, Lib.hid (by
        intro y hy
        rcases HX.out y hy with rfl | h
        · exact h60
        · exact HA.out y h)⟩
      case measure => simp [intOf]; omega

def roomN (m : Nat) : Nat := 1 + m % 40
theorem roomN_le (m : Nat) : 1 ≤ roomN m ∧ roomN m ≤ 40 := by unfold roomN; omega
theorem room_any (m : Nat) (hm : m < 256) (w : World) : Calls Try.prog 18 #[.int .u8 (m : Int)] w fun e w' => e = .returned (.int .i64 ((roomN m : Nat) : Int)) ∧ Below w.heap.size w w' := by
  have HR : Hid ((1 : Int) + ((m : Int) % 40) = ((roomN m : Nat) : Int)) := Lib.hid (by unfold roomN; omega)
  go_enter Try.func18, Try.ntmps18
  go_wp2_with fail
  go_ret
  refine ⟨?_, Below.refl _ _⟩
  rw [← HR.out]
  rfl
/-- the same flows -/
theorem same_at (a1 a2 : Option Addr) (n1 c1 n2 c2 : Nat) (xs : List FloW) (w : World) (h1 : Fls w a1 n1 c1 xs) (h2 : Fls w a2 n2 c2 xs) :
    Calls Try.prog 24 #[.slice a1 n1 c1, .slice a2 n2 c2] w fun e w' => e = .returned (.bool true) ∧ Below w.heap.size w w' := by
  obtain rfl : n1 = n2 := h1.len.trans h2.len.symm
  have HV := Lib.hid h1
  have HU := Lib.hid h2
  have hle := h1.le
  have HLN := Lib.hid h1.len
  clear h1 h2
  go_enter Try.func24, Try.ntmps24
  go_wp2_with fail
  go_loopw [5] (fun i wr => ∃ k : Nat, k ≤ n1 ∧ i = .int .i64 (k : Int) ∧ Hid (Below w.heap.size w wr)) (fun i _ => n1 - (intOf i).toNat)
  case atStart => exact ⟨0, by omega, rfl, Lib.hid (Below.refl _ _)⟩
  case round =>
    obtain ⟨k, hk, rfl, HB⟩ := hrel
    by_cases hend : k = n1
    · subst hend
      go_wp2_with fail
      go_ret
      exact ⟨rfl, HB.out⟩
    have hlt : k < n1 := by omega
    obtain ⟨x, hx⟩ : ∃ x, x = xs[k]'(by have := HLN.out; omega) := ⟨_, rfl⟩
    obtain ⟨b, off, rfl, hbl, hat⟩ := (HV.out.below HB.out).at (by have := HLN.out; omega)
    have HR := Lib.hid (show wr.rangeAt b (off + k * 41) x.v.cells by rw [hx]; exact hat k (by have := HLN.out; omega))
    obtain ⟨b2, off2, rfl, hbl2, hat2⟩ := (HU.out.below HB.out).at (by have := HLN.out; omega)
    have HR2 := Lib.hid (show wr.rangeAt b2 (off2 + k * 41) x.v.cells by rw [hx]; exact hat2 k (by have := HLN.out; omega))
    clear hx hat hat2
    go_wp2_with fail
    refine wp_region_held_drew (S := fun u__ => u__.rangeAt b (off + k * 41) x.v.cells ∧ u__.rangeAt b2 (off2 + k * 41) x.v.cells) (by kernel_rfl) ?_ (fun hHeld => ?_)
    focus (exact ⟨range_keep HR.out bup, range_keep HR2.out bup⟩)
    refine tk 0 (oi := ⟨some 17, _, _, _, _, _⟩) (v := ?_) rfl (by kernel_rfl) (.inl ⟨by rfl, ?_⟩) hHeld ?_; rotate_left; focus (intro w hSw; (try dsimp only at hSw); go_simp; try with_reducible rfl)
    simp only [PT]
    refine tk 1 (oi := ⟨some 18, _, _, _, _, _⟩) (v := ?_) rfl (by kernel_rfl) (.inl ⟨by rfl, ?_⟩) hHeld ?_; rotate_left; focus (intro w hSw; (try dsimp only at hSw); go_simp; try with_reducible rfl)
    simp only [PT]
    refine tk 2 (oi := ⟨some 19, _, _, _, _, _⟩) (v := ?_) rfl (by kernel_rfl) (.inl ⟨by rfl, ?_⟩) hHeld ?_; rotate_left; focus (intro w hSw; (try dsimp only at hSw); go_simp; try with_reducible rfl)
    simp only [PT]
    refine' tk 3 (oi := ⟨some 20, _, _, _, _, _⟩) (v := _) rfl (by kernel_rfl) (yieldsIf_load_mid (by rfl) _ _ rfl _ _ rfl (x.v.cells) _ (fun _ h => h.1) (Try.underlying28) rfl (one_size x)) hHeld ?_
    simp only [PT]
    refine tk 4 (oi := ⟨some 21, _, _, _, _, _⟩) (v := ?_) rfl (by kernel_rfl) (.inl ⟨by rfl, ?_⟩) hHeld ?_; rotate_left; focus (intro w hSw; (try dsimp only at hSw); go_simp; try with_reducible rfl)
    simp only [PT]
    refine tk 5 (oi := ⟨some 22, _, _, _, _, _⟩) (v := ?_) rfl (by kernel_rfl) (.inl ⟨by rfl, ?_⟩) hHeld ?_; rotate_left; focus (intro w hSw; (try dsimp only at hSw); go_simp; try with_reducible rfl)
    simp only [PT]
    refine tk 6 (oi := ⟨some 23, _, _, _, _, _⟩) (v := ?_) rfl (by kernel_rfl) (.inl ⟨by rfl, ?_⟩) hHeld ?_; rotate_left; focus (intro w hSw; (try dsimp only at hSw); go_simp; try with_reducible rfl)
    simp only [PT]
    refine' tk 7 (oi := ⟨some 24, _, _, _, _, _⟩) (v := _) rfl (by kernel_rfl) (yieldsIf_load_mid (by rfl) _ _ rfl _ _ rfl (x.v.cells) _ (fun _ h => h.2) (Try.underlying28) rfl (one_size x)) hHeld ?_
    simp only [PT]
    refine' tk 8 (oi := ⟨some 25, _, _, _, _, _⟩) (v := _) rfl (by kernel_rfl) (yields_neqF x x false (by simp) (by rfl) (.tmp 20) (.tmp 24) rfl rfl rfl) hHeld ?_
    simp only [PT]
    refine wpAnyH_done (by kernel_rfl) ?_ _
    all_goals
      go_wp2_with fail
      go_roundw
      case rel => exact ⟨k + 1, by omega, by go_num, Lib.hid (HB.out.trans (Below.mono bup HB.out.size))⟩
      case measure => first | (simp [intOf]; done) | (simp [intOf]; omega)
/-- flows of unlike keys -/
def AloneR (xs : List FloW) (e : Ending) : Prop := ∃ b, e = .returned (.bool b) ∧ (b = true → xs.Pairwise (fun x y => x.v.key ≠ y.v.key))
theorem alone_any (ad : Option Addr) (n c : Nat) (xs : List FloW) (w : World) (h : Fls w ad n c xs) :
    Calls Try.prog 25 #[.slice ad n c] w fun e w' => AloneR xs e ∧ Below w.heap.size w w' := by
  have HV := Lib.hid h
  have hle := h.le
  have HLN := Lib.hid h.len
  clear h
  go_enter Try.func25, Try.ntmps25
  go_wp2_with fail
  go_loopw [3] (fun i wr => ∃ k : Nat, k ≤ n ∧ i = .int .i64 (k : Int) ∧ Hid ((xs.take k).Pairwise (fun x y => x.v.key ≠ y.v.key)) ∧ Hid (Below w.heap.size w wr)) (fun i _ => n - (intOf i).toNat)
  case atStart => exact ⟨0, by omega, rfl, Lib.hid (by simp), Lib.hid (Below.refl _ _)⟩
  case round =>
    obtain ⟨k, hk, rfl, HP, HB⟩ := hrel
    by_cases hend : k = n
    · subst hend
      go_wp2_with fail
      go_ret
      exact ⟨⟨_, rfl, fun _ => by have h := HP.out; rwa [HLN.out, List.take_length] at h⟩, HB.out⟩
    have hlt : k < n := by omega
    obtain ⟨x, hx⟩ : ∃ x, x = xs[k]'(by have := HLN.out; omega) := ⟨_, rfl⟩
    have HX := Lib.hid hx
    clear hx
    obtain ⟨wv, hwv⟩ : ∃ wv, wv = wr := ⟨_, rfl⟩
    subst hwv
    go_wp2_with fail
    go_loopw [4] (fun i wr => ∃ m : Nat, m ≤ k ∧ i = .int .i64 (m : Int) ∧ Hid (∀ y ∈ xs.take m, y.v.key ≠ x.v.key) ∧ Hid (Below w.heap.size w wr)) (fun i _ => k - (intOf i).toNat)
    case atStart => exact ⟨0, by omega, rfl, Lib.hid (by simp), HB⟩
    case round =>
      clear HB
      obtain ⟨m, hm, rfl, HQ, HB⟩ := hrel
      by_cases hend2 : m = k
      · subst hend2
        go_wp2_with fail
        go_roundw
        case rel => exact ⟨m + 1, by omega, by go_num, Lib.hid (by
          rw [List.take_succ_eq_append_getElem (by have := HLN.out; omega), List.pairwise_append]
          refine ⟨HP.out, by simp, fun a ha b hb => ?_⟩
          rw [List.mem_singleton] at hb
          rw [hb, ← HX.out]
          exact HQ.out a ha), HB⟩
        case measure => first | (simp [intOf]; done) | (simp [intOf]; omega)
      have hlt2 : m < k := by omega
      have hlt3 : m < n := by omega
      obtain ⟨y, hy⟩ : ∃ y, y = xs[m]'(by have := HLN.out; omega) := ⟨_, rfl⟩
      obtain ⟨b, off, rfl, hbl, hat⟩ := (HV.out.below HB.out).at (by have := HLN.out; omega)
      have HR := Lib.hid (show wr.rangeAt b (off + k * 41) x.v.key.cells from range_key (by rw [HX.out]; exact hat k (by have := HLN.out; omega)))
      have HR2 := Lib.hid (show wr.rangeAt b (off + m * 41) y.v.key.cells from range_key (by rw [hy]; exact hat m (by have := HLN.out; omega)))
      have HY := Lib.hid hy
      clear hy hat
      go_wp2_with fail
      obtain ⟨d, hd⟩ : ∃ d : Bool, d = decide (x.v.key = y.v.key) := ⟨_, rfl⟩
      have HD : Hid (d = true ↔ x.v.key = y.v.key) := Lib.hid (by rw [hd, decide_eq_true_iff])
      clear hd
      refine wp_region_held_drew (S := fun u__ => u__.rangeAt b (off + k * 41) x.v.key.cells ∧ u__.rangeAt b (off + m * 41) y.v.key.cells) (by kernel_rfl) ?_ (fun hHeld => ?_)
      focus (exact ⟨range_keep HR.out bup, range_keep HR2.out bup⟩)
      refine tk 0 (oi := ⟨some 16, _, _, _, _, _⟩) (v := ?_) rfl (by kernel_rfl) (.inl ⟨by rfl, ?_⟩) hHeld ?_; rotate_left; focus (intro w hSw; (try dsimp only at hSw); go_simp; try with_reducible rfl)
      simp only [PT]
      refine tk 1 (oi := ⟨some 17, _, _, _, _, _⟩) (v := ?_) rfl (by kernel_rfl) (.inl ⟨by rfl, ?_⟩) hHeld ?_; rotate_left; focus (intro w hSw; (try dsimp only at hSw); go_simp; try with_reducible rfl)
      simp only [PT]
      refine tk 2 (oi := ⟨some 18, _, _, _, _, _⟩) (v := ?_) rfl (by kernel_rfl) (.inl ⟨by rfl, ?_⟩) hHeld ?_; rotate_left; focus (intro w hSw; (try dsimp only at hSw); go_simp; try with_reducible rfl)
      simp only [PT]
      refine tk 3 (oi := ⟨some 19, _, _, _, _, _⟩) (v := ?_) rfl (by kernel_rfl) (.inl ⟨by rfl, ?_⟩) hHeld ?_; rotate_left; focus (intro w hSw; (try dsimp only at hSw); go_simp; try with_reducible rfl)
      simp only [PT]
      refine' tk 4 (oi := ⟨some 20, _, _, _, _, _⟩) (v := _) rfl (by kernel_rfl) (yieldsIf_load_mid (by rfl) _ _ rfl _ _ rfl (x.v.key.cells) _ (fun _ h => h.1) (Try.underlying26) rfl (tup_len x)) hHeld ?_
      simp only [PT]
      refine tk 5 (oi := ⟨some 21, _, _, _, _, _⟩) (v := ?_) rfl (by kernel_rfl) (.inl ⟨by rfl, ?_⟩) hHeld ?_; rotate_left; focus (intro w hSw; (try dsimp only at hSw); go_simp; try with_reducible rfl)
      simp only [PT]
      refine tk 6 (oi := ⟨some 22, _, _, _, _, _⟩) (v := ?_) rfl (by kernel_rfl) (.inl ⟨by rfl, ?_⟩) hHeld ?_; rotate_left; focus (intro w hSw; (try dsimp only at hSw); go_simp; try with_reducible rfl)
      simp only [PT]
      refine tk 7 (oi := ⟨some 23, _, _, _, _, _⟩) (v := ?_) rfl (by kernel_rfl) (.inl ⟨by rfl, ?_⟩) hHeld ?_; rotate_left; focus (intro w hSw; (try dsimp only at hSw); go_simp; try with_reducible rfl)
      simp only [PT]
      refine tk 8 (oi := ⟨some 24, _, _, _, _, _⟩) (v := ?_) rfl (by kernel_rfl) (.inl ⟨by rfl, ?_⟩) hHeld ?_; rotate_left; focus (intro w hSw; (try dsimp only at hSw); go_simp; try with_reducible rfl)
      simp only [PT]
      refine' tk 9 (oi := ⟨some 25, _, _, _, _, _⟩) (v := _) rfl (by kernel_rfl) (yieldsIf_load_mid (by rfl) _ _ rfl _ _ rfl (y.v.key.cells) _ (fun _ h => h.2) (Try.underlying26) rfl (tup_len y)) hHeld ?_
      simp only [PT]
      refine' tk 10 (oi := ⟨some 26, _, _, _, _, _⟩) (v := _) rfl (by kernel_rfl) (yields_eqT x y d HD.out (by rfl) (.tmp 20) (.tmp 25) rfl rfl rfl) hHeld ?_
      simp only [PT]
      refine wpAnyH_done (by kernel_rfl) ?_ _
      all_goals
        cases d with
        | true =>
          go_wp2_with fail
          go_ret
          exact ⟨⟨_, rfl, fun h => by cases h⟩, HB.out.trans (Below.mono bup HB.out.size)⟩
        | false =>
          go_wp2_with fail
          go_roundw
          case rel => exact ⟨m + 1, by omega, by go_num, Lib.hid (by
            intro z hz
            rw [List.take_succ_eq_append_getElem (by have := HLN.out; omega), List.mem_append, List.mem_singleton] at hz
            rcases hz with h | h
            · exact HQ.out z h
            · rw [h, ← HY.out]
              intro e
              have := HD.out.2 e.symm
              cases this), Lib.hid (HB.out.trans (Below.mono bup HB.out.size))⟩
          case measure => first | (simp [intOf]; done) | (simp [intOf]; omega)
end Go.Proofs.Ytgpdlhbndoeldaa
/-
  Chapter 21, plain: what a key's flow is behind what is done to a table.
-/
namespace Go.Proofs.Ytgpdlhbndoeldaa
open Go.RowKit Go.Sort
set_option linter.unusedVariables false
set_option linter.unusedSimpArgs false

theorem flows_inj {kb : List UInt8} {S : List Slt} (g : Good kb S) {x y : FloW} (hx : x ∈ flowsS S) (hy : y ∈ flowsS S) (h : x.v.key = y.v.key) : x = y := by
  obtain ⟨i, si, h1, h2, rfl⟩ := mem_flowsS.1 hx
  obtain ⟨j, sj, h3, h4, rfl⟩ := mem_flowsS.1 hy
  obtain rfl := g.keys i j si sj h1 h3 h2 h4 h
  rw [h1] at h3
  rw [Option.some.inj h3]
theorem look_iff {kb : List UInt8} {S : List Slt} (g : Good kb S) {k : Tup} {x : FloW} : look S k = some x ↔ x ∈ flowsS S ∧ x.v.key = k := by
  constructor
  · exact look_some
  · rintro ⟨h1, h2⟩
    cases h : look S k with
    | none => exact absurd h2 (look_none.1 h x h1)
    | some y =>
      obtain ⟨h3, h4⟩ := look_some h
      rw [flows_inj g h3 h1 (h4.trans h2.symm)]
theorem look_ext {kb kb' : List UInt8} {S S' : List Slt} (g : Good kb S) (g' : Good kb' S') {k : Tup} (h : ∀ x : FloW, x.v.key = k → (x ∈ flowsS S' ↔ x ∈ flowsS S)) : look S' k = look S k := by
  cases hs : look S k with
  | some x =>
    obtain ⟨h1, h2⟩ := look_some hs
    exact (look_iff g').2 ⟨(h x h2).2 h1, h2⟩
  | none => exact look_none.2 fun x hx hk => look_none.1 hs x ((h x hk).1 hx) hk
/-- a flow put where there is room -/
theorem look_put {kb : List UInt8} {S S' : List Slt} (g : Good kb S) (g' : Good kb S') {f : FloW} (h : (flowsS S').Perm (f :: (flowsS S).filter (fun x => decide (x.v.key ≠ f.v.key)))) (k : Tup) : look S' k = if f.v.key = k then some f else look S k := by
  split
  · rename_i e
    exact (look_iff g').2 ⟨h.mem_iff.2 (List.mem_cons_self), e⟩
  · rename_i e
    refine look_ext g g' fun x hx => ?_
    rw [h.mem_iff, List.mem_cons, List.mem_filter]
    constructor
    · rintro (rfl | h)
      · exact absurd hx e
      · exact h.1
    · intro hm
      exact .inr ⟨hm, by simp; rw [hx]; exact fun h => e h.symm⟩
theorem look_drop {kb : List UInt8} {S S' : List Slt} (g : Good kb S) (g' : Good kb S') {d : Tup} (h : (flowsS S').Perm ((flowsS S).filter (fun x => decide (x.v.key ≠ d)))) (k : Tup) : look S' k = if d = k then none else look S k := by
  split
  · rename_i e
    refine look_none.2 fun x hx hk => ?_
    have := (List.mem_filter.1 (h.mem_iff.1 hx)).2
    simp at this
    exact this (hk.trans e.symm)
  · rename_i e
    refine look_ext g g' fun x hx => ?_
    rw [h.mem_iff, List.mem_filter]
    constructor
    · exact fun h => h.1
    · exact fun hm => ⟨hm, by simp; rw [hx]; exact fun h => e h.symm⟩
/-- acts, and which one of a key was the last -/
def hits (a : ActV) (k : Tup) : Bool := decide (a.fl.v.key = k) && (decide (a.kind = 2) || (decide (a.kind = 0) && rightF a.fl.v))
def lstA (l : List ActV) (k : Tup) : Option ActV := (l.filter (hits · k)).getLast?
theorem lstA_snoc (l : List ActV) (a : ActV) (k : Tup) : lstA (l ++ [a]) k = if hits a k = true then some a else lstA l k := by
  unfold lstA
  rw [List.filter_append, List.filter_cons]
  cases hits a k <;> simp
theorem lstA_nil (k : Tup) : lstA [] k = none := rfl
theorem take_snoc {α : Type} (l : List α) (i : Nat) (h : i < l.length) : l.take (i + 1) = l.take i ++ [l[i]] := List.take_succ_eq_append_getElem h
def flowOf : Option ActV → Option FloW
  | some a => if a.kind = 0 then some a.fl else none
  | none => none
/-- the state behind some acts, with room for all -/
structure StI (l : List ActV) (S : List Slt) : Prop where
  look : ∀ k, look S k = flowOf (lstA l k)
  len : (flowsS S).length ≤ l.length
theorem StI.nil {S : List Slt} (h : flowsS S = []) : StI [] S := ⟨fun k => by rw [lstA_nil]; exact look_none.2 (by rw [h]; simp), by rw [h]; simp⟩
theorem StI.none {l : List ActV} {S : List Slt} (h : StI l S) (a : ActV) (h0 : a.kind = 0 → rightF a.fl.v = false) (h2 : a.kind ≠ 2) : StI (l ++ [a]) S := by
  have hh : ∀ k, hits a k = false := fun k => by
    unfold hits
    by_cases e : a.kind = 0
    · rw [h0 e]; simp [h2]
    · simp [e, h2]
  exact ⟨fun k => by rw [lstA_snoc, hh k]; exact h.look k, by have := h.len; simp; omega⟩
theorem StI.drop {l : List ActV} {S S' : List Slt} {kb : List UInt8} (h : StI l S) (g : Good kb S) (g' : Good kb S') (a : ActV) (h2 : a.kind = 2) (hp : (flowsS S').Perm ((flowsS S).filter (fun x => decide (x.v.key ≠ a.fl.v.key)))) : StI (l ++ [a]) S' := by
  refine ⟨fun k => ?_, ?_⟩
  · rw [look_drop g g' hp, lstA_snoc]
    by_cases e : a.fl.v.key = k
    · rw [if_pos e, if_pos (by simp [hits, e, h2])]
      simp [flowOf, h2]
    · rw [if_neg e, if_neg (by simp [hits, e])]
      exact h.look k
  · have h1 := hp.length_eq
    have h3 := List.length_filter_le (fun x : FloW => decide (x.v.key ≠ a.fl.v.key)) (flowsS S)
    have := h.len
    simp only [List.length_append, List.length_cons, List.length_nil]
    omega
theorem StI.put {l : List ActV} {S S' : List Slt} {kb : List UInt8} {room : Nat} {gone : Flo} {left : Bool} (h : StI l S) (g : Good kb S) (g' : Good kb S') (a : ActV) (h0 : a.kind = 0) (hr : rightF a.fl.v = true) (hl : l.length < room) (hp : PutS room S a.fl gone left S') : StI (l ++ [a]) S' := by
  rcases hp with ⟨_, _, _, hp⟩ | ⟨_, _, h1, _⟩
  · refine ⟨fun k => ?_, ?_⟩
    · rw [look_put g g' hp, lstA_snoc]
      by_cases e : a.fl.v.key = k
      · rw [if_pos e, if_pos (by simp [hits, e, h0, hr])]
        simp [flowOf, h0]
      · rw [if_neg e, if_neg (by simp [hits, e])]
        exact h.look k
    · have h1 := hp.length_eq
      have h3 := List.length_filter_le (fun x : FloW => decide (x.v.key ≠ a.fl.v.key)) (flowsS S)
      have := h.len
      rw [List.length_cons] at h1
      simp only [List.length_append, List.length_cons, List.length_nil]
      omega
  · have := h.len; omega
end Go.Proofs.Ytgpdlhbndoeldaa
/-
  Chapter 21: what the laws' walks share.
-/
namespace Go.Proofs.Ytgpdlhbndoeldaa
open Go.RowKit Go.Sort
set_option linter.unusedVariables false
set_option linter.unusedSimpArgs false
set_option maxRecDepth 100000
set_option maxHeartbeats 16000000

theorem skip_step {p : Bool} {A E : Prop} (h : p = false) (hE : E) : if p = true then A else E := by rw [if_neg (by rw [h]; simp)]; exact hE
theorem right_fit {f : Flo} (h : rightF f = true) : f.key.fit = true := by
  simp only [rightF, Bool.and_eq_true] at h
  exact knownT_fit h.1.1.1.1.1.1.1
theorem flows_nodup {kb : List UInt8} {S : List Slt} (g : Good kb S) : (flowsS S).Nodup := by
  unfold List.Nodup
  rw [flowsS]
  rw [List.pairwise_map, List.pairwise_filter]
  rw [List.pairwise_iff_getElem]
  intro i j hi hj hij h1 h2 he
  have := g.keys i j S[i] S[j] (List.getElem?_eq_getElem hi) (List.getElem?_eq_getElem hj) h1 h2 (by rw [he])
  omega
theorem own_block {w : World} {base : Nat} {e : TypeId} {size : Nat} {ad : Option Addr} {n c : Nat} {xs : List Value} (h : w.ownsRow base e size (.slice ad n c) n xs) : ∀ x, ad = some x → base ≤ x.block ∧ x.block < w.heap.size := by
  intro x hx
  rcases h.2 with ⟨h2, h0⟩ | ⟨g, cap, cur, hv, hb, hg, hnc, hcm, hcs, ht⟩
  · cases h0; subst hx; simp at h2
  · simp only [Value.slice.injEq] at hv
    obtain rfl := Option.some.inj (hv.1.symm.trans hx)
    exact ⟨hb, lt_of_block hg⟩
/-- put, right or not -/
theorem put_all (p q : Nat) (kb : List UInt8) (room : Nat) (S : List Slt) (f : FloW) (hsz : f.v.name.size ≤ 140737488351232) (w : World) (h : Rep w p q kb room S) :
    Calls Try.prog 21 #[.pointer (some ⟨p, 0, none⟩), .agg f.v.cells.toArray] w fun e w' => ∃ gone left err S', e = .returned (.tuple #[.agg (Flo.cells gone).toArray, .bool left, .int .i64 err]) ∧ Rep w' p q kb room S' ∧ But p q w w' ∧
      ((rightF f.v = false ∧ err = 1 ∧ gone = zeroF ∧ left = false ∧ S' = S) ∨ (rightF f.v = true ∧ err = 0 ∧ PutS room S f gone left S')) := by
  rcases two (rightF f.v) with hr | hr
  · exact (put_rep p q kb room S f hr w h).mono fun e w' ⟨gone, left, S', he, hr', hp, hb⟩ => ⟨gone, left, 0, S', he, hr', hb, .inr ⟨hr, rfl, hp⟩⟩
  · exact (put_wrong p q f hsz hr w).mono fun e w' ⟨he, hb⟩ => ⟨zeroF, false, 1, S, he, h.keep hb, But.of_below hb, .inl ⟨hr, rfl, rfl, rfl, rfl⟩⟩
theorem new_info {cs : List Value} (h : cs.length = 41) : (Try.prog.info? 28).map (fun i => (i.zero, i.size)) = some (some (.agg zeroF.cells.toArray), cs.toArray.size) := by rw [List.size_toArray, h]; exact flo_info
theorem new_size {cs : List Value} (h : cs.length = 41) : zeroF.cells.toArray.size = cs.toArray.size := by rw [List.size_toArray, List.size_toArray, h, Flo.length zeroF_ok]
theorem hatB {w w' : World} {g : Nat} {ob : Obj} (h : Hid (w.heap[g]? = some ob)) (hb : Below w.heap.size w w') : w'.heap[g]? = some ob := (hb.block g (lt_of_block h.out)).trans h.out
theorem Acts.get {w : World} {b off n c : Nat} {xs : List ActV} (h : Acts w (some ⟨b, off, none⟩) n c xs) (k : Nat) (hk : k < xs.length) : w.rangeAt b (off + k * 49) xs[k].cells := by
  obtain ⟨b', off', e, _, h⟩ := h.at (by omega)
  cases e
  exact h k hk
theorem Fls.get {w : World} {b off n c : Nat} {xs : List FloW} (h : Fls w (some ⟨b, off, none⟩) n c xs) (k : Nat) (hk : k < xs.length) : w.rangeAt b (off + k * 41) xs[k].v.cells := by
  obtain ⟨b', off', e, _, h⟩ := h.at (by omega)
  cases e
  exact h k hk
theorem act_flow {w : World} {b o : Nat} {x : ActV} (h : w.rangeAt b o x.cells) : w.rangeAt b (o + 1) x.fl.v.cells := fun j v hj => by
  have := x.flow j (List.getElem?_eq_some_iff.1 hj).1
  have := h (1 + j) v (this.trans hj)
  rwa [← Nat.add_assoc] at this
theorem act_kind {w : World} {b o : Nat} {x : ActV} (h : w.rangeAt b o x.cells) : w.cell? ⟨b, o, none⟩ = some (.int .i64 x.kind) := h 0 _ rfl
theorem get_no (p q : Nat) (kb : List UInt8) (room : Nat) (S : List Slt) (y : FloW) (hn : look S y.v.key = none) (w : World) (h : Rep w p q kb room S) :
    Calls Try.prog 20 #[.pointer (some ⟨p, 0, none⟩), .agg y.v.key.cells.toArray] w fun e w' => e = .returned (.tuple #[.agg zeroF.cells.toArray, .bool false]) ∧ Below w.heap.size w w' :=
  (get_rep p q kb room S y.v.key y.ok.1 y.ok.2.1 w h).mono fun e w' ⟨he, hb⟩ => ⟨by rw [he, hn]; unfold lookV; rw [hn]; rfl, hb⟩
theorem get_yes (p q : Nat) (kb : List UInt8) (room : Nat) (S : List Slt) (y x : FloW) (hn : look S y.v.key = some x) (w : World) (h : Rep w p q kb room S) :
    Calls Try.prog 20 #[.pointer (some ⟨p, 0, none⟩), .agg y.v.key.cells.toArray] w fun e w' => e = .returned (.tuple #[.agg x.v.cells.toArray, .bool true]) ∧ Below w.heap.size w w' :=
  (get_rep p q kb room S y.v.key y.ok.1 y.ok.2.1 w h).mono fun e w' ⟨he, hb⟩ => ⟨by rw [he, hn]; unfold lookV; rw [hn]; rfl, hb⟩
def zeroW : FloW := ⟨zeroF, zeroF_ok⟩
/-- Get, all ways -/
theorem get_law (p q : Nat) (kb : List UInt8) (room : Nat) (S : List Slt) (y : FloW) (w : World) (h : Rep w p q kb room S) :
    Calls Try.prog 20 #[.pointer (some ⟨p, 0, none⟩), .agg y.v.key.cells.toArray] w fun e w' => (∃ g : FloW, ∃ ok : Bool, e = .returned (.tuple #[.agg g.v.cells.toArray, .bool ok]) ∧ ((ok = true ∧ look S y.v.key = some g) ∨ (ok = false ∧ g = zeroW ∧ look S y.v.key = none))) ∧ Below w.heap.size w w' := by
  cases hl : look S y.v.key with
  | none => exact (get_no p q kb room S y hl w h).mono fun e w' ⟨he, hb⟩ => ⟨⟨zeroW, false, he, .inr ⟨rfl, rfl, rfl⟩⟩, hb⟩
  | some x => exact (get_yes p q kb room S y x hl w h).mono fun e w' ⟨he, hb⟩ => ⟨⟨x, true, he, .inl ⟨rfl, rfl⟩⟩, hb⟩
/-- Put, all ways -/
def PutW (room : Nat) (S : List Slt) (f gone : FloW) (left : Bool) (err : Int) (S' : List Slt) : Prop :=
  (rightF f.v = false ∧ err = 1 ∧ gone = zeroW ∧ left = false ∧ S' = S) ∨ (rightF f.v = true ∧ err = 0 ∧ PutS room S f gone.v left S')
theorem put_law (p q : Nat) (kb : List UInt8) (room : Nat) (S : List Slt) (f : FloW) (hsz : f.v.name.size ≤ 140737488351232) (w : World) (h : Rep w p q kb room S) :
    Calls Try.prog 21 #[.pointer (some ⟨p, 0, none⟩), .agg f.v.cells.toArray] w fun e w' => ∃ (gone : FloW) (left : Bool) (err : Int) (S' : List Slt), e = .returned (.tuple #[.agg gone.v.cells.toArray, .bool left, .int .i64 err]) ∧ Rep w' p q kb room S' ∧ But p q w w' ∧ PutW room S f gone left err S' :=
  (put_all p q kb room S f hsz w h).mono fun e w' ⟨gone, left, err, S', he, hr, hb, hp⟩ => by
    rcases hp with ⟨h1, h2, rfl, h4, h5⟩ | ⟨h1, h2, h3⟩
    · exact ⟨zeroW, left, err, S', he, hr, hb, .inl ⟨h1, h2, rfl, h4, h5⟩⟩
    · rcases h3 with ⟨k1, rfl, k2⟩ | ⟨k1, k2, k3, g0, R, k4, rfl, k5⟩
      · exact ⟨zeroW, left, err, S', he, hr, hb, .inr ⟨h1, h2, .inl ⟨k1, rfl, k2⟩⟩⟩
      · exact ⟨g0, left, err, S', he, hr, hb, .inr ⟨h1, h2, .inr ⟨k1, k2, k3, g0, R, k4, rfl, k5⟩⟩⟩
theorem flosN_eq (l : List FloN) : flosN l = flosC (l.map FloN.x) := by
  unfold flosN flosC
  induction l with
  | nil => rfl
  | cons a l ih => simp_all
/-- List -/
def Sorted (ls : List FloW) : Prop := ls.Pairwise (fun a b => oldF b.v a.v = false)
theorem list_law (p q : Nat) (kb : List UInt8) (room : Nat) (S : List Slt) (w : World) (h : Rep w p q kb room S) :
    Calls Try.prog 19 #[.pointer (some ⟨p, 0, none⟩)] w fun e w' => ∃ ad c, ∃ ls : List FloW, e = .returned (.slice ad ls.length c) ∧ ls.Perm (flowsS S) ∧ Sorted ls ∧ w'.ownsRow w.heap.size 28 41 (.slice ad ls.length c) ls.length (flosC ls) ∧ Below w.heap.size w w' :=
  (list_rep p q kb room S w h).mono fun e w' ⟨ad, c, l, he, hp, hs, ho, hb⟩ => ⟨ad, c, l.map FloN.x, by rw [List.length_map]; exact he, hp, List.pairwise_map.2 hs, by rw [List.length_map, ← flosN_eq]; exact ho, hb⟩
instance {w w' : World} {b off : Nat} {cs : List Value} : Ck (w.rangeAt b off cs) w' w (w'.rangeAt b off cs) := ⟨fun h hE => range_keep h hE⟩
theorem flows_right {kb : List UInt8} {S : List Slt} (g : Good kb S) {x : FloW} (h : x ∈ flowsS S) : rightF x.v = true := by
  obtain ⟨j, s, h1, h2, rfl⟩ := mem_flowsS.1 h
  exact g.right j s h1 h2
theorem FloW.ext' {x y : FloW} (h : x.v = y.v) : x = y := by
  cases x; cases y; cases h; rfl
theorem yields_neqF_ne {ops : Array Oper} {S : World → Prop} {o : Oper} {a : Act} (x y : FloW) (h : x.v ≠ y.v) (hgd : Region.wanted o (yielded ops a.tmps) = true) (X Y : Operand) (ho : o.op = .binOp .neq 28 X Y 28)
    (hx : a.eval X = .agg x.v.cells.toArray) (hy : a.eval Y = .agg y.v.cells.toArray) : YieldsIf Try.prog ops S o (.bool true) a := yields_neqF x y true ⟨fun h => by simp at h, fun h' => absurd h' h⟩ hgd X Y ho hx hy
theorem yields_neqT_same {ops : Array Oper} {S : World → Prop} {o : Oper} {a : Act} (x y : FloW) (h : x.v.key = y.v.key) (hgd : Region.wanted o (yielded ops a.tmps) = true) (X Y : Operand) (ho : o.op = .binOp .neq 26 X Y 26)
    (hx : a.eval X = .agg x.v.key.cells.toArray) (hy : a.eval Y = .agg y.v.key.cells.toArray) : YieldsIf Try.prog ops S o (.bool false) a := yields_neqT x y false ⟨fun _ => h, fun _ => rfl⟩ hgd X Y ho hx hy
theorem yields_eqT_same {ops : Array Oper} {S : World → Prop} {o : Oper} {a : Act} (x y : FloW) (h : x.v.key = y.v.key) (hgd : Region.wanted o (yielded ops a.tmps) = true) (X Y : Operand) (ho : o.op = .binOp .eql 26 X Y 26)
    (hx : a.eval X = .agg x.v.key.cells.toArray) (hy : a.eval Y = .agg y.v.key.cells.toArray) : YieldsIf Try.prog ops S o (.bool true) a := yields_eqT x y true ⟨fun _ => h, fun _ => rfl⟩ hgd X Y ho hx hy
theorem yields_eqT_ne {ops : Array Oper} {S : World → Prop} {o : Oper} {a : Act} (x y : FloW) (h : x.v.key ≠ y.v.key) (hgd : Region.wanted o (yielded ops a.tmps) = true) (X Y : Operand) (ho : o.op = .binOp .eql 26 X Y 26)
    (hx : a.eval X = .agg x.v.key.cells.toArray) (hy : a.eval Y = .agg y.v.key.cells.toArray) : YieldsIf Try.prog ops S o (.bool false) a := yields_eqT x y false ⟨fun h => by simp at h, fun h' => absurd h' h⟩ hgd X Y ho hx hy
/-- what is there behind a Put -/
theorem put_there_now {kb : List UInt8} {room : Nat} {S S' : List Slt} {x : FloW} {gone : Flo} {left : Bool} (g' : Good kb S') (hp : PutS room S x gone left S') : look S' x.v.key = some x := by
  rcases hp with ⟨_, _, _, h⟩ | ⟨_, _, _, g0, R, _, _, _, h⟩
  · exact (look_iff g').2 ⟨h.mem_iff.2 List.mem_cons_self, rfl⟩
  · exact (look_iff g').2 ⟨h.mem_iff.2 List.mem_cons_self, rfl⟩
/-- what was there, behind a Put -/
theorem oldest_case {kb : List UInt8} {room : Nat} {S S' : List Slt} {x gone v : FloW} {left : Bool} {err : Int} (g : Good kb S) (g' : Good kb S') (hp : PutW room S x gone left err S') (hv : v ∈ flowsS S) :
    (left = false ∧ look S' v.v.key = some v) ∨ (left = false ∧ err = 0 ∧ v.v.key = x.v.key ∧ x.v ≠ v.v ∧ look S' v.v.key = some x) ∨
    (left = true ∧ v.v.key = gone.v.key ∧ look S' v.v.key = none ∧ oldF v.v gone.v = false ∧ rightF gone.v = true) ∨ (left = true ∧ v.v.key ≠ gone.v.key ∧ look S' v.v.key = some v ∧ oldF v.v gone.v = false ∧ rightF gone.v = true) := by
  rcases hp with ⟨_, _, _, h4, rfl⟩ | ⟨_, he, hp⟩
  · exact .inl ⟨h4, (look_iff g).2 ⟨hv, rfl⟩⟩
  · rcases hp with ⟨h1, _, _, h⟩ | ⟨h1, hno, _, g0, R, hm, hg, h2, h3⟩
    · have hl := look_put g g' h v.v.key
      by_cases e : x.v.key = v.v.key
      · rw [if_pos e] at hl
        by_cases e2 : x.v = v.v
        · exact .inl ⟨h1, by rw [hl, FloW.ext' e2]⟩
        · exact .inr (.inl ⟨h1, he, e.symm, e2, hl⟩)
      · rw [if_neg e] at hl
        exact .inl ⟨h1, hl.trans ((look_iff g).2 ⟨hv, rfl⟩)⟩
    · obtain rfl : gone = g0 := FloW.ext' hg
      have ho := minL_min hm v hv
      have hgm : gone ∈ flowsS S := minL_mem hm
      have hrg := flows_right g hgm
      have huR : ∀ y ∈ R, y.v.key ≠ gone.v.key := fun y hy hk => by
        have hyS : y ∈ flowsS S := h2.mem_iff.2 (List.mem_cons_of_mem _ hy)
        obtain rfl := flows_inj g hyS hgm hk
        have hnd : (flowsS S).Nodup := flows_nodup g
        have := (h2.nodup_iff).1 hnd
        rw [List.nodup_cons] at this
        exact this.1 hy
      by_cases e : v.v.key = gone.v.key
      · refine .inr (.inr (.inl ⟨h1, e, look_none.2 fun y hy hk => ?_, ho, hrg⟩))
        rcases List.mem_cons.1 (h3.mem_iff.1 hy) with rfl | hy
        · exact hno gone hgm (hk.trans e).symm
        · exact huR y hy (hk.trans e)
      · refine .inr (.inr (.inr ⟨h1, e, (look_iff g').2 ⟨h3.mem_iff.2 ?_, rfl⟩, ho, hrg⟩))
        rcases List.mem_cons.1 (h2.mem_iff.1 hv) with rfl | hy
        · exact absurd rfl e
        · exact List.mem_cons_of_mem _ hy
end Go.Proofs.Ytgpdlhbndoeldaa
/-
  What is stale: conn.Stale and the reference's: walked.
-/
namespace Go.Proofs.Ytgpdlhbndoeldaa
open Go.RowKit
set_option linter.unusedVariables false
set_option linter.unusedSimpArgs false

/-- a tick, as it counts -/
def tickS (n : Int) : Int := if n < 0 then 0 else if 1099511627776 < n then 1099511627776 else n
theorem tick_range (n : Int) : 0 ≤ tickS n ∧ tickS n ≤ 1099511627776 := by unfold tickS; repeat' split
                                                                           all_goals omega
theorem tick_mm (n : Int) : min (max n 0) 1099511627776 = tickS n := by
  unfold tickS
  split
  · omega
  · split <;> omega
theorem tick_any (n : Int) (w : World) :
    Calls Try.prog 54 #[.int .i64 n] w fun e w' => e = .returned (.int .i64 (tickS n)) ∧ w = w' := by
  by_cases h0 : n < 0
  · go_enter Try.func54, Try.ntmps54
    go_wp2
    go_ret
    exact ⟨by first | (simp [tickS, h0]; done) | exact congrArg (fun z => Ending.returned (.int .i64 z)) (tick_mm n), rfl⟩
  · by_cases h1 : 1099511627776 < n
    all_goals
      go_enter Try.func54, Try.ntmps54
      go_wp2
      go_ret
      exact ⟨by first | (unfold tickS; (first | rw [if_neg (by omega), if_pos (by omega)] | rw [if_neg (by omega), if_neg (by omega)]); rfl) | exact congrArg (fun z => Ending.returned (.int .i64 z)) (tick_mm n), rfl⟩

theorem tickR_any (n : Int) (w : World) :
    Calls Try.prog 57 #[.int .i64 n] w fun e w' => e = .returned (.int .i64 (tickS n)) ∧ w = w' := by
  by_cases h0 : n < 0
  · go_enter Try.func57, Try.ntmps57
    go_wp2
    go_ret
    exact ⟨by simp [tickS, h0], rfl⟩
  · by_cases h1 : 1099511627776 < n
    all_goals
      go_enter Try.func57, Try.ntmps57
      go_wp2
      go_ret
      exact ⟨by unfold tickS; (first | rw [if_neg (by omega), if_pos (by omega)] | rw [if_neg (by omega), if_neg (by omega)]); rfl, rfl⟩

def staleS (s seen now : Int) (idle : Int) : Bool := if s < 1 ∨ 5 < s then true else decide (idle < tickS now - tickS seen)

theorem stale_any (s seen now : Int) (i0 i1 i2 i3 i4 i5 : Int) (w : World) :
    Calls Try.prog 44 #[.int .i64 s, .int .i64 seen, .int .i64 now, .agg #[.int .i64 i0, .int .i64 i1, .int .i64 i2, .int .i64 i3, .int .i64 i4, .int .i64 i5]] w fun e w' =>
      e = .returned (.bool (staleS s seen now ([i0, i1, i2, i3, i4, i5].getD s.toNat 0))) ∧ Below w.heap.size w w' := by
  by_cases h : s < 1 ∨ 5 < s
  · rcases h with h | h
    · go_enter Try.func44, Try.ntmps44
      go_wp2
      go_ret
      exact ⟨by simp [staleS, h], ((Below.refl _ _).alloc (Nat.le_refl _) _)⟩
    · have h' : ¬ s < 1 := by omega
      go_enter Try.func44, Try.ntmps44
      go_wp2
      go_ret
      exact ⟨by simp [staleS, h], ((Below.refl _ _).alloc (Nat.le_refl _) _)⟩
  · have t1 := tick_range seen
    have t2 := tick_range now
    obtain ⟨j, rfl, h0, h5⟩ : ∃ j : Nat, s = j ∧ 1 ≤ j ∧ j ≤ 5 := ⟨s.toNat, by omega, by omega, by omega⟩
    rcases (show j = 1 ∨ j = 2 ∨ j = 3 ∨ j = 4 ∨ j = 5 by omega) with rfl | rfl | rfl | rfl | rfl
    all_goals
      clear h h0 h5
      go_enter Try.func44, Try.ntmps44
      go_wp2_with fail
      go_quiet ((go_at_call 54; refine Calls.quiet_of_same ((tick_any _ _).mono fun e w' ⟨h1, h2⟩ => ⟨h1, h2.symm⟩)))
      go_wp2
      go_ret
      exact ⟨by simp [staleS], ((Below.refl _ _).alloc (Nat.le_refl _) _).trans (below_drewN _ _ _)⟩

theorem staleR_any (s seen now : Int) (i0 i1 i2 i3 i4 i5 : Int) (w : World) :
    Calls Try.prog 46 #[.int .i64 s, .int .i64 seen, .int .i64 now, .agg #[.int .i64 i0, .int .i64 i1, .int .i64 i2, .int .i64 i3, .int .i64 i4, .int .i64 i5]] w fun e w' =>
      e = .returned (.bool (staleS s seen now ([i0, i1, i2, i3, i4, i5].getD s.toNat 0))) ∧ Below w.heap.size w w' := by
  by_cases h : s < 1 ∨ 5 < s
  · rcases h with h | h
    · go_enter Try.func46, Try.ntmps46
      go_wp2
      go_ret
      exact ⟨by simp [staleS, h], ((Below.refl _ _).alloc (Nat.le_refl _) _)⟩
    · have h' : ¬ s < 1 := by omega
      go_enter Try.func46, Try.ntmps46
      go_wp2
      go_ret
      exact ⟨by simp [staleS, h], ((Below.refl _ _).alloc (Nat.le_refl _) _)⟩
  · have t1 := tick_range seen
    have t2 := tick_range now
    obtain ⟨j, rfl, h0, h5⟩ : ∃ j : Nat, s = j ∧ 1 ≤ j ∧ j ≤ 5 := ⟨s.toNat, by omega, by omega, by omega⟩
    rcases (show j = 1 ∨ j = 2 ∨ j = 3 ∨ j = 4 ∨ j = 5 by omega) with rfl | rfl | rfl | rfl | rfl
    all_goals
      clear h h0 h5
      go_enter Try.func46, Try.ntmps46
      go_wp2_with fail
      go_quiet ((go_at_call 57; refine Calls.quiet_of_same ((tickR_any _ _).mono fun e w' ⟨h1, h2⟩ => ⟨h1, h2.symm⟩)))
      go_wp2
      go_ret
      exact ⟨by simp [staleS], ((Below.refl _ _).alloc (Nat.le_refl _) _).trans (below_drewN _ _ _)⟩

/-- by the list of six -/
def staleF (s seen now : Int) (idle : List Int) : Bool := staleS s seen now (idle.getD s.toNat 0)
theorem six_list (l : List Int) (h : l.length = 6) : ∃ a b c d e f, l = [a, b, c, d, e, f] := by
  rcases l with _ | ⟨a, _ | ⟨b, _ | ⟨c, _ | ⟨d, _ | ⟨e, _ | ⟨f, _ | ⟨g, r⟩⟩⟩⟩⟩⟩⟩ <;> simp at h
  exact ⟨a, b, c, d, e, f, rfl⟩
theorem staleP_any (s seen now : Int) (idle : List Int) (h : idle.length = 6) (w : World) :
    Calls Try.prog 44 #[.int .i64 s, .int .i64 seen, .int .i64 now, .agg (idle.map (Value.int .i64)).toArray] w fun e w' => e = .returned (.bool (staleF s seen now idle)) ∧ Below w.heap.size w w' := by
  obtain ⟨a, b, c, d, e, f, rfl⟩ := six_list idle h
  exact stale_any s seen now a b c d e f w
theorem staleQ_any (s seen now : Int) (idle : List Int) (h : idle.length = 6) (w : World) :
    Calls Try.prog 46 #[.int .i64 s, .int .i64 seen, .int .i64 now, .agg (idle.map (Value.int .i64)).toArray] w fun e w' => e = .returned (.bool (staleF s seen now idle)) ∧ Below w.heap.size w w' := by
  obtain ⟨a, b, c, d, e, f, rfl⟩ := six_list idle h
  exact staleR_any s seen now a b c d e f w
end Go.Proofs.Ytgpdlhbndoeldaa
/-
  Chapter 21: Sweep: what is stale collected: walked.
-/
namespace Go.Proofs.Ytgpdlhbndoeldaa
open Go.RowKit Go.Sort Go.Shelf
set_option linter.unusedVariables false
set_option linter.unusedSimpArgs false
set_option maxRecDepth 100000
set_option maxHeartbeats 8000000
attribute [local go_sem] Oper.semAt_some

/-- a flow that is stale -/
def staleW (now : Int) (idle : List Int) (x : FloW) : Bool := staleF x.v.state x.v.seen now idle
def outF (now : Int) (idle : List Int) (l : List FloW) : List FloW := l.filter (staleW now idle)
theorem outF_snoc (now : Int) (idle : List Int) (l : List FloW) (x : FloW) : outF now idle (l ++ [x]) = outF now idle l ++ if staleW now idle x = true then [x] else [] := by
  unfold outF
  rw [List.filter_append]
  congr 1
  rcases two (staleW now idle x) with h | h <;> simp [h]
theorem outF_len (now : Int) (idle : List Int) (l : List FloW) : (outF now idle l).length ≤ l.length := List.length_filter_le _ _
/-- what the loop keeps -/
def ISw (g4 g5 g7 B : Nat) (now : Int) (idle : List Int) (w0 : World) (pre : List FloW) (W : World) : Prop :=
  ∃ ad c, W.heap[g7]? = some (.cells #[.slice ad (outF now idle pre).length c] 38 (0, 0)) ∧ W.ownsRow B 28 41 (.slice ad (outF now idle pre).length c) (outF now idle pre).length (flosC (outF now idle pre)) ∧ Below w0.heap.size w0 W ∧ B ≤ W.heap.size ∧
    W.heap[g4]? = some (.cells #[.int .i64 now] 3 (0, 0)) ∧ W.heap[g5]? = some (.cells (idle.map (Value.int .i64)).toArray 49 (0, 0))
theorem ownFrom_sw (g4 g5 g7 B B' : Nat) (now : Int) (idle : List Int) (w0 : World) (h : w0.heap.size ≤ B') : OwnFrom B' (ISw g4 g5 g7 B now idle w0) := fun s W W' row ⟨ad, c, h1, h2, h3, h4, h5, h6⟩ hg hr =>
  ⟨ad, c, heap_grown hg (fun r e => (hr r e).2) h1, own_grown h2 hg (fun r e => (hr r e).2), h3.grown hg h3.size (fun k e => Nat.le_trans h (hr k e).1), Nat.le_trans h4 hg.size, heap_grown hg (fun r e => (hr r e).2) h5, heap_grown hg (fun r e => (hr r e).2) h6⟩
theorem ISw.below {g4 g5 g7 B : Nat} {now : Int} {idle : List Int} {w0 A A' : World} {pre : List FloW} (h : ISw g4 g5 g7 B now idle w0 pre A) (hb : Below A.heap.size A A') : ISw g4 g5 g7 B now idle w0 pre A' := by
  obtain ⟨ad, c, h1, h2, h3, h4, h5, h6⟩ := h
  exact ⟨ad, c, (hb.block _ (lt_of_block h1)).trans h1, own_keep h2 hb, h3.trans (hb.mono h3.size), Nat.le_trans h4 hb.size, (hb.block _ (lt_of_block h5)).trans h5, (hb.block _ (lt_of_block h6)).trans h6⟩
theorem flo_get (x : FloW) : x.v.cells.toArray[38]? = some (.int .i64 x.v.state) ∧ x.v.cells.toArray[39]? = some (.int .i64 x.v.seen) := by
  rw [List.getElem?_toArray, List.getElem?_toArray]
  exact ⟨(Flo.get x.ok).2.2.1, (Flo.get x.ok).2.2.2.1⟩
theorem six_size {idle : List Int} (h : idle.length = 6) : (Try.prog.info? 49).map (·.size) = some (idle.map (Value.int .i64)).length := by rw [List.length_map, h]; kernel_rfl
theorem But.grown {p q : Nat} {w a b : World} {row : Option Nat} (h : But p q w a) (hg : a.grownBy b row) (hge : ∀ k, row = some k → w.heap.size ≤ k) : But p q w b :=
  ⟨hg.os.trans h.os, hg.tape.trans h.tape, hg.output.trans h.output, Nat.le_trans h.size hg.size, fun k hk hp hq => (hg.block k (Nat.lt_of_lt_of_le hk h.size) (fun e => by have := hge k e.symm; omega)).trans (h.block k hk hp hq)⟩
theorem own_but {p q base : Nat} {w w' : World} {e : TypeId} {size : Nat} {ad : Option Addr} {n c : Nat} {xs : List Value} (h : w.ownsRow base e size (.slice ad n c) n xs) (hb : But p q w w') (hp : p < base) (hq : q < base) : w'.ownsRow base e size (.slice ad n c) n xs := by
  rcases h.2 with h2 | ⟨g, cap, cur, hv, hb2, hg, hr⟩
  · exact ⟨h.1, .inl h2⟩
  · exact ⟨h.1, .inr ⟨g, cap, cur, hv, hb2, hb.keep hg (by omega) (by omega), hr⟩⟩
theorem own_ne {w : World} {base D : Nat} {e : TypeId} {size : Nat} {ad : Option Addr} {n c : Nat} {xs : List Value} {d} (h : w.ownsRow base e size (.slice ad n c) n xs) (hD : w.heap[D]? = some (Obj.deferred d)) : ∀ k, (Value.slice ad n c).ownBlock = some k → k ≠ D := by
  intro k hk hkD
  subst hkD
  rcases h.2 with ⟨hv, h0⟩ | ⟨g, cap, cur, hv, hb2, hg, hr⟩
  · cases hv; cases hk
  · simp only [Value.slice.injEq] at hv
    rw [hv.1] at hk
    simp only [Value.ownBlock, Option.some.injEq] at hk
    subst hk
    rw [hD] at hg
    cases hg
theorem Rep.gr {w w' : World} {p q : Nat} {kb : List UInt8} {room : Nat} {S : List Slt} {row : Option Nat} (h : Rep w p q kb room S) (hg : w.grownBy w' row) (hr : ∀ k, row = some k → k ≠ p ∧ k ≠ q) : Rep w' p q kb room S :=
  ⟨⟨(hg.block p (lt_of_block h.tb.hp) (fun e => (hr p e.symm).1 rfl)).trans h.tb.hp, (hg.block q (lt_of_block h.tb.hq) (fun e => (hr q e.symm).2 rfl)).trans h.tb.hq, h.tb.hk, h.tb.h0, h.tb.hn⟩, h.good, h.le, h.two, h.one, h.ne⟩
/-- what Sweep leaves -/
def Swept (p q : Nat) (kb : List UInt8) (room : Nat) (S : List Slt) (now : Int) (idle : List Int) (w : World) (e : Ending) (w' : World) : Prop :=
  ∃ ad c, ∃ (ls : List FloW) (S' : List Slt), e = .returned (.slice ad ls.length c) ∧ ls.Perm (outF now idle (flowsS S)) ∧ ls.Pairwise (fun a b => oldF b.v a.v = false) ∧ Rep w' p q kb room S' ∧ (flowsS S').Perm ((flowsS S).filter (fun x => !staleW now idle x)) ∧ w'.ownsRow w.heap.size 28 41 (.slice ad ls.length c) ls.length (flosC ls) ∧ But p q w w'
/-- the flows whose keys are not among those -/
def noKey (L l : List FloW) : List FloW := L.filter (fun x => decide (∀ y ∈ l, x.v.key ≠ y.v.key))
theorem noKey_nil (L : List FloW) : noKey L [] = L := by unfold noKey; simp
theorem noKey_snoc (L l : List FloW) (y : FloW) : noKey L (l ++ [y]) = (noKey L l).filter (fun x => decide (x.v.key ≠ y.v.key)) := by
  unfold noKey
  rw [List.filter_filter]
  congr 1
  funext x
  rw [Bool.eq_iff_iff]
  simp only [List.mem_append, List.mem_singleton, decide_eq_true_eq, Bool.and_eq_true]
  constructor
  · intro h
    exact ⟨h y (.inr rfl), fun z hz => h z (.inl hz)⟩
  · rintro ⟨h1, h2⟩ z (hz | rfl)
    · exact h2 z hz
    · exact h1
theorem noKey_out {kb : List UInt8} {S : List Slt} (g : Good kb S) (now : Int) (idle : List Int) : noKey (flowsS S) (outF now idle (flowsS S)) = (flowsS S).filter (fun x => !staleW now idle x) := by
  unfold noKey
  refine List.filter_congr fun x hx => ?_
  rw [Bool.eq_iff_iff]
  simp only [decide_eq_true_eq, Bool.not_eq_true']
  constructor
  · intro h
    rcases two (staleW now idle x) with h1 | h1
    · exact absurd rfl (h x (List.mem_filter.2 ⟨hx, h1⟩))
    · exact h1
  · intro h y hy hk
    obtain ⟨hy1, hy2⟩ := List.mem_filter.1 hy
    obtain ⟨i, si, a1, a2, rfl⟩ := mem_flowsS.1 hx
    obtain ⟨j, sj, a3, a4, rfl⟩ := mem_flowsS.1 hy1
    obtain rfl := g.keys i j si sj a1 a3 a2 a4 hk
    rw [a1] at a3
    cases a3
    rw [h] at hy2
    cases hy2
theorem sweep_any (p q : Nat) (kb : List UInt8) (room : Nat) (S : List Slt) (now : Int) (idle : List Int) (h6 : idle.length = 6) (w : World) (h : Rep w p q kb room S) :
    Calls Try.prog 28 #[.pointer (some ⟨p, 0, none⟩), .int .i64 now, .agg (idle.map (Value.int .i64)).toArray] w (Swept p q kb room S now idle w) := by
  have HB := Lib.hid (Below.refl w.heap.size w)
  have HR := Lib.hid h
  have hN1 : S.length ≤ 8192 := h.tb.hn
  have H6 := Lib.hid h6
  have HI6 := Lib.hid (six_size h6)
  clear h h6
  refine (callsIn_wide (n := 8)).1 (callsIn_of_wp_marks Try.func28 rfl trivial (wpIn_wide.2 ?_) rfl)
  simp only [Try.ntmps28, List.size_toArray, List.length_cons, List.length_nil, Nat.reduceAdd, Nat.reduceSub, Array.replicate_succ, Array.replicate_zero, List.push_toArray, List.append_toArray, List.nil_append, List.cons_append]
  go_wp2_with (first
    | ((with_reducible refine sl 4 ?_); go_must (refine wpL_boxG rfl 3 (.tmp 1) rfl #[.int .i64 now] rfl ?_); intro w4 g4 he__ le_g4 lt_g4 hg__ hb__; have HG4 := Lib.hid hg__; have hE__ := cU HB bup hb__; replace HB := ck HB hE__; clear hE__; clear hg__ hb__ he__; simp only [PT])
    | ((with_reducible refine sl 5 ?_); go_must (refine wpL_boxG rfl 49 (.tmp 2) rfl (idle.map (Value.int .i64)).toArray rfl ?_); intro w5 g5 he__ le_g5 lt_g5 hg__ hb__; have HG5 := Lib.hid hg__; have hE__ := cU HB bup hb__; replace HB := ck HB hE__; replace HG4 := ck HG4 hE__; clear hE__; clear hg__ hb__ he__; simp only [PT])
    | ((with_reducible refine sl 7 ?_); go_must (refine wpL_allocG rfl 38 rfl (.slice none 0 0) #[.slice none 0 0] 1 (by kernel_rfl) rfl ?_); intro w7 g7 he__ le_g7 lt_g7 hg__ hb__; have HG7 := Lib.hid hg__; have l07 : w.heap.size ≤ g7 := (by have := HB.out.size; omega); have l47 : g4 ≠ g7 := (by omega); have l57 : g5 ≠ g7 := (by omega); have hE__ := cU HB bup hb__; replace HB := ck HB hE__; replace HG4 := ck HG4 hE__; replace HG5 := ck HG5 hE__; clear hE__; clear hg__ hb__ he__; simp only [PT])
    | (go_at_call 39; go_must (refine (all_any p _).mono ?_); intro e w6 hr; obtain ⟨B, rfl, hBB, le_B, hb__⟩ := hr; have hE__ := cU HB bup hb__; replace HB := ck HB hE__; replace HG4 := ck HG4 hE__; replace HG5 := ck HG5 hE__; replace HG7 := ck HG7 hE__; clear hE__; have HBB := Lib.hid hBB; clear hb__ hBB))
  refine (wpIn_wide (n := 8)).1 ?_
  have hsz := HB.out.size
  have lt4 := lt_of_block HG4.out
  have lt5 := lt_of_block HG5.out
  have lt7 := lt_of_block HG7.out
  have le7 := l07
  have sz4 := HB.out.size
  refine wpIn_rangeFunc_all rfl (by omega) (gf := 52) (lb := #[.pointer (some ⟨B, 0, none⟩)]) rfl trivial (enters_of Try.func52 (by kernel_rfl) rfl)
    (all_seq _ (by omega) B p q kb room _ S w w6 HR.out.tb HB.out HBB.out) (fun h k => h.trans k) (belowK_b hsz) (Below.refl _ _) (fun _ => rfl)
    (fun m A A' k ob st hk hkm _ hA => (st.block k (lt_of_block hA)).trans hA)
    (ISw g4 g5 g7 w6.heap.size now idle w) (ownFrom_sw _ _ _ _ _ _ _ _ hsz) (fun s A A' m hm hi st => hi.below st)
    (ownFrom_pure _ _) ⟨none, 0, HG7.out, World.ownsRow_nil _ _ _ _, HB.out, Nat.le_refl _, HG4.out, HG5.out⟩
    (AxF (fun x => x ∈ flowsS S) fun x b8 => #[.pointer (some ⟨p, 0, none⟩), .int .i64 now, .agg (idle.map (Value.int .i64)).toArray, undef, .pointer (some ⟨g4, 0, none⟩), .pointer (some ⟨g5, 0, none⟩), .slice none 0 0, .pointer (some ⟨g7, 0, none⟩), .pointer (some ⟨b8, 0, none⟩), undef, undef, .pointer (some ⟨p, 0, none⟩), .func (.func 52) #[] #[.pointer (some ⟨B, 0, none⟩)], .agg x.v.cells.toArray, undef, undef, undef, undef, undef, undef, undef, undef, undef, undef, undef, undef, undef, undef, undef, undef, undef, undef, undef, undef, undef, undef, undef, undef, undef]) (fun x a' => ownFrom_axF _ _ _ _ _) ?assign ?body ?done
  case assign =>
    intro l pre x W K hI hP hK
    simp only [encF, fold1]
    simp only [PT]
    have hF : ∀ f, (Fence.wide.inRound l).fn f := fun _ => trivial
    have HII := Lib.hid hI
    have HK := Lib.hid hK
    have HE := Lib.hid (Below.refl W.heap.size W)
    have hszW : w.heap.size ≤ W.heap.size := by obtain ⟨_, _, _, _, h3, _⟩ := hI; exact h3.size
    have HIX : Hid ((Try.prog.info? 28).map (fun i => (i.zero, i.size)) = some (some (.agg zeroF.cells.toArray), x.v.cells.toArray.size)) := Lib.hid (by rw [List.size_toArray, Flo.length x.ok]; exact flo_info)
    clear hI hK
    gi_wp2_with (first
      | ((with_reducible refine slI 8 ?_); go_must (refine wpLI_newN hF rfl rfl 28 rfl (.tmp 8) (.tmp 13) rfl x.v.cells.toArray _ HIX.out (by rw [List.size_toArray, List.size_toArray, Flo.length x.ok, Flo.length zeroF_ok]) (flo_one _) (fun _ => rfl) (fun _ => rfl) ?_); intro w8 g8 le_g8 lt_g8 hg__ hb__; have HG8 := Lib.hid hg__; replace HE := ck HE hb__; clear hg__ hb__; simp only [PT]))
    exact HK.out _ _ (KeepsFrom.below HE.out) (HE.out.mono hszW) (HII.out.below HE.out) ⟨hP, g8, by simp, HG8.out⟩
  case body =>
    rintro l pre x a' W hl ⟨ad', c', h1, h2, h3, h4, h5, h6⟩ ⟨hP, b8, rfl, h8⟩ hlt
    have hF : ∀ f, (Fence.wide.inRound l).fn f := fun _ => trivial
    have hszW := h3.size
    have H8 := Lib.hid h8
    have H1 := Lib.hid h1
    have H2 := Lib.hid h2
    have H3 := Lib.hid h3
    have H4 := Lib.hid h5
    have H5 := Lib.hid h6
    have HE := Lib.hid (Below.refl W.heap.size W)
    have HIX : Hid ((Try.prog.info? 28).map (·.size) = some x.v.cells.length) := Lib.hid (by rw [Flo.length x.ok]; exact flo_size)
    have hlen : (outF now idle pre).length < 8192 := by have := outF_len now idle pre; omega
    obtain ⟨N, hN⟩ : ∃ N, N = (outF now idle pre).length := ⟨_, rfl⟩
    rw [← hN] at H1 H2 hlen
    have HN := Lib.hid hN
    have HOS := Lib.hid (outF_snoc now idle pre x)
    clear hP h1 h2 h3 h5 h6 h8 hN
    rcases two (staleW now idle x) with hst | hst
    · have HST := Lib.hid hst
      clear hst
      gi_wp2_with (first
        | ((with_reducible refine slI 15 ?_); go_must (refine wpLI_loadF hF rfl 3 (.tmp 14) rfl b8 38 rfl (.int .i64 x.v.state) H8.out (flo_get x).1 Try.underlying3 rfl ?_); simp only [PT])
        | ((with_reducible refine slI 17 ?_); go_must (refine wpLI_loadF hF rfl 3 (.tmp 16) rfl b8 39 rfl (.int .i64 x.v.seen) H8.out (flo_get x).2 Try.underlying3 rfl ?_); simp only [PT])
        | ((with_reducible refine slI 18 ?_); go_must (refine wpLI_loadF hF rfl 3 (.tmp 4) rfl g4 0 rfl (.int .i64 now) H4.out rfl Try.underlying3 rfl ?_); simp only [PT])
        | ((with_reducible refine slI 19 ?_); go_must (refine wpLI_load hF rfl 49 (.tmp 5) rfl g5 0 rfl (idle.map (Value.int .i64)) _ (range_block H5.out) Try.underlying49 rfl HI6.out ?_); simp only [PT])
        | (gi_at_call 44; go_must (refine (callsIn_wide.2 (staleP_any x.v.state x.v.seen now idle H6.out _)).mono ?_); rintro e w7 ⟨rfl, hb__⟩; rw [show staleF x.v.state x.v.seen now idle = true from HST.out]; replace HE := ck HE hb__; clear hb__)
        | ((with_reducible refine slI 21 ?_); go_must (refine wpLI_loadF hF rfl 38 (.tmp 7) rfl g7 0 rfl (.slice ad' N c') (hat HE H1) rfl Try.underlying38 rfl ?_); simp only [PT])
        | ((with_reducible refine slI 22 ?_); go_must (refine wpLI_load hF rfl 28 (.tmp 8) rfl b8 0 rfl x.v.cells _ (range_block (hat HE H8)) Try.underlying28 rfl HIX.out ?_); simp only [PT])
        | ((with_reducible refine slI 23 ?_); go_must (refine wpLI_lit1 hF rfl 38 28 (.tmp 22) rfl x.v.cells.toArray _ rfl 41 Try.underlying38 flo_info (by omega) (by omega) (fill_flow x) ?_); intro w11 gL le_gL lt_gL hg__ hb__; have HL := Lib.hid hg__; replace HE := ck HE hb__; clear hg__ hb__; simp only [PT])
        | ((with_reducible refine slI 24 ?_); go_must (refine wpLI_append hF elFl rfl (.tmp 21) (.tmp 23) rfl w6.heap.size rfl (own_keep H2.out HE.out) rfl (by have h := sl_block (cs := x.v.cells) HL.out; rwa [FloW.length] at h) Flo.one (by unfold maxLen; omega) (by omega) (Nat.le_trans h4 HE.out.size) ?_); intro ad10 c10 w10 ho10 hg10__; have HO2 := own_keep H2.out HE.out; have HQ2 := Lib.hid ((KeepsFrom.below (n₀ := w6.heap.size) HE.out).trans (KeepsFrom.own HO2 hg10__)); have HKb := Lib.hid ((HE.out.mono hszW).grown hg10__ (Nat.le_trans hszW HE.out.size) (fun k e => Nat.le_trans hsz (ownBlock_ge HO2 k e))); have HO := Lib.hid ho10; go_must (have H1n := Lib.hid ((hg10__.block g7 (lt_of_block (hat HE H1)) (fun e => (by have := ownBlock_ge HO2 g7 e.symm; omega))).trans (hat HE H1))); go_must (have H4a := Lib.hid ((hg10__.block g4 (lt_of_block (hat HE H4)) (fun e => (by have := ownBlock_ge HO2 g4 e.symm; omega))).trans (hat HE H4))); go_must (have H5a := Lib.hid ((hg10__.block g5 (lt_of_block (hat HE H5)) (fun e => (by have := ownBlock_ge HO2 g5 e.symm; omega))).trans (hat HE H5))); go_must (have H3n := Lib.hid ((H3.out.trans (HE.out.mono hszW)).grown hg10__ (Nat.le_trans hszW HE.out.size) (fun k e => Nat.le_trans hsz (ownBlock_ge HO2 k e)))); have H4n := Lib.hid (Nat.le_trans h4 (Nat.le_trans HE.out.size hg10__.size)); clear ho10 hg10__ HO2; simp only [PT])
        | ((with_reducible show wpListIn _ _ _ _ _ (⟨none, .store _ (.tmp 7) _, _, _, _, _⟩ :: _) _ _); go_must (refine wpLI_storeF hF rfl 38 (.tmp 7) (.tmp 24) rfl g7 0 (.slice ad10 (N + 1) c10) rfl rfl rfl H1n.out (show (0 : Nat) < 1 by decide) (by kernel_rfl) #[.slice ad10 (N + 1) c10] rfl ?_); intro w12 hs__ hr__; have HQ3 := Lib.hid (HQ2.out.trans (KeepsFrom.write hr__ H1n.out)); have HKc := Lib.hid (HKb.out.grown hr__ (Nat.le_trans hszW HKb.out.size) (fun k e => by cases e; exact le7)); have H3m := Lib.hid (H3n.out.grown hr__ H3n.out.size (fun k e => by cases e; exact le7)); have HOm := Lib.hid (own_write HO.out hr__ H1n.out (by decide)); have H4m := Lib.hid (Nat.le_trans H4n.out hr__.size); go_must (have H4b := Lib.hid ((hr__.block g4 (lt_of_block H4a.out) (fun e => (by cases e; omega))).trans H4a.out)); go_must (have H5b := Lib.hid ((hr__.block g5 (lt_of_block H5a.out) (fun e => (by cases e; omega))).trans H5a.out)); have HS := Lib.hid hs__; clear hs__ hr__; simp only [PT]))
      have e : outF now idle (pre ++ [x]) = outF now idle pre ++ [x] := by rw [HOS.out, if_pos HST.out]
      exact ⟨HQ3.out, HKc.out, ad10, c10, by rw [e, List.length_append, ← HN.out]; exact HS.out, by rw [e, List.length_append, flosC_snoc, ← HN.out]; exact HOm.out, H3m.out, H4m.out, H4b.out, H5b.out⟩
    · have HST := Lib.hid hst
      clear hst
      gi_wp2_with (first
        | ((with_reducible refine slI 15 ?_); go_must (refine wpLI_loadF hF rfl 3 (.tmp 14) rfl b8 38 rfl (.int .i64 x.v.state) H8.out (flo_get x).1 Try.underlying3 rfl ?_); simp only [PT])
        | ((with_reducible refine slI 17 ?_); go_must (refine wpLI_loadF hF rfl 3 (.tmp 16) rfl b8 39 rfl (.int .i64 x.v.seen) H8.out (flo_get x).2 Try.underlying3 rfl ?_); simp only [PT])
        | ((with_reducible refine slI 18 ?_); go_must (refine wpLI_loadF hF rfl 3 (.tmp 4) rfl g4 0 rfl (.int .i64 now) H4.out rfl Try.underlying3 rfl ?_); simp only [PT])
        | ((with_reducible refine slI 19 ?_); go_must (refine wpLI_load hF rfl 49 (.tmp 5) rfl g5 0 rfl (idle.map (Value.int .i64)) _ (range_block H5.out) Try.underlying49 rfl HI6.out ?_); simp only [PT])
        | (gi_at_call 44; go_must (refine (callsIn_wide.2 (staleP_any x.v.state x.v.seen now idle H6.out _)).mono ?_); rintro e w7 ⟨rfl, hb__⟩; rw [show staleF x.v.state x.v.seen now idle = false from HST.out]; replace HE := ck HE hb__; clear hb__))
      have e : outF now idle (pre ++ [x]) = outF now idle pre := by rw [HOS.out, if_neg (by rw [HST.out]; simp), List.append_nil]
      have h1 := hat HE H1
      rw [HN.out] at h1
      have h2 := own_keep H2.out HE.out
      rw [HN.out] at h2
      exact ⟨KeepsFrom.below HE.out, HE.out.mono hszW, ad', c', by rw [e]; exact h1, by rw [e]; exact h2, H3.out.trans (HE.out.mono hszW), Nat.le_trans h4 HE.out.size, hat HE H4, hat HE H5⟩
  case done =>
    rintro D xs W hD rfl ⟨ad, c, h1, h2, h3, h4, _, _⟩ hK
    obtain ⟨L, hL⟩ : ∃ L, L = outF now idle (flowsS S) := ⟨_, rfl⟩
    rw [← hL] at h1 h2
    obtain ⟨N, hN⟩ : ∃ N, N = L.length := ⟨_, rfl⟩
    rw [← hN] at h1 h2
    have hN8 : N ≤ 8192 := by have := outF_len now idle (flowsS S); have := flowsS_len S; rw [hN, hL]; omega
    have ltp := lt_of_block HR.out.tb.hp
    have ltq := lt_of_block HR.out.tb.hq
    have HK7 := Lib.hid h1
    have HO := Lib.hid h2
    have HBW := Lib.hid h3
    have HKD := Lib.hid hK
    have HD : Hid _ := Lib.hid hD
    have HL := Lib.hid hL
    have HN := Lib.hid hN
    have HLS : Hid (∀ y ∈ L, y ∈ flowsS S) := Lib.hid (fun y hy => by rw [hL] at hy; exact (List.mem_filter.1 hy).1)
    have ltD := lt_of_block hK
    have wD : w.heap.size ≤ D := Nat.le_trans HB.out.size hD
    have HR' := Lib.hid (HR.out.keep HBW.out)
    clear h1 h2 h3 hK hD HG4 HG5 HG7 HB hL hN HBB
    have HB := Lib.hid (Below.refl W.heap.size W)
    go_wp2_with (first
      | ((with_reducible refine sl 25 ?_); go_must (refine wpL_loadF rfl 38 (.tmp 7) rfl g7 0 rfl (.slice ad N c) HK7.out rfl Try.underlying38 rfl ?_); simp only [PT]))
    go_loopw [27] (fun i wr => ∃ (k : Nat) (S' : List Slt), k ≤ N ∧ i = .int .i64 (k : Int) ∧ Hid (But p q w wr) ∧ Hid (Rep wr p q kb room S') ∧ Hid ((flowsS S').Perm (noKey (flowsS S) (L.take k))) ∧ Hid (wr.ownsRow w6.heap.size 28 41 (.slice ad N c) N (flosC L)) ∧ Hid (wr.heap[g7]? = some (.cells #[.slice ad N c] 38 (0, 0))) ∧ Hid (wr.heap[D]? = some (Obj.deferred (some [])))) (fun i _ => N - (intOf i).toNat)
    case atStart => exact ⟨0, S, by omega, rfl, Lib.hid (But.of_below HBW.out), HR', Lib.hid (by rw [List.take_zero, noKey_nil]), HO, HK7, HKD⟩
    case round =>
      clear HB HR' HO HK7 HKD
      obtain ⟨k, S', hk, rfl, HBT, HR', HPM, HO, HK7, HKD⟩ := hrel
      have HB := Lib.hid (Below.refl wr.heap.size wr)
      by_cases hend : k = N
      · subst k
        have HOE : Hid (flosC L = flosN (toN L (fun y hy => HR.out.no y (HLS.out y hy)))) := Lib.hid (by unfold flosN; rw [toN_map])
        have HM := Lib.hid (toN_map L (fun y hy => HR.out.no y (HLS.out y hy)))
        obtain ⟨M, hM⟩ : ∃ M, M = toN L (fun y hy => HR.out.no y (HLS.out y hy)) := ⟨_, rfl⟩
        rw [← hM] at HOE HM
        have HML : Hid (M.length = N) := Lib.hid (by rw [HN.out, ← HM.out, List.length_map])
        clear hM
        rw [HOE.out] at HO
        go_wp2_with (first
          | ((with_reducible refine sl 36 ?_); go_must (refine wpL_loadF rfl 38 (.tmp 7) rfl g7 0 rfl (.slice ad N c) HK7.out rfl Try.underlying38 rfl ?_); simp only [PT])
          | (go_at_call 45; go_must (refine (sort_any _ ad N c M HML.out (by omega) _ HO.out).mono ?_); rintro e w9 ⟨rfl, l', hp, hs, ho3, hg3⟩; have HP := Lib.hid hp; have HS := Lib.hid hs; have HO3 := Lib.hid ho3; have HBT3 := Lib.hid (HBT.out.grown hg3 (fun k e => Nat.le_trans hsz (ownBlock_ge HO.out k e))); have HG9 := Lib.hid hg3; have HKD3 := Lib.hid ((hg3.block D (lt_of_block HKD.out) (fun e => own_ne HO.out HKD.out D e.symm rfl)).trans HKD.out); have HK73 := Lib.hid ((hg3.block g7 (lt_of_block HK7.out) (fun e => by have := ownBlock_ge HO.out g7 e.symm; omega)).trans HK7.out); clear hp hs ho3 hg3)
          | ((with_reducible refine sl 38 ?_); go_must (refine wpL_loadF rfl 38 (.tmp 7) rfl g7 0 rfl (.slice ad N c) HK73.out rfl Try.underlying38 rfl ?_); simp only [PT]))
        have hge := ownBlock_ge HO.out
        have e : (l'.map FloN.x).length = N := by rw [List.length_map, HP.out.length_eq, HML.out]
        refine ⟨by simp, .inl ⟨_, _, rfl, run_takeDeferred HKD3.out, ?_⟩⟩
        refine ⟨_, results_tmp rfl _ _ _, ad, c, l'.map FloN.x, S', by rw [e]; rfl, ?_, List.pairwise_map.2 HS.out, ?_, ?_, ?_, HBT3.out.grown (grownBy_putObj' w9 D _) (fun k e => by cases e; exact wD)⟩
        · rw [← HL.out, ← HM.out]; exact HP.out.map _
        · exact (HR'.out.gr HG9.out (fun k e => by have := hge k e; omega)).gr (grownBy_putObj' w9 D _) (fun k e => by cases e; omega)
        · have h := HPM.out
          rw [HN.out, List.take_length, HL.out, noKey_out HR.out.good] at h
          exact h
        · rw [e, ← flosN_eq]
          exact own_base (own_grown HO3.out (grownBy_putObj' w9 D _) (fun r e => by cases e; exact ⟨_, HKD3.out, rfl⟩)) hsz
      have hlt : k < N := by omega
      have hkL : k < L.length := by rw [← HN.out]; exact hlt
      obtain ⟨y, hy⟩ : ∃ y, y = L[k] := ⟨_, rfl⟩
      obtain ⟨b, off, rfl, hbl, hat⟩ := (Fls.of_own HO.out).at (by omega)
      have HY := Lib.hid (show wr.rangeAt b (off + k * 41) y.v.cells by rw [hy]; exact hat k hkL)
      have HTK : Hid (L.take (k + 1) = L.take k ++ [y]) := Lib.hid (by rw [hy, List.take_succ_eq_append_getElem hkL])
      clear hat hy
      go_wp2_with (first
        | ((with_reducible refine sl 30 ?_); go_must (refine wpL_load rfl 28 (.tmp 29) rfl b (off + k * 41) rfl y.v.cells _ HY.out Try.underlying28 rfl (one_size y) ?_); simp only [PT])
        | ((with_reducible refine sl 10 ?_); go_must (refine wpL_newG rfl rfl 28 rfl (.tmp 10) (.tmp 30) rfl (y.v.cells).toArray zeroF.cells.toArray (new_info (by first | exact Flo.length zeroF_ok | exact FloW.length _ | exact LEN_10)) (new_size (by first | exact Flo.length zeroF_ok | exact FloW.length _ | exact LEN_10)) (flo_one _) (fun _ => rfl) (fun _ => rfl) ?_); intro wn10 g10 le_10 hg__ hb__; have hE__ := cU HB bup hb__; replace HB := ck HB hE__; (try replace HR' := ck HR' hE__); clear hE__ hb__; have HG10 := Lib.hid hg__; clear hg__; simp only [PT])
        | ((with_reducible refine sl 33 ?_); go_must (refine wpL_load rfl 26 (.tmp 32) rfl g10 0 rfl y.v.key.cells _ (range_key (range_block HG10.out)) Try.underlying26 rfl (tup_len y) ?_); simp only [PT])
        | (go_at_call 23; (with_reducible show Calls _ _ #[_, .agg y.v.key.cells.toArray] _ _); go_must (refine (drop_rep p q kb room S' y.v.key y.ok.1 y.ok.2.1 _ (HR'.out.keep bup)).mono ?_); rintro e w8 ⟨S2, rfl, hr, hs, hb__⟩; have HBn := Lib.hid ((But.of_below (p := p) (q := q) (HB.out.trans (Below.mono bup HB.out.size))).trans hb__); clear HB hb__; have HPS := Lib.hid hs; have HRn := Lib.hid hr; clear hr hs))
      go_roundw
      case rel => exact ⟨k + 1, S2, by omega, by go_num, Lib.hid (HBT.out.trans HBn.out), HRn, Lib.hid (by rw [HTK.out, noKey_snoc]; exact HPS.out.trans (HPM.out.filter _)), Lib.hid (own_but HO.out HBn.out (by omega) (by omega)), Lib.hid (HBn.out.keep HK7.out (by omega) (by omega)), Lib.hid (HBn.out.keep HKD.out (by omega) (by omega))⟩
      case measure => first | (simp [intOf]; done) | (simp [intOf]; omega)
end Go.Proofs.Ytgpdlhbndoeldaa
