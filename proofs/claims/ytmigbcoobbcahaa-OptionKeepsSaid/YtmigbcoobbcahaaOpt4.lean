/-
  Chapter 25: options that the call made itself; copies of bytes.
-/
import Derived.Test.YtmigbcoobbcahaaOpt3
import Derived.Lib.LazyBuf
namespace Go.Proofs.Ytmigbcoobbcahaa
open Go.RowKit Go.Sort
set_option linter.unusedVariables false

/-- options in a row of the call's own (base or later), their values in others -/
def OwnOps (e : TypeId) (base : Nat) (w : World) (ad : Option Addr) (n c : Nat) (os : List OptV) : Prop :=
  w.ownsRow base e 2 (.slice ad n c) n (ocells os) ∧ ∀ o ∈ os, Bs w o.ad o.n o.c o.l ∧ ∀ x, o.ad = some x → base ≤ x.block ∧ x.block < w.heap.size ∧ ∀ y, ad = some y → x.block ≠ y.block
theorem OwnOps.ops {e : TypeId} {base : Nat} {w : World} {ad : Option Addr} {n c : Nat} {os : List OptV} (h : OwnOps e base w ad n c os) : Ops w ad n c os := ⟨Sl.of_own h.1, fun o ho => (h.2 o ho).1⟩
theorem OwnOps.nil (e : TypeId) (base : Nat) (w : World) : OwnOps e base w none 0 0 [] := ⟨World.ownsRow_nil _ _ _ _, fun o ho => by cases ho⟩
theorem OwnOps.keep {e : TypeId} {base : Nat} {w w' : World} {ad : Option Addr} {n c : Nat} {os : List OptV} (h : OwnOps e base w ad n c os) (hb : Below w.heap.size w w') : OwnOps e base w' ad n c os :=
  ⟨own_keep h.1 hb, fun o ho => ⟨(h.2 o ho).1.below hb, fun x hx => ⟨((h.2 o ho).2 x hx).1, Nat.lt_of_lt_of_le ((h.2 o ho).2 x hx).2.1 hb.size, ((h.2 o ho).2 x hx).2.2⟩⟩⟩
theorem OwnOps.other {e : TypeId} {base G : Nat} {w w' : World} {ad : Option Addr} {n c : Nat} {os : List OptV} (h : OwnOps e base w ad n c os) (hg : w.grownBy w' (some G)) (hG : G < base) : OwnOps e base w' ad n c os := by
  refine ⟨h.1.kept hg ?_, fun o ho => ⟨Sl.grown (h.2 o ho).1 hg (fun x hx e => ?_), fun x hx => ⟨((h.2 o ho).2 x hx).1, Nat.lt_of_lt_of_le ((h.2 o ho).2 x hx).2.1 hg.size, ((h.2 o ho).2 x hx).2.2⟩⟩⟩
  · rcases own_form h.1 with ⟨rfl, _⟩ | ⟨g, rfl, h2, _⟩
    · exact .inl rfl
    · refine .inr fun e => ?_
      simp [Value.ownBlock] at e
      omega
  · have := ((h.2 o ho).2 x hx).1
    cases e
    omega
theorem OwnOps.base {e : TypeId} {base base' : Nat} {w : World} {ad : Option Addr} {n c : Nat} {os : List OptV} (h : OwnOps e base w ad n c os) (hb : base' ≤ base) : OwnOps e base' w ad n c os :=
  ⟨own_base h.1 hb, fun o ho => ⟨(h.2 o ho).1, fun x hx => ⟨Nat.le_trans hb ((h.2 o ho).2 x hx).1, ((h.2 o ho).2 x hx).2⟩⟩⟩

/-- 'append(out, api.Option{..})' -/
theorem wpL_pushO {P : Program} {v : World} {ops : Array Oper} {rest : List Oper} {o1 : Oper} {a : Act} {Q : Exit → Act → World → Prop} {t e e' : TypeId} {z : Value} (el : Elem P t e 2 32 z)
    (hgd : Region.wanted o1 (yielded ops a.tmps) = true) (s x : Operand) (ho : o1.op = .call { callee := .builtin .append, args := #[s, x], argTypes := #[t, t] })
    (base : Nat) {ad : Option Addr} {n c : Nat} {os : List OptV} (hs : a.eval s = .slice ad n c) (hown : OwnOps e base v ad n c os) (o : OptV) {b : Nat} (hx : a.eval x = .slice (some ⟨b, 0, none⟩) 1 1) (hb : b = v.heap.size)
    (hnew : Bs v o.ad o.n o.c o.l) (hnb : ∀ x, o.ad = some x → base ≤ x.block ∧ x.block < v.heap.size ∧ ∀ y, ad = some y → x.block ≠ y.block) (hbase : base ≤ v.heap.size) (hn : n ≤ 1000000000)
    (h : ∀ ad' c' w', OwnOps e base w' ad' (n + 1) c' (os ++ [o]) → Below base v w' → wpList P ops Q rest (a.put o1.dst (.slice ad' (n + 1) c')) w') :
    wpList P ops Q (o1 :: rest) a (v.alloc (.cells #[.int .i64 o.code, .slice o.ad o.n o.c] e')) := by
  subst hb
  have hz : (v.alloc (.cells #[.int .i64 o.code, .slice o.ad o.n o.c] e')).heap.size = v.heap.size + 1 := by simp
  refine wpL_append el hgd s x ho base hs (hown.1.alloc _) hx (Sl.lit v #[.int .i64 o.code, .slice o.ad o.n o.c] e' 1 2 rfl (by simp [maxLen])) (fun u hu => ?_) (by unfold maxLen; omega) (by omega) (by omega) fun ad' c' w' ho' hg' hat _ => h ad' c' w' ?_ ?_
  · simp at hu
    rcases hu with rfl | rfl <;> rfl
  · have hbl : Below v.heap.size v (v.alloc (.cells #[.int .i64 o.code, .slice o.ad o.n o.c] e')) := (Below.refl _ _).alloc (Nat.le_refl _) _
    have hall : ∀ p ∈ os ++ [o], Bs v p.ad p.n p.c p.l ∧ ∀ x, p.ad = some x → base ≤ x.block ∧ x.block < v.heap.size ∧ ∀ y, ad = some y → x.block ≠ y.block := by
      intro p hp
      rcases List.mem_append.1 hp with hp | hp
      · exact hown.2 p hp
      · simp at hp
        subst hp
        exact ⟨hnew, hnb⟩
    refine ⟨?_, fun p hp => ⟨?_, fun x hx => ?_⟩⟩
    · rw [ocells_append]
      exact ho'
    · obtain ⟨h1, h2⟩ := hall p hp
      refine Sl.grown (Bs.below h1 hbl) hg' fun x hx e => ?_
      obtain ⟨_, _, h3⟩ := h2 x hx
      rcases own_form hown.1 with ⟨rfl, _⟩ | ⟨g, rfl, _⟩
      · simp [Value.ownBlock] at e
      · simp [Value.ownBlock] at e
        exact h3 _ rfl e.symm
    · obtain ⟨h1, h2⟩ := hall p hp
      obtain ⟨h3, h4, h5⟩ := h2 x hx
      have hsz := hg'.size
      refine ⟨h3, by omega, fun y hy => ?_⟩
      rcases hat with rfl | rfl
      · exact h5 y hy
      · cases hy
        show x.block ≠ (v.alloc _).heap.size
        rw [hz]
        omega
  · exact ((Below.refl base v).alloc hbase _).grown hg' (by omega) (ownBlock_ge hown.1)

theorem elO : Elem Try.prog 22 43 2 32 (.agg #[.int .i64 0, .slice none 0 0]) := ⟨Try.underlying22, by kernel_rfl, rfl, by omega⟩

theorem wpL_eqnil {P : Program} {w : World} {ops : Array Oper} {rest : List Oper} {o : Oper} {a : Act} {Q : Exit → Act → World → Prop} {t e t2 : TypeId} (ht : P.underlying t = some (.slice e))
    (hgd : Region.wanted o (yielded ops a.tmps) = true) (x : Operand) (ho : o.op = .binOp .eql t x (.const (.slice none 0 0)) t2) {ad : Option Addr} {n c : Nat} (hx : a.eval x = .slice ad n c)
    (h : wpList P ops Q rest (a.put o.dst (.bool ad.isNone)) w) : wpList P ops Q (o :: rest) a w := by
  refine wpL_run hgd (v := .bool ad.isNone) (w' := w) ?_ h
  have hr := Lib.run_eql_slice_nil (P := P) w t e ad n c 0 0 ht
  have hc : a.eval (.const (.slice none 0 0)) = .slice none 0 0 := rfl
  simp [execOp, ho, hx, hc, eqGuard, hr, Result.andThen]
theorem bclone_any (ad : Option Addr) (n c : Nat) (l : List UInt8) (w : World) (hs : Bs w ad n c l) (hsz : n ≤ 140737488351232) :
    Calls Try.prog 33 #[.slice ad n c] w (RetB 5 l w) := by
  have hn := hs.len
  have HS := Lib.hid hs
  have HN := Lib.hid hn
  cases ad with
  | none =>
    obtain ⟨h1, h2⟩ := hs.2.2.2.1 rfl
    have hl : l = [] := List.eq_nil_of_length_eq_zero (by omega)
    subst hl
    clear HS HN hs hn
    subst h1
    subst h2
    go_enter Try.func33, Try.ntmps33
    go_wp2_with ((with_reducible show wpList _ _ _ (⟨some 4, _, _, _, _, _⟩ :: _) _ _); go_must (refine wpL_eqnil Try.underlying25 rfl (.tmp 3) rfl rfl ?_); simp only [Act.put, List.setIfInBounds_toArray, List.set_cons_zero, List.set_cons_succ, Option.isNone_none])
    go_ret
    exact ⟨none, 0, rfl, World.ownsRow_nil _ _ _ _, Below.refl _ _⟩
  | some x =>
    clear hs hn
    go_enter Try.func33, Try.ntmps33
    go_wp2_with (first | ((with_reducible show wpList _ _ _ (⟨some 4, _, _, _, _, _⟩ :: _) _ _); go_must (refine wpL_eqnil Try.underlying25 rfl (.tmp 3) rfl rfl ?_); simp only [Act.put, List.setIfInBounds_toArray, List.set_cons_zero, List.set_cons_succ, Option.isNone_some]) | ((with_reducible show wpList _ _ _ (⟨some 7, _, _, _, _, _⟩ :: _) _ _); go_must (refine wpL_append elB rfl (.tmp 5) (.tmp 6) rfl w.heap.size rfl (World.ownsRow_lit (size := 1) (e := 5) w #[] 0 (Nat.le_refl _) (by simp [maxLen]) rfl) rfl (HS.out.below ((Below.refl _ _).alloc (Nat.le_refl _) _)) (BV_one _) (by unfold maxLen; omega) (by omega) (by simp) ?_); intro ad1 c1 w1 hown1 hgrow1 hat1 hnil1; simp only [Act.put, List.setIfInBounds_toArray, List.set_cons_zero, List.set_cons_succ]))
    try simp only [Nat.zero_add, List.nil_append] at hown1
    have hb1 : Below w.heap.size w w1 := ((Below.refl w.heap.size w).alloc (Nat.le_refl _) _).grown hgrow1 (by simp) (fun k e => by simp [Value.ownBlock] at e; omega)
    have HO1 := Lib.hid hown1
    have HB1 := Lib.hid hb1
    clear hown1 hgrow1 hat1 hnil1 hb1
    go_ret
    refine ⟨ad1, c1, ?_, ?_, HB1.out⟩
    · rw [← HN.out]; simp
    · rw [← HN.out]; exact HO1.out

theorem bytesEqual_any (ad : Option Addr) (n c : Nat) (l : List UInt8) (ad' : Option Addr) (n' c' : Nat) (m : List UInt8) (w : World) (hs : Bs w ad n c l) (hs' : Bs w ad' n' c' m) :
    Calls Try.prog 30 #[.slice ad n c, .slice ad' n' c'] w fun e w' => e = .returned (.bool (sameB l m)) ∧ w = w' := by
  have HS := Lib.hid hs
  have HS' := Lib.hid hs'
  clear hs hs'
  go_enter Try.func30, Try.ntmps30
  go_wp2_with (first
    | ((with_reducible show wpList _ _ _ (⟨some 6, _, _, _, _, _⟩ :: _) _ _); go_must (refine wpL_str elB.1 (by kernel_rfl) (by kernel_rfl) rfl (.tmp 5) rfl rfl HS.out ?_))
    | ((with_reducible show wpList _ _ _ (⟨some 8, _, _, _, _, _⟩ :: _) _ _); go_must (refine wpL_str elB.1 (by kernel_rfl) (by kernel_rfl) rfl (.tmp 7) rfl rfl HS'.out ?_)))
  rw [sameB_str]
  go_wp2_with fail
  go_ret
  exact ⟨rfl, rfl⟩
end Go.Proofs.Ytmigbcoobbcahaa
