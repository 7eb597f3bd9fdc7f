/-
  Chapter 25: the law OptionKeeps, walked.
-/
import Derived.Test.YtmigbcoobbcahaaOpt18
import Derived.RegionTactic
import Derived.BigRegion
namespace Go.Proofs.Ytmigbcoobbcahaa
open Go.RowKit Go.Sort
set_option linter.unusedVariables false
set_option linter.unusedSimpArgs false

/-- options in a row of the call's own, each value in a row of the call's own that is another one -/
def OwnV (e eb : TypeId) (base : Nat) (w : World) (ad : Option Addr) (n c : Nat) (os : List OptV) : Prop :=
  w.ownsRow base e 2 (.slice ad n c) n (ocells os) ∧ ∀ o ∈ os, w.ownsRow base eb 1 (.slice o.ad o.n o.c) o.n (BV o.l) ∧ ∀ x, o.ad = some x → ∀ y, ad = some y → x.block ≠ y.block
theorem OwnV.nil (e eb : TypeId) (base : Nat) (w : World) : OwnV e eb base w none 0 0 [] := ⟨World.ownsRow_nil _ _ _ _, fun o ho => by cases ho⟩
theorem OwnV.ops {e eb : TypeId} {base : Nat} {w : World} {ad : Option Addr} {n c : Nat} {os : List OptV} (h : OwnV e eb base w ad n c os) : Ops w ad n c os := ⟨Sl.of_own h.1, fun o ho => Bs.of_own (h.2 o ho).1⟩
theorem OwnV.keep {e eb : TypeId} {base : Nat} {w w' : World} {ad : Option Addr} {n c : Nat} {os : List OptV} (h : OwnV e eb base w ad n c os) (hb : Below w.heap.size w w') : OwnV e eb base w' ad n c os :=
  ⟨own_keep h.1 hb, fun o ho => ⟨own_keep (h.2 o ho).1 hb, (h.2 o ho).2⟩⟩
theorem cV {w a w' : World} {e eb : TypeId} {base : Nat} {ad : Option Addr} {n c : Nat} {os : List OptV} (h : Hid (OwnV e eb base w ad n c os)) (hu : Below w.heap.size w a) (hb : Below a.heap.size a w') : Hid (OwnV e eb base w' ad n c os) :=
  Lib.hid ((h.out.keep hu).keep hb)
/-- a byte of one value is written over -/
def pokeO (g j : Nat) (b : UInt8) (o : OptV) : OptV := if o.ad = some ⟨g, 0, none⟩ then ⟨o.code, o.ad, o.n, o.c, o.l.set j b⟩ else o
theorem pokeO_cells (g j : Nat) (b : UInt8) (o : OptV) : (pokeO g j b o).cells = o.cells := by unfold pokeO; split <;> rfl
theorem pokeO_ad (g j : Nat) (b : UInt8) (o : OptV) : (pokeO g j b o).ad = o.ad := by unfold pokeO; split <;> rfl
theorem poke_cells (g j : Nat) (b : UInt8) (os : List OptV) : ocells (os.map (pokeO g j b)) = ocells os := by
  induction os with
  | nil => rfl
  | cons o os ih => simp only [ocells, List.map_cons, List.flatMap_cons, pokeO_cells] at *; rw [ih]
theorem grown_set (w : World) (g j : Nat) (v : Value) : w.grownBy (w.setCell ⟨g, j, none⟩ v) (some g) :=
  ⟨rfl, rfl, rfl, by simp [World.setCell], fun k _ hk => Below.heap_setCell _ _ _ _ (fun e => hk (by rw [e]))⟩
theorem OwnV.poke {e eb : TypeId} {base : Nat} {w : World} {ad : Option Addr} {n c : Nat} {os : List OptV} (h : OwnV e eb base w ad n c os) (o : OptV) (ho : o ∈ os) (g : Nat) (ha : o.ad = some ⟨g, 0, none⟩) (j : Nat) (b : UInt8) :
    OwnV e eb base (w.setCell ⟨g, j, none⟩ (.int .u8 (b.toNat : Int))) ad n c (os.map (pokeO g j b)) := by
  refine ⟨?_, fun p hp => ?_⟩
  · rw [poke_cells]
    refine h.1.kept (grown_set w g j _) ?_
    rcases own_form h.1 with ⟨rfl, _⟩ | ⟨q, rfl, _⟩
    · exact .inl rfl
    · refine .inr fun e => ?_
      simp [Value.ownBlock] at e
      exact (h.2 o ho).2 _ ha _ rfl e.symm
  · obtain ⟨q, hq, rfl⟩ := List.mem_map.1 hp
    obtain ⟨h1, h2⟩ := h.2 q hq
    refine ⟨?_, fun x hx y hy => h2 x (by rwa [pokeO_ad] at hx) y hy⟩
    unfold pokeO
    split
    · rename_i hqa
      rw [hqa] at h1
      have h3 := (own_store h1 j b).1
      show World.ownsRow _ base eb 1 (.slice q.ad q.n q.c) q.n (BV (q.l.set j b))
      rw [hqa]
      exact h3
    · rename_i hqa
      refine h1.kept (grown_set w g j _) ?_
      rcases own_form h1 with ⟨h0, _⟩ | ⟨k, hk, _⟩
      · rw [h0]; exact .inl rfl
      · rw [hk]
        refine .inr fun e => hqa ?_
        simp [Value.ownBlock] at e
        rw [hk, e]
/-- 'append(own, api.Option{..})', a step -/
theorem step_pushV {P : Program} {v : World} {ops : Array Oper} {o1 : Oper} {a : Act} {K : Act → World → Prop} {Q : Exit → Act → World → Prop} {E : Prop} {t e e' eb : TypeId} {z : Value} (el : Elem P t e 2 32 z)
    (hgd : Region.wanted o1 (yielded ops a.tmps) = true) (s x : Operand) (ho : o1.op = .call { callee := .builtin .append, args := #[s, x], argTypes := #[t, t] })
    (base : Nat) {ad : Option Addr} {n c : Nat} {os : List OptV} (hs : a.eval s = .slice ad n c) (hown : OwnV e eb base v ad n c os) (o : OptV) {b : Nat} (hx : a.eval x = .slice (some ⟨b, 0, none⟩) 1 1) (hb : b = v.heap.size)
    (hnew : v.ownsRow base eb 1 (.slice o.ad o.n o.c) o.n (BV o.l)) (hnb : ∀ x, o.ad = some x → ∀ y, ad = some y → x.block ≠ y.block) (hbase : base ≤ v.heap.size) (hn : n ≤ 1000000000)
    (h : ∀ ad' c' w', OwnV e eb base w' ad' (n + 1) c' (os ++ [o]) → Below base v w' → K (a.put o1.dst (.slice ad' (n + 1) c')) w') :
    if Region.wanted o1 (yielded ops a.tmps) = true then Oper.wp P o1 a (v.alloc (.cells #[.int .i64 o.code, .slice o.ad o.n o.c] e')) K Q else E := by
  subst hb
  have hz : (v.alloc (.cells #[.int .i64 o.code, .slice o.ad o.n o.c] e')).heap.size = v.heap.size + 1 := by simp
  refine step_append el hgd s x ho base hs (hown.1.alloc _) hx (Sl.lit v #[.int .i64 o.code, .slice o.ad o.n o.c] e' 1 2 rfl (by simp [maxLen])) (fun u hu => ?_) (by unfold maxLen; omega) (by omega) (by omega) fun ad' c' w' ho' hg' hat _ => h ad' c' w' ?_ ?_
  · simp at hu
    rcases hu with rfl | rfl <;> rfl
  · have hall : ∀ p ∈ os ++ [o], v.ownsRow base eb 1 (.slice p.ad p.n p.c) p.n (BV p.l) ∧ ∀ x, p.ad = some x → ∀ y, ad = some y → x.block ≠ y.block := by
      intro p hp
      rcases List.mem_append.1 hp with hp | hp
      · exact hown.2 p hp
      · simp at hp
        subst hp
        exact ⟨hnew, hnb⟩
    refine ⟨?_, fun p hp => ⟨?_, fun x hx y hy => ?_⟩⟩
    · rw [ocells_append]
      exact ho'
    · obtain ⟨h1, h2⟩ := hall p hp
      refine (h1.alloc _).kept hg' ?_
      rcases own_form h1 with ⟨h0, _⟩ | ⟨k, hk, _⟩
      · rw [h0]; exact .inl rfl
      · refine .inr fun e => ?_
        rw [hk] at e
        simp [Value.ownBlock] at e
        rcases own_form hown.1 with ⟨h0, _⟩ | ⟨g, hg, _⟩
        · rw [h0] at e; cases e
        · rw [hg] at e
          simp at e
          exact h2 _ hk _ hg e
    · obtain ⟨h1, h2⟩ := hall p hp
      rcases hat with rfl | rfl
      · exact h2 x hx y hy
      · cases hy
        rw [hz] at *
        rcases own_form h1 with ⟨h0, _⟩ | ⟨k, hk, _, hk2⟩
        · rw [h0] at hx; cases hx
        · rw [hk] at hx
          cases hx
          show k ≠ v.heap.size + 1
          omega
  · exact ((Below.refl base v).alloc hbase _).grown hg' (by omega) (ownBlock_ge hown.1)
theorem ad_of_cells {os ps : List OptV} (h : ocells os = ocells ps) (k : Nat) (hk : k < os.length) (hk2 : k < ps.length) : os[k].ad = ps[k].ad ∧ os[k].n = ps[k].n ∧ os[k].c = ps[k].c := by
  have h1 := (ocells_get os k hk).2
  have h2 := (ocells_get ps k hk2).2
  rw [h, h2] at h1
  simp at h1
  exact ⟨h1.1.symm, h1.2.1.symm, h1.2.2.symm⟩

theorem step_str {P : Program} {w : World} {ops : Array Oper} {o : Oper} {a : Act} {K : Act → World → Prop} {Q : Exit → Act → World → Prop} {E : Prop} {src dst e : TypeId} (hs : P.underlying src = some (.slice e)) (he : P.underlying e = some (.int .u8)) (hd : P.underlying dst = some .string)
    (hg : Region.wanted o (yielded ops a.tmps) = true) (x : Operand) (hop : o.op = Op.convert src dst x) {ad : Option Addr} {n c : Nat} {l : List UInt8} (hx : a.eval x = .slice ad n c) (hb : Bs w ad n c l)
    (h : K (a.put o.dst (.string (strOf l))) w) : if Region.wanted o (yielded ops a.tmps) = true then Oper.wp P o a w K Q else E := by
  refine step_run hg ?_ h
  simp only [execOp, hop, hx, Sem.run_bind, run_str hs he hd hb, Result.andThen_ok, Sem.run_pure]
theorem u8_next (b : UInt8) : IntKind.u8.wrap ((b.toNat : Int) + 1) = ((b + 1).toNat : Int) := by
  rw [IntKind.wrap_u8, UInt8.toNat_add]
  show ((b.toNat : Int) + 1) % 256 = (((b.toNat + 1) % 256 : Nat) : Int)
  omega

theorem own_ne {w : World} {base k : Nat} {e : TypeId} {size : Nat} {ad : Option Addr} {n c : Nat} {xs : List Value} (h : w.ownsRow base e size (.slice ad n c) n xs) (hk : k < base) : (Value.slice ad n c).ownBlock = none ∨ (Value.slice ad n c).ownBlock ≠ some k := by
  rcases own_form h with ⟨h0, _⟩ | ⟨g, h1, h2, _⟩
  · rw [h0]; exact .inl rfl
  · rw [h1]
    refine .inr fun e => ?_
    simp [Value.ownBlock] at e
    omega
/-- the code of the first, in memory -/
theorem code0 {w w' : World} {g n c : Nat} {os : List OptV} (h : Ops w (some ⟨g, 0, none⟩) n c os) (hb : Below w.heap.size w w') (h0 : 0 < n) : 0 < os.length ∧ w'.cell? ⟨g, 0, none⟩ = some (.int .i64 (os[0]'(by have := h.len; omega)).code) ∧ True := by
  have hl : 0 < os.length := by have := h.len; omega
  obtain ⟨b, off, hab, hbl, hat⟩ := (h.below hb).at (j := 0) hl
  cases hab
  exact ⟨hl, (hat 0 hl).1, trivial⟩

theorem newV_apart {v w' : World} {e T eb : TypeId} {base : Nat} {ad ado : Option Addr} {n c no co : Nat} {xs : List Value} {os : List OptV} (h : w'.ownsRow v.heap.size e 1 (.slice ad n c) n xs) (hown : OwnV T eb base v ado no co os) :
    ∀ x, ad = some x → ∀ y, ado = some y → x.block ≠ y.block := by
  intro x hx y hy
  rcases own_form h with ⟨h1, _⟩ | ⟨g, h1, h2, h3⟩
  · rw [h1] at hx; cases hx
  · rw [h1] at hx; cases hx
    rcases own_form hown.1 with ⟨h4, _⟩ | ⟨g', h4, h5, h6⟩
    · rw [h4] at hy; cases hy
    · rw [h4] at hy; cases hy
      show g ≠ g'
      omega

set_option maxRecDepth 100000 in
set_option maxHeartbeats 16000000 in
theorem optKeeps_walk (ad : Option Addr) (n c : Nat) (os : List OptV) (big : Bool) (w : World) (hs : Ops w ad n c os) :
    Calls Try.prog 8 #[.slice ad n c, .bool big] w fun e w' => e = .returned (.bool true) ∧ Below w.heap.size w w' := by
  have HB := Lib.hid (Below.refl w.heap.size w)
  have hn := hs.len
  have hle := hs.le
  have HS := Lib.hid hs
  have HN := Lib.hid hn
  have HI : Hid ((Try.prog.info? 33).map (·.size) = some 2) := Lib.hid (by kernel_rfl)
  clear hs hn
  by_cases hf : fewO (vals os) = true
  · obtain ⟨hz, hl60⟩ := few_size hf
    have HF := Lib.hid hf
    have HZ := Lib.hid hz
    obtain ⟨P, hP⟩ : ∃ P, P = putAll big (vals os) := ⟨_, rfl⟩
    have HP := Lib.hid hP
    have hPl : P.length ≤ 70424 := by rw [hP]; have : (endO (vals os)).length ≤ 4 := (by unfold endO; split <;> simp); unfold putAll; rw [List.length_append, putO_length]; omega
    have hn60 : n ≤ 60 := by rw [vals_length] at hl60; have := HN.out; omega
    obtain ⟨N, hN⟩ : ∃ N, N = P.length := ⟨_, rfl⟩
    have HPN := Lib.hid hN.symm
    rw [← hN] at hPl
    clear hf hz hl60 hP hN
    by_cases hx : wrongO (vals os) = 0
    · have HX := Lib.hid hx
      have HOK := Lib.hid (wrongO_zero.1 hx)
      have R1 := Lib.hid (readO_all big (vals os) HOK.out)
      rw [← HP.out] at R1
      have R4 : Hid (0 < n → rowsO big P = (vals os, N, (0, 0))) := Lib.hid (fun h0 => by
        have hvn : vals os ≠ [] := fun e => by have h1 := congrArg List.length e; rw [vals_length] at h1; have := HN.out; simp at h1; simp [h1] at this; omega
        have h1 := rowsO_more big 0 (vals os) HOK.out hvn []
        rw [layP_zero, List.append_nil] at h1
        have h2 : putO big (vals os) ++ endO (vals os) = P := HP.out.symm
        rw [h2] at h1
        rw [h1, ← HPN.out, HP.out, putAll]
        have h3 : endO (vals os) = [0, 0, 0, 0] := by
          obtain ⟨v, hv⟩ : ∃ v, v = vals os := ⟨_, rfl⟩
          rw [← hv] at hvn ⊢
          cases v with | nil => exact absurd rfl hvn | cons => rfl
        rw [List.length_append, putO_length, h3]; rfl)
      clear hx
      go_enter Try.func8, Try.ntmps8
      go_wp2_with (first
        | (go_at_call 9; go_must (refine (optAwake_any _).mono ?_); rintro e w6 ⟨rfl, hb6⟩; have hE__ := cU HB (by repeat (first | exact Below.refl _ _ | refine Below.drew ?_ | refine Below.trans ?_ (below_drewN _ _ _) | refine Below.alloc ?_ (by first | exact Nat.le_refl _ | (simp; done) | (simp; omega)) _)) hb6; (first | replace HB := cK1 HB hE__); clear hE__; clear hb6)
        | (go_at_call 10; go_must (refine (few_any ad n c os _ (HS.out.below HB.out)).mono ?_); intro e w' hr; rw [HF.out] at hr; obtain ⟨rfl, rfl⟩ := hr)
        | (go_at_call 12; go_must (refine (wrong_any ad n c os _ (HS.out.below HB.out)).mono ?_); intro e w' hr; rw [HX.out] at hr; obtain ⟨rfl, rfl⟩ := hr))
      go_loopw [5, 6] (fun s i wr => ∃ (k : Nat) (ad1 : Option Addr) (c1 : Nat) (os1 : List OptV), k ≤ n ∧ s = .slice ad1 k c1 ∧ i = .int .i64 k ∧ OwnV 43 5 w.heap.size wr ad1 k c1 os1 ∧ Hid (vals os1 = (vals os).take k) ∧ Below w.heap.size w wr) (fun _ i _ => n - (intOf i).toNat)
      case atStart => exact ⟨0, none, 0, [], by omega, rfl, rfl, OwnV.nil _ _ _ _, Lib.hid rfl, HB.out⟩
      case round =>
        obtain ⟨k, ad1, c1, os1, hk, rfl, rfl, how, HV, hb⟩ := hrel
        clear HB
        have HW := Lib.hid how
        have HB := Lib.hid hb
        have HZ0 := Lib.hid hb.size
        clear how hb
        by_cases hlt : k < n
        · have hko : k < os.length := by have := HN.out; omega
          have hkv : k < (vals os).length := by rw [vals_length]; exact hko
          obtain ⟨b, off, rfl, hbl, hat⟩ := HS.out.at (j := k) hko
          obtain ⟨q1, q2, hbs⟩ := hat k hko
          obtain ⟨o, ho⟩ : ∃ o, o = os[k] := ⟨_, rfl⟩
          rw [← ho] at q1 q2 hbs
          have hol := hbs.le
          have hon := hbs.len
          have hvk : (vals os)[k] = (o.code, o.l) := by rw [vals_get _ _ hko, ← ho]; rfl
          have hok : o.n ≤ 70420 := by
            have h2 := sizeO_take (vals os) k hkv
            have h3 := sizeO_take_le (vals os) (k + 1)
            have h4 := HZ.out
            rw [hvk] at h2
            unfold lenO at h2
            simp only at h2
            omega
          have HV2 : Hid (∀ (q : Option Addr) (m cc : Nat), vals (os1 ++ [⟨o.code, q, m, cc, o.l⟩]) = (vals os).take (k + 1)) := Lib.hid (fun q m cc => by
            rw [vals_append, HV.out, List.take_add_one, List.getElem?_eq_getElem hkv, hvk]; rfl)
          have HQ1 := Lib.hid q1
          have HQ2 := Lib.hid q2
          have HBS := Lib.hid hbs
          have HON := Lib.hid hon
          have HBL := Lib.hid hbl
          clear hat q1 q2 hbs ho hvk hon hbl HV
          go_wp2_with fail
          refine wp_region_held_drew (S := fun v => v.cell? ⟨b, off + k * 2, none⟩ = some (.int .i64 o.code) ∧ v.cell? ⟨b, off + k * 2 + 1, none⟩ = some (.slice o.ad o.n o.c)) (by kernel_rfl) ?_ (fun hHeld => ?_)
          focus (exact ⟨((HB.out.trans (Below.mono (by repeat (first | exact Below.refl _ _ | refine Below.drew ?_ | refine Below.trans ?_ (below_drewN _ _ _) | refine Below.alloc ?_ (by first | exact Nat.le_refl _ | (simp; done) | (simp; omega)) _)) HB.out.size)).cell (p := ⟨b, off + k * 2, none⟩) HBL.out).trans HQ1.out, ((HB.out.trans (Below.mono (by repeat (first | exact Below.refl _ _ | refine Below.drew ?_ | refine Below.trans ?_ (below_drewN _ _ _) | refine Below.alloc ?_ (by first | exact Nat.le_refl _ | (simp; done) | (simp; omega)) _)) HB.out.size)).cell (p := ⟨b, off + k * 2 + 1, none⟩) HBL.out).trans HQ2.out⟩)
          refine wpAnyH_take (i := 0) (oi := { dst := some 37, op := Op.move (Operand.tmp 5), type := 22, pos := "law.go:142", after := #[], guard := none }) (v := ?_) rfl (by kernel_rfl) (by kernel_rfl) (by kernel_rfl) (fun _ _ _ h => h) (Or.inl ⟨by rfl, ?_⟩) hHeld ?_; rotate_left; focus (intro w hSw; (try dsimp only at hSw); go_simp; try with_reducible rfl)
          simp only [Act.put, List.setIfInBounds_toArray, List.set_cons_zero, List.set_cons_succ]
          refine wpAnyH_take (i := 1) (oi := { dst := some 38, op := Op.move (Operand.tmp 0), type := 22, pos := "law.go:142", after := #[], guard := none }) (v := ?_) rfl (by kernel_rfl) (by kernel_rfl) (by kernel_rfl) (fun _ _ _ h => h) (Or.inl ⟨by rfl, ?_⟩) hHeld ?_; rotate_left; focus (intro w hSw; (try dsimp only at hSw); go_simp; try with_reducible rfl)
          simp only [Act.put, List.setIfInBounds_toArray, List.set_cons_zero, List.set_cons_succ]
          refine wpAnyH_take (i := 2) (oi := { dst := some 39, op := Op.move (Operand.tmp 6), type := 3, pos := "law.go:142", after := #[], guard := none }) (v := ?_) rfl (by kernel_rfl) (by kernel_rfl) (by kernel_rfl) (fun _ _ _ h => h) (Or.inl ⟨by rfl, ?_⟩) hHeld ?_; rotate_left; focus (intro w hSw; (try dsimp only at hSw); go_simp; try with_reducible rfl)
          simp only [Act.put, List.setIfInBounds_toArray, List.set_cons_zero, List.set_cons_succ]
          refine wpAnyH_take (i := 3) (oi := { dst := some 40, op := Op.indexAddr 22 (Operand.tmp 38) (Operand.tmp 39), type := 0, pos := "law.go:142", after := #[{ on := 1, ground := Ground.data }, { on := 2, ground := Ground.data }], guard := none }) (v := ?_) rfl (by kernel_rfl) (by kernel_rfl) (by kernel_rfl) (fun _ _ _ h => h) (Or.inl ⟨by rfl, ?_⟩) hHeld ?_; rotate_left; focus (intro w hSw; (try dsimp only at hSw); go_simp; try with_reducible rfl)
          simp only [Act.put, List.setIfInBounds_toArray, List.set_cons_zero, List.set_cons_succ]
          refine wpAnyH_take (i := 4) (oi := { dst := some 41, op := Op.fieldAddr 43 (Operand.tmp 40) 0, type := 0, pos := "law.go:142", after := #[{ on := 3, ground := Ground.data }], guard := none }) (v := ?_) rfl (by kernel_rfl) (by kernel_rfl) (by kernel_rfl) (fun _ _ _ h => h) (Or.inl ⟨by rfl, ?_⟩) hHeld ?_; rotate_left; focus (intro w hSw; (try dsimp only at hSw); go_simp; try with_reducible rfl)
          simp only [Act.put, List.setIfInBounds_toArray, List.set_cons_zero, List.set_cons_succ]
          refine wpAnyH_take (i := 5) (oi := { dst := some 42, op := Op.load 3 (Operand.tmp 41), type := 3, pos := "law.go:142", after := #[{ on := 4, ground := Ground.data }], guard := none }) (v := ?_) rfl (by kernel_rfl) (by kernel_rfl) (by kernel_rfl) (fun _ _ _ h => h) (Or.inl ⟨by rfl, ?_⟩) hHeld ?_; rotate_left; focus (intro w hSw; (try dsimp only at hSw); go_simp; try with_reducible rfl)
          simp only [Act.put, List.setIfInBounds_toArray, List.set_cons_zero, List.set_cons_succ]
          refine wpAnyH_take (i := 7) (oi := { dst := some 44, op := Op.move (Operand.tmp 0), type := 22, pos := "law.go:142", after := #[], guard := none }) (v := ?_) rfl (by kernel_rfl) (by kernel_rfl) (by kernel_rfl) (fun _ _ _ h => h) (Or.inl ⟨by rfl, ?_⟩) hHeld ?_; rotate_left; focus (intro w hSw; (try dsimp only at hSw); go_simp; try with_reducible rfl)
          simp only [Act.put, List.setIfInBounds_toArray, List.set_cons_zero, List.set_cons_succ]
          refine wpAnyH_take (i := 8) (oi := { dst := some 45, op := Op.move (Operand.tmp 6), type := 3, pos := "law.go:142", after := #[], guard := none }) (v := ?_) rfl (by kernel_rfl) (by kernel_rfl) (by kernel_rfl) (fun _ _ _ h => h) (Or.inl ⟨by rfl, ?_⟩) hHeld ?_; rotate_left; focus (intro w hSw; (try dsimp only at hSw); go_simp; try with_reducible rfl)
          simp only [Act.put, List.setIfInBounds_toArray, List.set_cons_zero, List.set_cons_succ]
          refine wpAnyH_take (i := 9) (oi := { dst := some 46, op := Op.indexAddr 22 (Operand.tmp 44) (Operand.tmp 45), type := 0, pos := "law.go:142", after := #[{ on := 7, ground := Ground.data }, { on := 8, ground := Ground.data }], guard := none }) (v := ?_) rfl (by kernel_rfl) (by kernel_rfl) (by kernel_rfl) (fun _ _ _ h => h) (Or.inl ⟨by rfl, ?_⟩) hHeld ?_; rotate_left; focus (intro w hSw; (try dsimp only at hSw); go_simp; try with_reducible rfl)
          simp only [Act.put, List.setIfInBounds_toArray, List.set_cons_zero, List.set_cons_succ]
          refine wpAnyH_take (i := 10) (oi := { dst := some 47, op := Op.fieldAddr 43 (Operand.tmp 46) 1, type := 0, pos := "law.go:142", after := #[{ on := 9, ground := Ground.data }], guard := none }) (v := ?_) rfl (by kernel_rfl) (by kernel_rfl) (by kernel_rfl) (fun _ _ _ h => h) (Or.inl ⟨by rfl, ?_⟩) hHeld ?_; rotate_left; focus (intro w hSw; (try dsimp only at hSw); go_simp; try with_reducible rfl)
          simp only [Act.put, List.setIfInBounds_toArray, List.set_cons_zero, List.set_cons_succ]
          refine wpAnyH_take (i := 11) (oi := { dst := some 48, op := Op.load 25 (Operand.tmp 47), type := 25, pos := "law.go:142", after := #[{ on := 10, ground := Ground.data }], guard := none }) (v := ?_) rfl (by kernel_rfl) (by kernel_rfl) (by kernel_rfl) (fun _ _ _ h => h) (Or.inl ⟨by rfl, ?_⟩) hHeld ?_; rotate_left; focus (intro w hSw; (try dsimp only at hSw); go_simp; try with_reducible rfl)
          simp only [Act.put, List.setIfInBounds_toArray, List.set_cons_zero, List.set_cons_succ]
          refine wpAnyH_ready (rs := [6]) (by kernel_rfl) (by simp) ?_
          refine (AllReadyH.cons (o := { dst := some 43, op := Op.buildSlice 25 0 #[], type := 25, pos := "law.go:142", after := #[], guard := none }) rfl (fun K hK => ?_) AllReadyH.nil)
          (go_simp)
          refine hK.out _ _ ?_ (fun hHeld => ?_)
          focus (exact ⟨((HB.out.trans (Below.mono (by repeat (first | exact Below.refl _ _ | refine Below.drew ?_ | refine Below.trans ?_ (below_drewN _ _ _) | refine Below.alloc ?_ (by first | exact Nat.le_refl _ | (simp; done) | (simp; omega)) _)) HB.out.size)).cell (p := ⟨b, off + k * 2, none⟩) HBL.out).trans HQ1.out, ((HB.out.trans (Below.mono (by repeat (first | exact Below.refl _ _ | refine Below.drew ?_ | refine Below.trans ?_ (below_drewN _ _ _) | refine Below.alloc ?_ (by first | exact Nat.le_refl _ | (simp; done) | (simp; omega)) _)) HB.out.size)).cell (p := ⟨b, off + k * 2 + 1, none⟩) HBL.out).trans HQ2.out⟩)
          clear hK K
          try simp only [Act.put, List.setIfInBounds_toArray, List.set_cons_zero, List.set_cons_succ]
          refine wpAnyH_ready (rs := [12]) (by kernel_rfl) (by simp) ?_
          refine (AllReadyH.cons (o := { dst := some 49, op := Op.call { callee := Callee.builtin Builtin.append, args := #[Operand.tmp 43, Operand.tmp 48], argTypes := #[25, 25] }, type := 25, pos := "law.go:142", after := #[{ on := 6, ground := Ground.data }, { on := 11, ground := Ground.data }], guard := none }) rfl (fun K hK => ?_) AllReadyH.nil)
          (go_must (refine step_append elB rfl (.tmp 43) (.tmp 48) rfl wr.drew.heap.size rfl (World.ownsRow_lit (size := 1) (e := 5) wr.drew #[] 0 (Nat.le_refl _) (by simp [maxLen]) rfl) rfl (HBS.out.below (HB.out.trans (Below.mono (by repeat (first | exact Below.refl _ _ | refine Below.drew ?_ | refine Below.trans ?_ (below_drewN _ _ _) | refine Below.alloc ?_ (by first | exact Nat.le_refl _ | (simp; done) | (simp; omega)) _)) HB.out.size))) (BV_one _) (by unfold maxLen; omega) (by omega) (by simp) ?_); intro ad5 c5 w5 hown hgrow hat hnil; have hb5 : Below wr.drew.heap.size wr.drew w5 := ((Below.refl wr.drew.heap.size wr.drew).alloc (Nat.le_refl _) _).grown hgrow (by simp) (fun k e => by simp [Value.ownBlock] at e; show wr.heap.size ≤ k; omega); rw [Nat.zero_add] at hown ⊢; simp only [List.nil_append] at hown; have HAP := Lib.hid (newV_apart hown (HW.out.keep (Below.refl wr.heap.size wr).drew)); have H5 := Lib.hid (own_base hown HZ0.out); have hE__ := cU HB (by repeat (first | exact Below.refl _ _ | refine Below.drew ?_ | refine Below.trans ?_ (below_drewN _ _ _) | refine Below.alloc ?_ (by first | exact Nat.le_refl _ | (simp; done) | (simp; omega)) _)) hb5; (first | replace HB := cK1 HB hE__); clear hE__; have HW' := cV HW (by repeat (first | exact Below.refl _ _ | refine Below.drew ?_ | refine Below.trans ?_ (below_drewN _ _ _) | refine Below.alloc ?_ (by first | exact Nat.le_refl _ | (simp; done) | (simp; omega)) _)) hb5; clear HW; have HW := HW'; clear HW'; clear hown hgrow hat hnil hb5)
          refine hK.out _ _ ?_ (fun hHeld => ?_)
          focus (exact ⟨((HB.out.trans (Below.mono (by repeat (first | exact Below.refl _ _ | refine Below.drew ?_ | refine Below.trans ?_ (below_drewN _ _ _) | refine Below.alloc ?_ (by first | exact Nat.le_refl _ | (simp; done) | (simp; omega)) _)) HB.out.size)).cell (p := ⟨b, off + k * 2, none⟩) HBL.out).trans HQ1.out, ((HB.out.trans (Below.mono (by repeat (first | exact Below.refl _ _ | refine Below.drew ?_ | refine Below.trans ?_ (below_drewN _ _ _) | refine Below.alloc ?_ (by first | exact Nat.le_refl _ | (simp; done) | (simp; omega)) _)) HB.out.size)).cell (p := ⟨b, off + k * 2 + 1, none⟩) HBL.out).trans HQ2.out⟩)
          clear hK K
          try simp only [Act.put, List.setIfInBounds_toArray, List.set_cons_zero, List.set_cons_succ]
          refine wpAnyH_take (i := 13) (oi := { dst := some 50, op := Op.build 43 #[(0, Operand.tmp 42), (1, Operand.tmp 49)], type := 43, pos := "law.go:142", after := #[{ on := 5, ground := Ground.data }, { on := 12, ground := Ground.data }], guard := none }) (v := ?_) rfl (by kernel_rfl) (by kernel_rfl) (by kernel_rfl) (fun _ _ _ h => h) (Or.inl ⟨by rfl, ?_⟩) hHeld ?_; rotate_left; focus (intro w hSw; (try dsimp only at hSw); go_simp; try with_reducible rfl)
          simp only [Act.put, List.setIfInBounds_toArray, List.set_cons_zero, List.set_cons_succ]
          refine wpAnyH_ready (rs := [14]) (by kernel_rfl) (by simp) ?_
          refine (AllReadyH.cons (o := { dst := some 51, op := Op.buildSlice 22 1 #[(0, Operand.tmp 50)], type := 22, pos := "law.go:142", after := #[{ on := 13, ground := Ground.data }], guard := none }) rfl (fun K hK => ?_) AllReadyH.nil)
          (go_simp)
          refine hK.out _ _ ?_ (fun hHeld => ?_)
          focus (exact ⟨((HB.out.trans (Below.mono (by repeat (first | exact Below.refl _ _ | refine Below.drew ?_ | refine Below.trans ?_ (below_drewN _ _ _) | refine Below.alloc ?_ (by first | exact Nat.le_refl _ | (simp; done) | (simp; omega)) _)) HB.out.size)).cell (p := ⟨b, off + k * 2, none⟩) HBL.out).trans HQ1.out, ((HB.out.trans (Below.mono (by repeat (first | exact Below.refl _ _ | refine Below.drew ?_ | refine Below.trans ?_ (below_drewN _ _ _) | refine Below.alloc ?_ (by first | exact Nat.le_refl _ | (simp; done) | (simp; omega)) _)) HB.out.size)).cell (p := ⟨b, off + k * 2 + 1, none⟩) HBL.out).trans HQ2.out⟩)
          clear hK K
          try simp only [Act.put, List.setIfInBounds_toArray, List.set_cons_zero, List.set_cons_succ]
          refine wpAnyH_ready (rs := [15]) (by kernel_rfl) (by simp) ?_
          refine (AllReadyH.cons (o := { dst := some 52, op := Op.call { callee := Callee.builtin Builtin.append, args := #[Operand.tmp 37, Operand.tmp 51], argTypes := #[22, 22] }, type := 22, pos := "law.go:142", after := #[{ on := 0, ground := Ground.data }, { on := 14, ground := Ground.data }, { on := 12, ground := Ground.chain }], guard := none }) rfl (fun K hK => ?_) AllReadyH.nil)
          (go_must (refine step_pushV elO rfl (.tmp 37) (.tmp 51) rfl w.heap.size rfl HW.out ⟨o.code, ad5, o.n, c5, o.l⟩ rfl rfl H5.out HAP.out HB.out.size (by omega) ?_); intro ad6 c6 w6 ho6 hb6; clear HW; have HW := Lib.hid ho6; have HB' := Lib.hid (HB.out.trans hb6); clear HB; have HB := HB'; clear HB' ho6 hb6 H5 HAP)
          refine hK.out _ _ ?_ (fun hHeld => ?_)
          focus (exact ⟨((HB.out.trans (Below.mono (by repeat (first | exact Below.refl _ _ | refine Below.drew ?_ | refine Below.trans ?_ (below_drewN _ _ _) | refine Below.alloc ?_ (by first | exact Nat.le_refl _ | (simp; done) | (simp; omega)) _)) HB.out.size)).cell (p := ⟨b, off + k * 2, none⟩) HBL.out).trans HQ1.out, ((HB.out.trans (Below.mono (by repeat (first | exact Below.refl _ _ | refine Below.drew ?_ | refine Below.trans ?_ (below_drewN _ _ _) | refine Below.alloc ?_ (by first | exact Nat.le_refl _ | (simp; done) | (simp; omega)) _)) HB.out.size)).cell (p := ⟨b, off + k * 2 + 1, none⟩) HBL.out).trans HQ2.out⟩)
          clear hK K
          try simp only [Act.put, List.setIfInBounds_toArray, List.set_cons_zero, List.set_cons_succ]
          refine wpAnyH_take (i := 16) (oi := { dst := some 5, op := Op.assign (Operand.tmp 52), type := 22, pos := "law.go:142", after := #[{ on := 15, ground := Ground.data }, { on := 15, ground := Ground.chain }, { on := 0, ground := Ground.phase }, { on := 1, ground := Ground.phase }, { on := 2, ground := Ground.phase }, { on := 3, ground := Ground.phase }, { on := 4, ground := Ground.phase }, { on := 5, ground := Ground.phase }, { on := 6, ground := Ground.phase }, { on := 7, ground := Ground.phase }, { on := 8, ground := Ground.phase }, { on := 9, ground := Ground.phase }, { on := 10, ground := Ground.phase }, { on := 11, ground := Ground.phase }, { on := 12, ground := Ground.phase }, { on := 13, ground := Ground.phase }, { on := 14, ground := Ground.phase }, { on := 15, ground := Ground.phase }], guard := none }) (v := ?_) rfl (by kernel_rfl) (by kernel_rfl) (by kernel_rfl) (fun _ _ _ h => h) (Or.inl ⟨by rfl, ?_⟩) hHeld ?_; rotate_left; focus (intro w hSw; (try dsimp only at hSw); go_simp; try with_reducible rfl)
          simp only [Act.put, List.setIfInBounds_toArray, List.set_cons_zero, List.set_cons_succ]
          refine wpAnyH_done (by kernel_rfl) ?_ _
          go_wp2_with fail
          go_roundw
          case rel => exact ⟨k + 1, ad6, c6, os1 ++ [⟨o.code, ad5, o.n, c5, o.l⟩], by omega, rfl, by go_num, HW.out, Lib.hid (HV2.out _ _ _), HB.out⟩
          case measure => simp [intOf]; omega
        · obtain rfl : n = k := by omega
          have HV' : Hid (vals os1 = vals os) := Lib.hid (by rw [HV.out, List.take_of_length_le (by rw [vals_length]; have := HN.out; omega)])
          clear HV
          have HV := HV'
          clear HV'
          obtain ⟨wv, hwv⟩ : ∃ wv, wv = wr := ⟨_, rfl⟩
          subst hwv
          have HN1 := Lib.hid HW.out.ops.len
          have HBr := Lib.hid (Below.refl wv.heap.size wv)
          have HZv := Lib.hid HB.out.size
          have HBD : Hid (∀ k (hk : k < os1.length), ∀ g, os1[k].ad = some ⟨g, 0, none⟩ → g < wv.heap.size) := Lib.hid (fun k hk g hg => by
            have h := (HW.out.2 _ (List.getElem_mem hk)).1
            rw [hg] at h
            rcases own_form h with ⟨h0, _⟩ | ⟨g', h1, _, h3⟩
            · cases h0
            · cases h1; exact h3)
          by_cases h0 : 0 < n
          · have HNP := Lib.hid h0
            have hnz : ¬ ((n : Int) = 0) := by omega
            have hnp : (0 : Int) < (n : Int) := by omega
            have h01 : 0 < os1.length := by have := HN1.out; omega
            have h00 : 0 < os.length := by have := HN.out; omega
            obtain ⟨o, ho⟩ : ∃ o, o = os[0] := ⟨_, rfl⟩
            have HO0 : Hid ((os1[0]'h01).l = o.l) := Lib.hid (by
              have h1 : (vals os1)[0]? = (vals os)[0]? := by rw [HV.out]
              rw [List.getElem?_eq_getElem (by rw [vals_length]; exact h01), List.getElem?_eq_getElem (by rw [vals_length]; exact h00), vals_get _ _ h01, vals_get _ _ h00, ← ho] at h1
              exact congrArg Prod.snd (Option.some.inj h1))
            have HL0 : Hid ((os1[0]'h01).l.length ≤ 140737488351232) := Lib.hid (by
              have h1 : 0 < (vals os1).length := by rw [vals_length]; exact h01
              have h2 := sizeO_take (vals os1) 0 h1
              have h3 := sizeO_take_le (vals os1) (0 + 1)
              have h4 := HZ.out
              rw [vals_get os1 0 h01 h1] at h2
              rw [HV.out] at h2 h3
              unfold lenO OptV.val at h2
              simp only at h2
              omega)
            have HO := Lib.hid ho
            obtain ⟨ga, rfl, hga⟩ : ∃ g, ad1 = some ⟨g, 0, none⟩ ∧ g < wv.heap.size := by
              rcases own_form HW.out.1 with ⟨_, h0', _⟩ | ⟨g, h1, _, h3⟩
              · omega
              · exact ⟨g, h1, h3⟩
            clear ho
            go_wp2_with (first
              | (go_at_call 11; go_must (refine (optPut_any (some ⟨ga, 0, none⟩) n c1 os1 big _ (HW.out.ops.below (HBr.out.trans (Below.mono (by repeat (first | exact Below.refl _ _ | refine Below.drew ?_ | refine Below.trans ?_ (below_drewN _ _ _) | refine Below.alloc ?_ (by first | exact Nat.le_refl _ | (simp; done) | (simp; omega)) _)) HBr.out.size))) (by rw [HV.out]; have := HZ.out; omega)).mono ?_); intro e w3 hr3; rw [HV.out, HX.out, ← HP.out, HPN.out] at hr3; obtain ⟨hb3, h3⟩ := hr3; rcases h3 with ⟨h3, _⟩ | ⟨_, ad3, c3, rfl, ho3⟩; exact absurd rfl h3; have H3 := Lib.hid ho3; have hE__ := cU HB (by repeat (first | exact Below.refl _ _ | refine Below.drew ?_ | refine Below.trans ?_ (below_drewN _ _ _) | refine Below.alloc ?_ (by first | exact Nat.le_refl _ | (simp; done) | (simp; omega)) _)) hb3; (first | replace HB := cK1 HB hE__); (first | replace HBr := cK1 HBr hE__ | replace HBr := cB1 HBr hE__ | replace HBr := cO1 HBr hE__ | replace HBr := cG1 HBr hE__ | replace HBr := cW1 HBr hE__ | replace HBr := cV1 HBr hE__ | replace HBr := cP1 HBr hE__); clear hE__; clear hb3 ho3)
              | (go_at_call 19; go_must (refine (refSame_any (some ⟨ga, 0, none⟩) n c1 os1 ad n c os _ (HW.out.ops.below (HBr.out.trans (Below.mono (by repeat (first | exact Below.refl _ _ | refine Below.drew ?_ | refine Below.trans ?_ (below_drewN _ _ _) | refine Below.alloc ?_ (by first | exact Nat.le_refl _ | (simp; done) | (simp; omega)) _)) HBr.out.size))) (HS.out.below (HB.out.trans (Below.mono (by repeat (first | exact Below.refl _ _ | refine Below.drew ?_ | refine Below.trans ?_ (below_drewN _ _ _) | refine Below.alloc ?_ (by first | exact Nat.le_refl _ | (simp; done) | (simp; omega)) _)) HB.out.size)))).mono ?_); intro e w4 hr; rw [HV.out, show decide (vals os = vals os) = true by simp] at hr; obtain ⟨rfl, hb⟩ := hr; have hE__ := cU HB (by repeat (first | exact Below.refl _ _ | refine Below.drew ?_ | refine Below.trans ?_ (below_drewN _ _ _) | refine Below.alloc ?_ (by first | exact Nat.le_refl _ | (simp; done) | (simp; omega)) _)) hb; (first | replace HB := cK1 HB hE__); (first | replace HBr := cK1 HBr hE__ | replace HBr := cB1 HBr hE__ | replace HBr := cO1 HBr hE__ | replace HBr := cG1 HBr hE__ | replace HBr := cW1 HBr hE__ | replace HBr := cV1 HBr hE__ | replace HBr := cP1 HBr hE__); (first | replace H3 := cB1 H3 hE__ | replace H3 := cO1 H3 hE__ | replace H3 := cG1 H3 hE__ | replace H3 := cW1 H3 hE__ | replace H3 := cV1 H3 hE__ | replace H3 := cP1 H3 hE__ | replace H3 := cK1 H3 hE__); clear hE__; have hcd := (code0 HW.out.ops HBr.out HNP.out).2.1; clear hb)
              | (go_at_call 21; have HZ4 := Lib.hid HBr.out.size; go_must (refine (find_some (some ⟨ga, 0, none⟩) n c1 os1 (os1[0]'h01).code _ (HW.out.ops.below (HBr.out.trans (Below.mono (by repeat (first | exact Below.refl _ _ | refine Below.drew ?_ | refine Below.trans ?_ (below_drewN _ _ _) | refine Below.alloc ?_ (by first | exact Nat.le_refl _ | (simp; done) | (simp; omega)) _)) HBr.out.size))) 0 h01 rfl (fun j hj => absurd hj (by omega)) HL0.out).mono ?_); intro e w5 hr; rw [HO0.out] at hr; obtain ⟨ad8, c8, rfl, ho8, hb8⟩ := hr; have H8 := Lib.hid (own_base ho8 HZ4.out); have hE__ := cU HB (by repeat (first | exact Below.refl _ _ | refine Below.drew ?_ | refine Below.trans ?_ (below_drewN _ _ _) | refine Below.alloc ?_ (by first | exact Nat.le_refl _ | (simp; done) | (simp; omega)) _)) hb8; (first | replace HB := cK1 HB hE__); (first | replace HBr := cK1 HBr hE__ | replace HBr := cB1 HBr hE__ | replace HBr := cO1 HBr hE__ | replace HBr := cG1 HBr hE__ | replace HBr := cW1 HBr hE__ | replace HBr := cV1 HBr hE__ | replace HBr := cP1 HBr hE__); (first | replace H3 := cB1 H3 hE__ | replace H3 := cO1 H3 hE__ | replace H3 := cG1 H3 hE__ | replace H3 := cW1 H3 hE__ | replace H3 := cV1 H3 hE__ | replace H3 := cP1 H3 hE__ | replace H3 := cK1 H3 hE__); clear hE__; clear hb8 ho8))
            have HWk := Lib.hid (HW.out.keep HBr.out)
            clear hcd
            go_loopw [10] (fun i wr2 => ∃ (k : Nat) (os2 : List OptV), k ≤ n ∧ i = .int .i64 k ∧ OwnV 43 5 w.heap.size wr2 (some ⟨ga, 0, none⟩) n c1 os2 ∧ Hid (ocells os2 = ocells os1) ∧ wr2.ownsRow wv.heap.size 5 1 (.slice ad3 N c3) N (BV P) ∧ wr2.ownsRow wv.heap.size 5 1 (.slice ad8 o.l.length c8) o.l.length (BV o.l) ∧ Below w.heap.size w wr2) (fun i _ => n - (intOf i).toNat)
            case atStart => exact ⟨0, os1, by omega, rfl, HWk.out, Lib.hid rfl, own_base H3.out (Nat.le_refl _), H8.out, HB.out⟩
            case round =>
              obtain ⟨k, os2, hk, rfl, how, HC, h3, h8, hb⟩ := hrel
              clear HWk H3 HB HBr H8
              by_cases hlt : k < n
              · have hk1 : k < os1.length := by have := HN1.out; omega
                have HO := Lib.hid how; have HH3 := Lib.hid h3; have HH8 := Lib.hid h8; have HB := Lib.hid hb
                obtain ⟨adk, hadk⟩ : ∃ q, q = os1[k].ad := ⟨_, rfl⟩
                obtain ⟨nk, hnk⟩ : ∃ q, q = os1[k].n := ⟨_, rfl⟩
                obtain ⟨ck, hck⟩ : ∃ q, q = os1[k].c := ⟨_, rfl⟩
                have HAD := Lib.hid hadk; have HNK := Lib.hid hnk; have HCK := Lib.hid hck
                clear how h3 h8 hb hadk hnk hck
                go_wp2_with fail
                go_loopw [11] (fun i wr2 => ∃ (j : Nat) (os2 : List OptV), i = .int .i64 j ∧ OwnV 43 5 w.heap.size wr2 (some ⟨ga, 0, none⟩) n c1 os2 ∧ Hid (ocells os2 = ocells os1) ∧ wr2.ownsRow wv.heap.size 5 1 (.slice ad3 N c3) N (BV P) ∧ wr2.ownsRow wv.heap.size 5 1 (.slice ad8 o.l.length c8) o.l.length (BV o.l) ∧ Below w.heap.size w wr2) (fun i _ => nk - (intOf i).toNat)
                case atStart => exact ⟨0, os2, rfl, HO.out, HC, HH3.out, HH8.out, HB.out⟩
                case round =>
                  obtain ⟨j, os3, rfl, how, HC3, h3, h8, hb⟩ := hrel
                  clear HO HH3 HH8 HB
                  have hk3 : k < os3.length := by have h := congrArg List.length HC3.out; rw [ocells_length, ocells_length] at h; omega
                  obtain ⟨b, off, hab, hbl, hat⟩ := how.ops.at (j := k) hk3
                  cases hab
                  obtain ⟨q1, q2, hbs⟩ := hat k hk3
                  obtain ⟨e1, e2, e3⟩ := ad_of_cells HC3.out k hk3 hk1
                  rw [e1, e2, e3, ← HAD.out, ← HNK.out, ← HCK.out] at q2
                  rw [e2, e3, ← HNK.out, ← HCK.out] at hbs
                  have hnkl := hbs.len; have hnkc := hbs.le
                  have HOW := Lib.hid how; have HH3 := Lib.hid h3; have HH8 := Lib.hid h8; have HB := Lib.hid hb
                  simp only [Nat.zero_add] at q2
                  by_cases hj : j < nk
                  · obtain ⟨o3, ho3⟩ : ∃ o3, o3 = os3[k] := ⟨_, rfl⟩
                    have hmem : o3 ∈ os3 := by rw [ho3]; exact List.getElem_mem hk3
                    have hown := (how.2 o3 hmem).1
                    rw [← ho3] at e1 e2 e3 hnkl
                    rw [e1, e2, e3, ← HAD.out, ← HNK.out, ← HCK.out] at hown
                    obtain ⟨gk, hgk, hgk1, hgk2⟩ : ∃ g, adk = some ⟨g, 0, none⟩ ∧ w.heap.size ≤ g ∧ g < wv.heap.size := by
                      rcases own_form hown with ⟨_, h0, _⟩ | ⟨g, h1, h2, h3⟩
                      · omega
                      · exact ⟨g, h1, h2, HBD.out k hk1 g (HAD.out.symm.trans h1)⟩
                    have hea : o3.ad = some ⟨gk, 0, none⟩ := by rw [e1, ← HAD.out, hgk]
                    subst hgk
                    have k1 := own_cell hown hj
                    have ff := hown.frozenAt j
                    have hwr := u8_next (at8 o3.l j)
                    have hpk := how.poke o3 hmem gk hea j (at8 o3.l j + 1)
                    have HPK := Lib.hid hpk
                    have HCP := Lib.hid ((poke_cells gk j (at8 o3.l j + 1) os3).trans HC3.out)
                    have g2 := grown_set wr gk j (.int .u8 ((at8 o3.l j + 1).toNat : Int))
                    have HH3' := Lib.hid (h3.kept g2 (own_ne h3 hgk2)); have HH8' := Lib.hid (h8.kept g2 (own_ne h8 hgk2)); have HB' := Lib.hid (hb.grown g2 hb.size (fun q e => by cases e; exact hgk1))
                    generalize at8 o3.l j = bj at *
                    generalize hbj : bj + 1 = bk at *
                    clear how h3 h8 hb hat hbs q1 hown ho3 hmem hea e1 e2 e3 hpk g2 hbj HOW HH3 HH8 HB hnkl
                    go_wp2_with fail
                    go_region
                    all_goals
                      go_wp2_with fail
                      go_roundw
                      case rel => exact ⟨j + 1, _, by go_num, HPK.out, HCP, HH3'.out, HH8'.out, HB'.out.drew⟩
                      case measure => simp [intOf]; omega
                  · clear how h3 h8 hb hat hbs q1 e1 e2 e3
                    go_wp2_with fail
                    go_roundw
                    case rel => exact ⟨k + 1, os3, by omega, by go_num, HOW.out, HC3, HH3.out, HH8.out, HB.out⟩
                    case measure => simp [intOf]; omega
              · have H3 := Lib.hid h3; have H8 := Lib.hid h8; have HB := Lib.hid hb
                clear how h3 h8 hb HC
                obtain ⟨wz, hwz⟩ : ∃ wz, wz = wr := ⟨_, rfl⟩
                subst hwz
                have HBz := Lib.hid (Below.refl wz.heap.size wz)
                have HG3 : Hid (∀ g, ad3 = some ⟨g, 0, none⟩ → g < wz.heap.size) := Lib.hid (fun g hg => by rcases own_form H3.out with ⟨h1, _⟩ | ⟨g', h1, _, h3⟩; rw [hg] at h1; cases h1; rw [hg] at h1; cases h1; exact h3)
                obtain ⟨b0, off0, rfl, hbl, hat⟩ := HS.out.at (j := 0) h00
                obtain ⟨_, q2, hbs⟩ := hat 0 h00
                rw [← HO.out, Nat.zero_mul, Nat.add_zero] at q2
                rw [← HO.out] at hbs
                have HQ2 := Lib.hid q2; have HBS := Lib.hid hbs; have HBL := Lib.hid hbl
                clear q2 hbs hbl hat
                go_wp2_with fail
                refine wp_region_held_drew (S := fun v => v.cell? ⟨b0, off0 + 1, none⟩ = some (.slice o.ad o.n o.c) ∧ Bs v ad3 N c3 P ∧ Bs v ad8 o.l.length c8 o.l ∧ Bs v o.ad o.n o.c o.l) (by kernel_rfl) ?_ (fun hHeld => ?_)
                focus (exact ⟨((HB.out.trans (Below.mono (by repeat (first | exact Below.refl _ _ | refine Below.drew ?_ | refine Below.trans ?_ (below_drewN _ _ _) | refine Below.alloc ?_ (by first | exact Nat.le_refl _ | (simp; done) | (simp; omega)) _)) HB.out.size)).cell (p := ⟨b0, off0 + 1, none⟩) HBL.out).trans HQ2.out, ((Bs.of_own H3.out).below (HBz.out.trans (Below.mono (by repeat (first | exact Below.refl _ _ | refine Below.drew ?_ | refine Below.trans ?_ (below_drewN _ _ _) | refine Below.alloc ?_ (by first | exact Nat.le_refl _ | (simp; done) | (simp; omega)) _)) HBz.out.size))), ((Bs.of_own H8.out).below (HBz.out.trans (Below.mono (by repeat (first | exact Below.refl _ _ | refine Below.drew ?_ | refine Below.trans ?_ (below_drewN _ _ _) | refine Below.alloc ?_ (by first | exact Nat.le_refl _ | (simp; done) | (simp; omega)) _)) HBz.out.size))), HBS.out.below (HB.out.trans (Below.mono (by repeat (first | exact Below.refl _ _ | refine Below.drew ?_ | refine Below.trans ?_ (below_drewN _ _ _) | refine Below.alloc ?_ (by first | exact Nat.le_refl _ | (simp; done) | (simp; omega)) _)) HB.out.size))⟩)
                refine wpAnyH_take (i := 0) (oi := { dst := some 107, op := Op.move (Operand.tmp 7), type := 25, pos := "law.go:157", after := #[], guard := none }) (v := ?_) rfl (by kernel_rfl) (by kernel_rfl) (by kernel_rfl) (fun _ _ _ h => h) (Or.inl ⟨by rfl, ?_⟩) hHeld ?_; rotate_left; focus (intro w hSw; (try dsimp only at hSw); go_simp; try with_reducible rfl)
                simp only [Act.put, List.setIfInBounds_toArray, List.set_cons_zero, List.set_cons_succ]
                refine' wpAnyH_take (i := 1) (oi := { dst := some 108, op := Op.convert 25 9 (Operand.tmp 107), type := 9, pos := "law.go:157", after := #[{ on := 0, ground := Ground.data }], guard := none }) (v := _) rfl (by kernel_rfl) (by kernel_rfl) (by kernel_rfl) (fun _ _ _ h => h) (yields_str elB.1 (by kernel_rfl) (by kernel_rfl) (by rfl) _ rfl rfl (fun v h => h.2.1)) hHeld ?_
                simp only [Act.put, List.setIfInBounds_toArray, List.set_cons_zero, List.set_cons_succ]
                refine wpAnyH_take (i := 2) (oi := { dst := some 109, op := Op.move (Operand.tmp 0), type := 22, pos := "law.go:157", after := #[], guard := none }) (v := ?_) rfl (by kernel_rfl) (by kernel_rfl) (by kernel_rfl) (fun _ _ _ h => h) (Or.inl ⟨by rfl, ?_⟩) hHeld ?_; rotate_left; focus (intro w hSw; (try dsimp only at hSw); go_simp; try with_reducible rfl)
                simp only [Act.put, List.setIfInBounds_toArray, List.set_cons_zero, List.set_cons_succ]
                refine wpAnyH_take (i := 3) (oi := { dst := some 110, op := Op.move (Operand.tmp 1), type := 4, pos := "law.go:157", after := #[], guard := none }) (v := ?_) rfl (by kernel_rfl) (by kernel_rfl) (by kernel_rfl) (fun _ _ _ h => h) (Or.inl ⟨by rfl, ?_⟩) hHeld ?_; rotate_left; focus (intro w hSw; (try dsimp only at hSw); go_simp; try with_reducible rfl)
                simp only [Act.put, List.setIfInBounds_toArray, List.set_cons_zero, List.set_cons_succ]
                refine wpAnyH_ready (rs := [4]) (by kernel_rfl) (by simp) ?_
                refine (AllReadyH.cons (o := { dst := some 111, op := Op.call { callee := Callee.value (Operand.func 13), args := #[Operand.tmp 109, Operand.tmp 110], argTypes := #[22, 4] }, type := 25, pos := "law.go:157", after := #[{ on := 2, ground := Ground.data }, { on := 3, ground := Ground.data }], guard := none }) rfl (fun K hK => ?_) AllReadyH.nil)
                (go_simp; go_must (refine (refOptPut_any (some ⟨b0, off0, none⟩) n c os big _ (HS.out.below (HB.out.trans (Below.mono (by repeat (first | exact Below.refl _ _ | refine Below.drew ?_ | refine Below.trans ?_ (below_drewN _ _ _) | refine Below.alloc ?_ (by first | exact Nat.le_refl _ | (simp; done) | (simp; omega)) _)) HB.out.size))) (by have := HZ.out; omega) HOK.out).mono ?_); intro e w9 hr9; unfold RetB at hr9; rw [← HP.out, HPN.out] at hr9; obtain ⟨ad9, c9, rfl, ho9, hb9⟩ := hr9; have hE__ := cU HB (by repeat (first | exact Below.refl _ _ | refine Below.drew ?_ | refine Below.trans ?_ (below_drewN _ _ _) | refine Below.alloc ?_ (by first | exact Nat.le_refl _ | (simp; done) | (simp; omega)) _)) hb9; (first | replace HB := cK1 HB hE__); (first | replace HBz := cK1 HBz hE__ | replace HBz := cB1 HBz hE__ | replace HBz := cO1 HBz hE__ | replace HBz := cG1 HBz hE__ | replace HBz := cW1 HBz hE__ | replace HBz := cV1 HBz hE__ | replace HBz := cP1 HBz hE__); clear hE__; have H9 := Lib.hid (Bs.of_own ho9); clear ho9 hb9; go_wp2_with fail)
                refine hK.out _ _ ?_ (fun hHeld => ?_)
                focus (exact ⟨((HB.out.trans (Below.mono (by repeat (first | exact Below.refl _ _ | refine Below.drew ?_ | refine Below.trans ?_ (below_drewN _ _ _) | refine Below.alloc ?_ (by first | exact Nat.le_refl _ | (simp; done) | (simp; omega)) _)) HB.out.size)).cell (p := ⟨b0, off0 + 1, none⟩) HBL.out).trans HQ2.out, ((Bs.of_own H3.out).below (HBz.out.trans (Below.mono (by repeat (first | exact Below.refl _ _ | refine Below.drew ?_ | refine Below.trans ?_ (below_drewN _ _ _) | refine Below.alloc ?_ (by first | exact Nat.le_refl _ | (simp; done) | (simp; omega)) _)) HBz.out.size))), ((Bs.of_own H8.out).below (HBz.out.trans (Below.mono (by repeat (first | exact Below.refl _ _ | refine Below.drew ?_ | refine Below.trans ?_ (below_drewN _ _ _) | refine Below.alloc ?_ (by first | exact Nat.le_refl _ | (simp; done) | (simp; omega)) _)) HBz.out.size))), HBS.out.below (HB.out.trans (Below.mono (by repeat (first | exact Below.refl _ _ | refine Below.drew ?_ | refine Below.trans ?_ (below_drewN _ _ _) | refine Below.alloc ?_ (by first | exact Nat.le_refl _ | (simp; done) | (simp; omega)) _)) HB.out.size))⟩)
                clear hK K
                try simp only [Act.put, List.setIfInBounds_toArray, List.set_cons_zero, List.set_cons_succ]
                refine wpAnyH_ready (rs := [5]) (by kernel_rfl) (by simp) ?_
                refine (AllReadyH.cons (o := { dst := some 112, op := Op.convert 25 9 (Operand.tmp 111), type := 9, pos := "law.go:157", after := #[{ on := 4, ground := Ground.data }], guard := none }) rfl (fun K hK => ?_) AllReadyH.nil)
                (go_must (refine step_str elB.1 (by kernel_rfl) (by kernel_rfl) rfl (.tmp 111) rfl rfl (H9.out.below (by repeat (first | exact Below.refl _ _ | refine Below.drew ?_ | refine Below.trans ?_ (below_drewN _ _ _) | refine Below.alloc ?_ (by first | exact Nat.le_refl _ | (simp; done) | (simp; omega)) _))) ?_))
                refine hK.out _ _ ?_ (fun hHeld => ?_)
                focus (exact ⟨((HB.out.trans (Below.mono (by repeat (first | exact Below.refl _ _ | refine Below.drew ?_ | refine Below.trans ?_ (below_drewN _ _ _) | refine Below.alloc ?_ (by first | exact Nat.le_refl _ | (simp; done) | (simp; omega)) _)) HB.out.size)).cell (p := ⟨b0, off0 + 1, none⟩) HBL.out).trans HQ2.out, ((Bs.of_own H3.out).below (HBz.out.trans (Below.mono (by repeat (first | exact Below.refl _ _ | refine Below.drew ?_ | refine Below.trans ?_ (below_drewN _ _ _) | refine Below.alloc ?_ (by first | exact Nat.le_refl _ | (simp; done) | (simp; omega)) _)) HBz.out.size))), ((Bs.of_own H8.out).below (HBz.out.trans (Below.mono (by repeat (first | exact Below.refl _ _ | refine Below.drew ?_ | refine Below.trans ?_ (below_drewN _ _ _) | refine Below.alloc ?_ (by first | exact Nat.le_refl _ | (simp; done) | (simp; omega)) _)) HBz.out.size))), HBS.out.below (HB.out.trans (Below.mono (by repeat (first | exact Below.refl _ _ | refine Below.drew ?_ | refine Below.trans ?_ (below_drewN _ _ _) | refine Below.alloc ?_ (by first | exact Nat.le_refl _ | (simp; done) | (simp; omega)) _)) HB.out.size))⟩)
                clear hK K
                try simp only [Act.put, List.setIfInBounds_toArray, List.set_cons_zero, List.set_cons_succ]
                refine wpAnyH_take (i := 6) (oi := { dst := some 113, op := Op.binOp BinOp.neq 9 (Operand.tmp 108) (Operand.tmp 112) 9, type := 4, pos := "law.go:157", after := #[{ on := 1, ground := Ground.data }, { on := 5, ground := Ground.data }], guard := none }) (v := ?_) rfl (by kernel_rfl) (by kernel_rfl) (by kernel_rfl) (fun _ _ _ h => h) (Or.inl ⟨by rfl, ?_⟩) hHeld ?_; rotate_left; focus (intro w hSw; (try dsimp only at hSw); go_simp; try with_reducible rfl)
                simp only [Act.put, List.setIfInBounds_toArray, List.set_cons_zero, List.set_cons_succ]
                refine wpAnyH_take (i := 7) (oi := { dst := some 114, op := Op.move (Operand.tmp 113), type := 4, pos := "law.go:157", after := #[{ on := 6, ground := Ground.data }, { on := 4, ground := Ground.chain }], guard := none }) (v := ?_) rfl (by kernel_rfl) (by kernel_rfl) (by kernel_rfl) (fun _ _ _ h => h) (Or.inl ⟨by rfl, ?_⟩) hHeld ?_; rotate_left; focus (intro w hSw; (try dsimp only at hSw); go_simp; try with_reducible rfl)
                simp only [Act.put, List.setIfInBounds_toArray, List.set_cons_zero, List.set_cons_succ]
                first | (refine wpAnyH_take (i := 8) (oi := { dst := some 115, op := Op.move (Operand.tmp 0), type := 22, pos := "law.go:157", after := #[{ on := 7, ground := Ground.guard }], guard := some (7, false) }) (v := undef) rfl (by kernel_rfl) (by kernel_rfl) (by kernel_rfl) (fun _ _ _ h => h) (Or.inr ⟨by rfl, rfl⟩) hHeld ?_) | (refine wpAnyH_take (i := 8) (oi := { dst := some 115, op := Op.move (Operand.tmp 0), type := 22, pos := "law.go:157", after := #[{ on := 7, ground := Ground.guard }], guard := some (7, false) }) (v := ?_) rfl (by kernel_rfl) (by kernel_rfl) (by kernel_rfl) (fun _ _ _ h => h) (Or.inl ⟨by rfl, ?_⟩) hHeld ?_; rotate_left; focus (intro w hSw; (try dsimp only at hSw); go_simp; try with_reducible rfl))
                simp only [Act.put, List.setIfInBounds_toArray, List.set_cons_zero, List.set_cons_succ]
                first | (refine wpAnyH_take (i := 9) (oi := { dst := some 116, op := Op.call { callee := Callee.builtin Builtin.len, args := #[Operand.tmp 115], argTypes := #[22] }, type := 3, pos := "law.go:157", after := #[{ on := 8, ground := Ground.data }, { on := 7, ground := Ground.guard }], guard := some (7, false) }) (v := undef) rfl (by kernel_rfl) (by kernel_rfl) (by kernel_rfl) (fun _ _ _ h => h) (Or.inr ⟨by rfl, rfl⟩) hHeld ?_) | (refine wpAnyH_take (i := 9) (oi := { dst := some 116, op := Op.call { callee := Callee.builtin Builtin.len, args := #[Operand.tmp 115], argTypes := #[22] }, type := 3, pos := "law.go:157", after := #[{ on := 8, ground := Ground.data }, { on := 7, ground := Ground.guard }], guard := some (7, false) }) (v := ?_) rfl (by kernel_rfl) (by kernel_rfl) (by kernel_rfl) (fun _ _ _ h => h) (Or.inl ⟨by rfl, ?_⟩) hHeld ?_; rotate_left; focus (intro w hSw; (try dsimp only at hSw); go_simp; try with_reducible rfl))
                simp only [Act.put, List.setIfInBounds_toArray, List.set_cons_zero, List.set_cons_succ]
                first | (refine wpAnyH_take (i := 10) (oi := { dst := some 117, op := Op.binOp BinOp.gtr 3 (Operand.tmp 116) (Operand.const (Value.int IntKind.i64 0)) 3, type := 4, pos := "law.go:157", after := #[{ on := 9, ground := Ground.data }, { on := 7, ground := Ground.guard }], guard := some (7, false) }) (v := undef) rfl (by kernel_rfl) (by kernel_rfl) (by kernel_rfl) (fun _ _ _ h => h) (Or.inr ⟨by rfl, rfl⟩) hHeld ?_) | (refine wpAnyH_take (i := 10) (oi := { dst := some 117, op := Op.binOp BinOp.gtr 3 (Operand.tmp 116) (Operand.const (Value.int IntKind.i64 0)) 3, type := 4, pos := "law.go:157", after := #[{ on := 9, ground := Ground.data }, { on := 7, ground := Ground.guard }], guard := some (7, false) }) (v := ?_) rfl (by kernel_rfl) (by kernel_rfl) (by kernel_rfl) (fun _ _ _ h => h) (Or.inl ⟨by rfl, ?_⟩) hHeld ?_; rotate_left; focus (intro w hSw; (try dsimp only at hSw); go_simp; try with_reducible rfl))
                simp only [Act.put, List.setIfInBounds_toArray, List.set_cons_zero, List.set_cons_succ]
                first | (refine wpAnyH_take (i := 11) (oi := { dst := some 118, op := Op.move (Operand.tmp 117), type := 4, pos := "law.go:157", after := #[{ on := 10, ground := Ground.data }, { on := 7, ground := Ground.chain }, { on := 7, ground := Ground.guard }], guard := some (7, false) }) (v := undef) rfl (by kernel_rfl) (by kernel_rfl) (by kernel_rfl) (fun _ _ _ h => h) (Or.inr ⟨by rfl, rfl⟩) hHeld ?_) | (refine wpAnyH_take (i := 11) (oi := { dst := some 118, op := Op.move (Operand.tmp 117), type := 4, pos := "law.go:157", after := #[{ on := 10, ground := Ground.data }, { on := 7, ground := Ground.chain }, { on := 7, ground := Ground.guard }], guard := some (7, false) }) (v := ?_) rfl (by kernel_rfl) (by kernel_rfl) (by kernel_rfl) (fun _ _ _ h => h) (Or.inl ⟨by rfl, ?_⟩) hHeld ?_; rotate_left; focus (intro w hSw; (try dsimp only at hSw); go_simp; try with_reducible rfl))
                simp only [Act.put, List.setIfInBounds_toArray, List.set_cons_zero, List.set_cons_succ]
                first | (refine wpAnyH_take (i := 12) (oi := { dst := some 119, op := Op.move (Operand.tmp 9), type := 25, pos := "law.go:157", after := #[{ on := 11, ground := Ground.guard }], guard := some (11, true) }) (v := undef) rfl (by kernel_rfl) (by kernel_rfl) (by kernel_rfl) (fun _ _ _ h => h) (Or.inr ⟨by rfl, rfl⟩) hHeld ?_) | (refine wpAnyH_take (i := 12) (oi := { dst := some 119, op := Op.move (Operand.tmp 9), type := 25, pos := "law.go:157", after := #[{ on := 11, ground := Ground.guard }], guard := some (11, true) }) (v := ?_) rfl (by kernel_rfl) (by kernel_rfl) (by kernel_rfl) (fun _ _ _ h => h) (Or.inl ⟨by rfl, ?_⟩) hHeld ?_; rotate_left; focus (intro w hSw; (try dsimp only at hSw); go_simp; try with_reducible rfl))
                simp only [Act.put, List.setIfInBounds_toArray, List.set_cons_zero, List.set_cons_succ]
                first | (refine wpAnyH_take (i := 13) (oi := { dst := some 120, op := Op.convert 25 9 (Operand.tmp 119), type := 9, pos := "law.go:157", after := #[{ on := 12, ground := Ground.data }, { on := 11, ground := Ground.guard }], guard := some (11, true) }) (v := undef) rfl (by kernel_rfl) (by kernel_rfl) (by kernel_rfl) (fun _ _ _ h => h) (Or.inr ⟨by rfl, rfl⟩) hHeld ?_) | (refine' wpAnyH_take (i := 13) (oi := { dst := some 120, op := Op.convert 25 9 (Operand.tmp 119), type := 9, pos := "law.go:157", after := #[{ on := 12, ground := Ground.data }, { on := 11, ground := Ground.guard }], guard := some (11, true) }) (v := _) rfl (by kernel_rfl) (by kernel_rfl) (by kernel_rfl) (fun _ _ _ h => h) (yields_str elB.1 (by kernel_rfl) (by kernel_rfl) (by rfl) _ rfl rfl (fun v h => h.2.2.1)) hHeld ?_)
                simp only [Act.put, List.setIfInBounds_toArray, List.set_cons_zero, List.set_cons_succ]
                first | (refine wpAnyH_take (i := 14) (oi := { dst := some 121, op := Op.move (Operand.tmp 0), type := 22, pos := "law.go:157", after := #[{ on := 11, ground := Ground.guard }], guard := some (11, true) }) (v := undef) rfl (by kernel_rfl) (by kernel_rfl) (by kernel_rfl) (fun _ _ _ h => h) (Or.inr ⟨by rfl, rfl⟩) hHeld ?_) | (refine wpAnyH_take (i := 14) (oi := { dst := some 121, op := Op.move (Operand.tmp 0), type := 22, pos := "law.go:157", after := #[{ on := 11, ground := Ground.guard }], guard := some (11, true) }) (v := ?_) rfl (by kernel_rfl) (by kernel_rfl) (by kernel_rfl) (fun _ _ _ h => h) (Or.inl ⟨by rfl, ?_⟩) hHeld ?_; rotate_left; focus (intro w hSw; (try dsimp only at hSw); go_simp; try with_reducible rfl))
                simp only [Act.put, List.setIfInBounds_toArray, List.set_cons_zero, List.set_cons_succ]
                first | (refine wpAnyH_take (i := 15) (oi := { dst := some 122, op := Op.indexAddr 22 (Operand.tmp 121) (Operand.const (Value.int IntKind.i64 0)), type := 0, pos := "law.go:157", after := #[{ on := 14, ground := Ground.data }, { on := 11, ground := Ground.guard }], guard := some (11, true) }) (v := undef) rfl (by kernel_rfl) (by kernel_rfl) (by kernel_rfl) (fun _ _ _ h => h) (Or.inr ⟨by rfl, rfl⟩) hHeld ?_) | (refine wpAnyH_take (i := 15) (oi := { dst := some 122, op := Op.indexAddr 22 (Operand.tmp 121) (Operand.const (Value.int IntKind.i64 0)), type := 0, pos := "law.go:157", after := #[{ on := 14, ground := Ground.data }, { on := 11, ground := Ground.guard }], guard := some (11, true) }) (v := ?_) rfl (by kernel_rfl) (by kernel_rfl) (by kernel_rfl) (fun _ _ _ h => h) (Or.inl ⟨by rfl, ?_⟩) hHeld ?_; rotate_left; focus (intro w hSw; (try dsimp only at hSw); go_simp; try with_reducible rfl))
                simp only [Act.put, List.setIfInBounds_toArray, List.set_cons_zero, List.set_cons_succ]
                first | (refine wpAnyH_take (i := 16) (oi := { dst := some 123, op := Op.fieldAddr 43 (Operand.tmp 122) 1, type := 0, pos := "law.go:157", after := #[{ on := 15, ground := Ground.data }, { on := 11, ground := Ground.guard }], guard := some (11, true) }) (v := undef) rfl (by kernel_rfl) (by kernel_rfl) (by kernel_rfl) (fun _ _ _ h => h) (Or.inr ⟨by rfl, rfl⟩) hHeld ?_) | (refine wpAnyH_take (i := 16) (oi := { dst := some 123, op := Op.fieldAddr 43 (Operand.tmp 122) 1, type := 0, pos := "law.go:157", after := #[{ on := 15, ground := Ground.data }, { on := 11, ground := Ground.guard }], guard := some (11, true) }) (v := ?_) rfl (by kernel_rfl) (by kernel_rfl) (by kernel_rfl) (fun _ _ _ h => h) (Or.inl ⟨by rfl, ?_⟩) hHeld ?_; rotate_left; focus (intro w hSw; (try dsimp only at hSw); go_simp; try with_reducible rfl))
                simp only [Act.put, List.setIfInBounds_toArray, List.set_cons_zero, List.set_cons_succ]
                first | (refine wpAnyH_take (i := 17) (oi := { dst := some 124, op := Op.load 25 (Operand.tmp 123), type := 25, pos := "law.go:157", after := #[{ on := 16, ground := Ground.data }, { on := 11, ground := Ground.guard }], guard := some (11, true) }) (v := undef) rfl (by kernel_rfl) (by kernel_rfl) (by kernel_rfl) (fun _ _ _ h => h) (Or.inr ⟨by rfl, rfl⟩) hHeld ?_) | (refine wpAnyH_take (i := 17) (oi := { dst := some 124, op := Op.load 25 (Operand.tmp 123), type := 25, pos := "law.go:157", after := #[{ on := 16, ground := Ground.data }, { on := 11, ground := Ground.guard }], guard := some (11, true) }) (v := ?_) rfl (by kernel_rfl) (by kernel_rfl) (by kernel_rfl) (fun _ _ _ h => h) (Or.inl ⟨by rfl, ?_⟩) hHeld ?_; rotate_left; focus (intro w hSw; (try dsimp only at hSw); go_simp; try with_reducible rfl))
                simp only [Act.put, List.setIfInBounds_toArray, List.set_cons_zero, List.set_cons_succ]
                first | (refine wpAnyH_take (i := 18) (oi := { dst := some 125, op := Op.convert 25 9 (Operand.tmp 124), type := 9, pos := "law.go:157", after := #[{ on := 17, ground := Ground.data }, { on := 11, ground := Ground.guard }], guard := some (11, true) }) (v := undef) rfl (by kernel_rfl) (by kernel_rfl) (by kernel_rfl) (fun _ _ _ h => h) (Or.inr ⟨by rfl, rfl⟩) hHeld ?_) | (refine' wpAnyH_take (i := 18) (oi := { dst := some 125, op := Op.convert 25 9 (Operand.tmp 124), type := 9, pos := "law.go:157", after := #[{ on := 17, ground := Ground.data }, { on := 11, ground := Ground.guard }], guard := some (11, true) }) (v := _) rfl (by kernel_rfl) (by kernel_rfl) (by kernel_rfl) (fun _ _ _ h => h) (yields_str elB.1 (by kernel_rfl) (by kernel_rfl) (by rfl) _ rfl rfl (fun v h => h.2.2.2)) hHeld ?_)
                simp only [Act.put, List.setIfInBounds_toArray, List.set_cons_zero, List.set_cons_succ]
                first | (refine wpAnyH_take (i := 19) (oi := { dst := some 126, op := Op.binOp BinOp.neq 9 (Operand.tmp 120) (Operand.tmp 125) 9, type := 4, pos := "law.go:157", after := #[{ on := 13, ground := Ground.data }, { on := 18, ground := Ground.data }, { on := 11, ground := Ground.guard }], guard := some (11, true) }) (v := undef) rfl (by kernel_rfl) (by kernel_rfl) (by kernel_rfl) (fun _ _ _ h => h) (Or.inr ⟨by rfl, rfl⟩) hHeld ?_) | (refine wpAnyH_take (i := 19) (oi := { dst := some 126, op := Op.binOp BinOp.neq 9 (Operand.tmp 120) (Operand.tmp 125) 9, type := 4, pos := "law.go:157", after := #[{ on := 13, ground := Ground.data }, { on := 18, ground := Ground.data }, { on := 11, ground := Ground.guard }], guard := some (11, true) }) (v := ?_) rfl (by kernel_rfl) (by kernel_rfl) (by kernel_rfl) (fun _ _ _ h => h) (Or.inl ⟨by rfl, ?_⟩) hHeld ?_; rotate_left; focus (intro w hSw; (try dsimp only at hSw); go_simp; try with_reducible rfl))
                simp only [Act.put, List.setIfInBounds_toArray, List.set_cons_zero, List.set_cons_succ]
                first | (refine wpAnyH_take (i := 20) (oi := { dst := some 127, op := Op.pick (Operand.tmp 118) (Operand.tmp 126) (Operand.const (Value.bool false)), type := 4, pos := "law.go:157", after := #[{ on := 11, ground := Ground.data }, { on := 19, ground := Ground.data }, { on := 7, ground := Ground.guard }], guard := some (7, false) }) (v := undef) rfl (by kernel_rfl) (by kernel_rfl) (by kernel_rfl) (fun _ _ _ h => h) (Or.inr ⟨by rfl, rfl⟩) hHeld ?_) | (refine wpAnyH_take (i := 20) (oi := { dst := some 127, op := Op.pick (Operand.tmp 118) (Operand.tmp 126) (Operand.const (Value.bool false)), type := 4, pos := "law.go:157", after := #[{ on := 11, ground := Ground.data }, { on := 19, ground := Ground.data }, { on := 7, ground := Ground.guard }], guard := some (7, false) }) (v := ?_) rfl (by kernel_rfl) (by kernel_rfl) (by kernel_rfl) (fun _ _ _ h => h) (Or.inl ⟨by rfl, ?_⟩) hHeld ?_; rotate_left; focus (intro w hSw; (try dsimp only at hSw); go_simp; try with_reducible rfl))
                simp only [Act.put, List.setIfInBounds_toArray, List.set_cons_zero, List.set_cons_succ]
                refine wpAnyH_take (i := 21) (oi := { dst := some 128, op := Op.pick (Operand.tmp 114) (Operand.const (Value.bool true)) (Operand.tmp 127), type := 4, pos := "law.go:157", after := #[{ on := 7, ground := Ground.data }, { on := 20, ground := Ground.data }], guard := none }) (v := ?_) rfl (by kernel_rfl) (by kernel_rfl) (by kernel_rfl) (fun _ _ _ h => h) (Or.inl ⟨by rfl, ?_⟩) hHeld ?_; rotate_left; focus (intro w hSw; (try dsimp only at hSw); go_simp; try with_reducible rfl)
                simp only [Act.put, List.setIfInBounds_toArray, List.set_cons_zero, List.set_cons_succ]
                refine wpAnyH_done (by kernel_rfl) ?_ _
                all_goals
                  go_wp2_with (first
                    | (go_at_call 15; have HZz := Lib.hid (HBz.out.trans (Below.mono (by repeat (first | exact Below.refl _ _ | refine Below.drew ?_ | refine Below.trans ?_ (below_drewN _ _ _) | refine Below.alloc ?_ (by first | exact Nat.le_refl _ | (simp; done) | (simp; omega)) _)) HBz.out.size)).size; go_must (refine (read_any ad3 N c3 P big _ ((Bs.of_own H3.out).below (HBz.out.trans (Below.mono (by repeat (first | exact Below.refl _ _ | refine Below.drew ?_ | refine Below.trans ?_ (below_drewN _ _ _) | refine Below.alloc ?_ (by first | exact Nat.le_refl _ | (simp; done) | (simp; omega)) _)) HBz.out.size))) (by omega)).mono ?_); intro e w10 hr; rw [R1.out] at hr; obtain ⟨ad10, n10, c10, os10, rfl, how, hv, hb⟩ := hr; have H10 := Lib.hid (how.base HZz.out); have HV10 := Lib.hid hv; have hE__ := cU HB (by repeat (first | exact Below.refl _ _ | refine Below.drew ?_ | refine Below.trans ?_ (below_drewN _ _ _) | refine Below.alloc ?_ (by first | exact Nat.le_refl _ | (simp; done) | (simp; omega)) _)) hb; (first | replace HB := cK1 HB hE__); (first | replace HBz := cK1 HBz hE__ | replace HBz := cB1 HBz hE__ | replace HBz := cO1 HBz hE__ | replace HBz := cG1 HBz hE__ | replace HBz := cW1 HBz hE__ | replace HBz := cV1 HBz hE__ | replace HBz := cP1 HBz hE__); clear hE__; clear hb how hv HZz)
                    | ((with_reducible show wpList _ _ _ (⟨none, .store _ _ (.tmp 134), _, _, _, _⟩ :: _) _ _); go_must (refine wpL_storeS (T := 33) (q := (0, 0)) rfl 33 (.tmp 13) (.tmp 134) rfl w10.heap.size (0, 0) rfl rfl (heap_alloc_last w10 _) HI.out ?_); intro w11 hg5 hgr5; have hb5 : Below w10.heap.size w10 w11 := ((Below.refl w10.heap.size w10).alloc (Nat.le_refl _) _).grown hgr5 (by simp) (fun k e => by cases e; exact Nat.le_refl _); have hE__ := cU HB (by repeat (first | exact Below.refl _ _ | refine Below.drew ?_ | refine Below.trans ?_ (below_drewN _ _ _) | refine Below.alloc ?_ (by first | exact Nat.le_refl _ | (simp; done) | (simp; omega)) _)) hb5; (first | replace HB := cK1 HB hE__); (first | replace HBz := cK1 HBz hE__ | replace HBz := cB1 HBz hE__ | replace HBz := cO1 HBz hE__ | replace HBz := cG1 HBz hE__ | replace HBz := cW1 HBz hE__ | replace HBz := cV1 HBz hE__ | replace HBz := cP1 HBz hE__); (first | replace H10 := cB1 H10 hE__ | replace H10 := cO1 H10 hE__ | replace H10 := cG1 H10 hE__ | replace H10 := cW1 H10 hE__ | replace H10 := cV1 H10 hE__ | replace H10 := cP1 H10 hE__ | replace H10 := cK1 H10 hE__); clear hE__; clear hg5 hgr5 hb5; simp only [Act.put, List.setIfInBounds_toArray, List.set_cons_zero, List.set_cons_succ])
                    | (go_at_call 17; have HZz := Lib.hid (HBz.out.trans (Below.mono (by repeat (first | exact Below.refl _ _ | refine Below.drew ?_ | refine Below.trans ?_ (below_drewN _ _ _) | refine Below.alloc ?_ (by first | exact Nat.le_refl _ | (simp; done) | (simp; omega)) _)) HBz.out.size)).size; go_must (refine (rowsO_any ad3 N c3 P big _ ((Bs.of_own H3.out).below (HBz.out.trans (Below.mono (by repeat (first | exact Below.refl _ _ | refine Below.drew ?_ | refine Below.trans ?_ (below_drewN _ _ _) | refine Below.alloc ?_ (by first | exact Nat.le_refl _ | (simp; done) | (simp; omega)) _)) HBz.out.size))) (by omega)).mono ?_); intro e w12 hr; rw [R4.out HNP.out] at hr; obtain ⟨ad12, n12, c12, os12, rfl, how, hv, hb⟩ := hr; have H12 := Lib.hid (how.base HZz.out); have HV12 := Lib.hid hv; have hE__ := cU HB (by repeat (first | exact Below.refl _ _ | refine Below.drew ?_ | refine Below.trans ?_ (below_drewN _ _ _) | refine Below.alloc ?_ (by first | exact Nat.le_refl _ | (simp; done) | (simp; omega)) _)) hb; (first | replace HB := cK1 HB hE__); (first | replace HBz := cK1 HBz hE__ | replace HBz := cB1 HBz hE__ | replace HBz := cO1 HBz hE__ | replace HBz := cG1 HBz hE__ | replace HBz := cW1 HBz hE__ | replace HBz := cV1 HBz hE__ | replace HBz := cP1 HBz hE__); (first | replace H10 := cB1 H10 hE__ | replace H10 := cO1 H10 hE__ | replace H10 := cG1 H10 hE__ | replace H10 := cW1 H10 hE__ | replace H10 := cV1 H10 hE__ | replace H10 := cP1 H10 hE__ | replace H10 := cK1 H10 hE__); clear hE__; clear hb how hv HZz)
                    | ((with_reducible show wpList _ _ _ (⟨none, .store _ _ (.tmp 141), _, _, _, _⟩ :: _) _ _); go_must (refine wpL_storeS (T := 33) (q := (0, 0)) rfl 33 (.tmp 16) (.tmp 141) rfl w12.heap.size (0, 0) rfl rfl (heap_alloc_last w12 _) HI.out ?_); intro w13 hg5 hgr5; have hb5 : Below w12.heap.size w12 w13 := ((Below.refl w12.heap.size w12).alloc (Nat.le_refl _) _).grown hgr5 (by simp) (fun k e => by cases e; exact Nat.le_refl _); have hE__ := cU HB (by repeat (first | exact Below.refl _ _ | refine Below.drew ?_ | refine Below.trans ?_ (below_drewN _ _ _) | refine Below.alloc ?_ (by first | exact Nat.le_refl _ | (simp; done) | (simp; omega)) _)) hb5; (first | replace HB := cK1 HB hE__); (first | replace HBz := cK1 HBz hE__ | replace HBz := cB1 HBz hE__ | replace HBz := cO1 HBz hE__ | replace HBz := cG1 HBz hE__ | replace HBz := cW1 HBz hE__ | replace HBz := cV1 HBz hE__ | replace HBz := cP1 HBz hE__); (first | replace H10 := cB1 H10 hE__ | replace H10 := cO1 H10 hE__ | replace H10 := cG1 H10 hE__ | replace H10 := cW1 H10 hE__ | replace H10 := cV1 H10 hE__ | replace H10 := cP1 H10 hE__ | replace H10 := cK1 H10 hE__); (first | replace H12 := cB1 H12 hE__ | replace H12 := cO1 H12 hE__ | replace H12 := cG1 H12 hE__ | replace H12 := cW1 H12 hE__ | replace H12 := cV1 H12 hE__ | replace H12 := cP1 H12 hE__ | replace H12 := cK1 H12 hE__); clear hE__; clear hg5 hgr5 hb5; simp only [Act.put, List.setIfInBounds_toArray, List.set_cons_zero, List.set_cons_succ]))
                  have H3e := Lib.hid (own_keep H3.out HBz.out)
                  have HZw := Lib.hid HBz.out.size
                  go_loopw [17] (fun i wr4 => ∃ (j : Nat) (L : List UInt8), i = .int .i64 j ∧ wr4.ownsRow wv.heap.size 5 1 (.slice ad3 N c3) N (BV L) ∧ OwnOps 43 wz.heap.size wr4 ad10 n10 c10 os10 ∧ OwnOps 43 wz.heap.size wr4 ad12 n12 c12 os12 ∧ Below w.heap.size w wr4) (fun i _ => N - (intOf i).toNat)
                  case atStart => exact ⟨0, P, rfl, H3e.out, H10.out, H12.out, HB.out⟩
                  case round =>
                    obtain ⟨j, L, rfl, h3, h10, h12, hb⟩ := hrel
                    clear H3e H10 H12 HB
                    by_cases hj : j < N
                    · obtain ⟨g3, hg3, hg31⟩ : ∃ g, ad3 = some ⟨g, 0, none⟩ ∧ wv.heap.size ≤ g := by
                        rcases own_form h3 with ⟨_, h0, _⟩ | ⟨g, h1, h2, h3⟩
                        · omega
                        · exact ⟨g, h1, h2⟩
                      have hgz := HG3.out g3 hg3
                      rw [hg3] at h3
                      have k1 := own_cell h3 hj
                      have ff := h3.frozenAt j
                      have o2 := own_store h3 j 0
                      rw [show ((0 : UInt8).toNat : Int) = 0 from rfl] at o2
                      have HO2 := Lib.hid o2.1
                      have HO10 := Lib.hid (h10.other o2.2 hgz); have HO12 := Lib.hid (h12.other o2.2 hgz); have HB2 := Lib.hid (hb.grown o2.2 hb.size (fun q e => by cases e; exact Nat.le_trans HZv.out hg31))
                      subst hg3
                      clear h3 h10 h12 hb o2 H3 HG3
                      go_wp2_with fail
                      go_roundw
                      case rel => exact ⟨j + 1, _, by go_num, HO2.out, HO10.out, HO12.out, HB2.out⟩
                      case measure => first | (simp [intOf]; done) | (simp [intOf]; omega)
                    · have H10 := Lib.hid h10; have H12 := Lib.hid h12; have HB := Lib.hid hb
                      clear h3 h10 h12 hb
                      go_wp2_with (first
                        | (go_at_call 19; (with_reducible show Calls _ _ #[Value.slice ad10 _ _, _] _ _); go_must (refine (refSame_any ad10 n10 c10 os10 (some ⟨b0, off0, none⟩) n c os _ (H10.out.ops.below (by repeat (first | exact Below.refl _ _ | refine Below.drew ?_ | refine Below.trans ?_ (below_drewN _ _ _) | refine Below.alloc ?_ (by first | exact Nat.le_refl _ | (simp; done) | (simp; omega)) _))) (HS.out.below (HB.out.trans (Below.mono (by repeat (first | exact Below.refl _ _ | refine Below.drew ?_ | refine Below.trans ?_ (below_drewN _ _ _) | refine Below.alloc ?_ (by first | exact Nat.le_refl _ | (simp; done) | (simp; omega)) _)) HB.out.size)))).mono ?_); intro e w20 hr; rw [HV10.out, show decide (vals os = vals os) = true by simp] at hr; obtain ⟨rfl, hb⟩ := hr; have hE__ := cU HB (by repeat (first | exact Below.refl _ _ | refine Below.drew ?_ | refine Below.trans ?_ (below_drewN _ _ _) | refine Below.alloc ?_ (by first | exact Nat.le_refl _ | (simp; done) | (simp; omega)) _)) hb; (first | replace HB := cK1 HB hE__); (first | replace H12 := cB1 H12 hE__ | replace H12 := cO1 H12 hE__ | replace H12 := cG1 H12 hE__ | replace H12 := cW1 H12 hE__ | replace H12 := cV1 H12 hE__ | replace H12 := cP1 H12 hE__ | replace H12 := cK1 H12 hE__); clear hE__; clear hb)
                        | (go_at_call 19; (with_reducible show Calls _ _ #[Value.slice ad12 _ _, _] _ _); go_must (refine (refSame_any ad12 n12 c12 os12 (some ⟨b0, off0, none⟩) n c os _ (H12.out.ops.below (by repeat (first | exact Below.refl _ _ | refine Below.drew ?_ | refine Below.trans ?_ (below_drewN _ _ _) | refine Below.alloc ?_ (by first | exact Nat.le_refl _ | (simp; done) | (simp; omega)) _))) (HS.out.below (HB.out.trans (Below.mono (by repeat (first | exact Below.refl _ _ | refine Below.drew ?_ | refine Below.trans ?_ (below_drewN _ _ _) | refine Below.alloc ?_ (by first | exact Nat.le_refl _ | (simp; done) | (simp; omega)) _)) HB.out.size)))).mono ?_); intro e w21 hr; rw [HV12.out, show decide (vals os = vals os) = true by simp] at hr; obtain ⟨rfl, hb⟩ := hr; have hE__ := cU HB (by repeat (first | exact Below.refl _ _ | refine Below.drew ?_ | refine Below.trans ?_ (below_drewN _ _ _) | refine Below.alloc ?_ (by first | exact Nat.le_refl _ | (simp; done) | (simp; omega)) _)) hb; (first | replace HB := cK1 HB hE__); clear hE__; clear hb))
                      go_ret
                      exact ⟨rfl, HB.out.trans (Below.mono (by repeat (first | exact Below.refl _ _ | refine Below.drew ?_ | refine Below.trans ?_ (below_drewN _ _ _) | refine Below.alloc ?_ (by first | exact Nat.le_refl _ | (simp; done) | (simp; omega)) _)) HB.out.size)⟩
          · obtain rfl : n = 0 := by omega
            have HE : Hid (P = []) := Lib.hid (by
              have h1 : os = [] := List.eq_nil_of_length_eq_zero (by have := HN.out; omega)
              rw [HP.out, h1]; rfl)
            obtain rfl : N = 0 := by rw [← HPN.out, HE.out]; rfl
            have h0' : os1 = [] := List.eq_nil_of_length_eq_zero (by have := HN1.out; omega)
            go_wp2_with (first
              | (go_at_call 11; go_must (refine (optPut_any ad1 0 c1 os1 big _ (HW.out.ops.below (HBr.out.trans (Below.mono (by repeat (first | exact Below.refl _ _ | refine Below.drew ?_ | refine Below.trans ?_ (below_drewN _ _ _) | refine Below.alloc ?_ (by first | exact Nat.le_refl _ | (simp; done) | (simp; omega)) _)) HBr.out.size))) (by rw [HV.out]; have := HZ.out; omega)).mono ?_); intro e w3 hr3; rw [HV.out, HX.out, ← HP.out, HPN.out] at hr3; obtain ⟨hb3, h3⟩ := hr3; rcases h3 with ⟨h3, _⟩ | ⟨_, ad3, c3, rfl, ho3⟩; exact absurd rfl h3; have H3 := Lib.hid ho3; have hE__ := cU HB (by repeat (first | exact Below.refl _ _ | refine Below.drew ?_ | refine Below.trans ?_ (below_drewN _ _ _) | refine Below.alloc ?_ (by first | exact Nat.le_refl _ | (simp; done) | (simp; omega)) _)) hb3; (first | replace HB := cK1 HB hE__); (first | replace HBr := cK1 HBr hE__ | replace HBr := cB1 HBr hE__ | replace HBr := cO1 HBr hE__ | replace HBr := cG1 HBr hE__ | replace HBr := cW1 HBr hE__ | replace HBr := cV1 HBr hE__ | replace HBr := cP1 HBr hE__); clear hE__; clear hb3 ho3)
              | (go_at_call 19; go_must (refine (refSame_any ad1 0 c1 os1 ad 0 c os _ (HW.out.ops.below (HBr.out.trans (Below.mono (by repeat (first | exact Below.refl _ _ | refine Below.drew ?_ | refine Below.trans ?_ (below_drewN _ _ _) | refine Below.alloc ?_ (by first | exact Nat.le_refl _ | (simp; done) | (simp; omega)) _)) HBr.out.size))) (HS.out.below (HB.out.trans (Below.mono (by repeat (first | exact Below.refl _ _ | refine Below.drew ?_ | refine Below.trans ?_ (below_drewN _ _ _) | refine Below.alloc ?_ (by first | exact Nat.le_refl _ | (simp; done) | (simp; omega)) _)) HB.out.size)))).mono ?_); intro e w4 hr; rw [HV.out, show decide (vals os = vals os) = true by simp] at hr; obtain ⟨rfl, hb⟩ := hr; have hE__ := cU HB (by repeat (first | exact Below.refl _ _ | refine Below.drew ?_ | refine Below.trans ?_ (below_drewN _ _ _) | refine Below.alloc ?_ (by first | exact Nat.le_refl _ | (simp; done) | (simp; omega)) _)) hb; (first | replace HB := cK1 HB hE__); (first | replace HBr := cK1 HBr hE__ | replace HBr := cB1 HBr hE__ | replace HBr := cO1 HBr hE__ | replace HBr := cG1 HBr hE__ | replace HBr := cW1 HBr hE__ | replace HBr := cV1 HBr hE__ | replace HBr := cP1 HBr hE__); (first | replace H3 := cB1 H3 hE__ | replace H3 := cO1 H3 hE__ | replace H3 := cG1 H3 hE__ | replace H3 := cW1 H3 hE__ | replace H3 := cV1 H3 hE__ | replace H3 := cP1 H3 hE__ | replace H3 := cK1 H3 hE__); clear hE__; clear hb))
            have HWk := Lib.hid (HW.out.keep HBr.out)
            go_loopw [10] (fun i wr2 => ∃ (k : Nat) (os2 : List OptV), k ≤ 0 ∧ i = .int .i64 k ∧ OwnV 43 5 w.heap.size wr2 ad1 0 c1 os2 ∧ Hid (ocells os2 = ocells os1) ∧ wr2.ownsRow wv.heap.size 5 1 (.slice ad3 0 c3) 0 (BV P) ∧ Below w.heap.size w wr2) (fun i _ => 0 - (intOf i).toNat)
            case atStart => exact ⟨0, os1, by omega, rfl, HWk.out, Lib.hid rfl, own_base H3.out (Nat.le_refl _), HB.out⟩
            case round =>
              obtain ⟨k, os2, hk, rfl, how, HC, h3, hb⟩ := hrel
              clear HWk H3 HB HBr
              have H3 := Lib.hid h3; have HB := Lib.hid hb
              clear how h3 hb HC
              obtain rfl : k = 0 := by omega
              obtain ⟨wz, hwz⟩ : ∃ wz, wz = wr := ⟨_, rfl⟩
              subst hwz
              have HBz := Lib.hid (Below.refl wz.heap.size wz)
              have HG3 : Hid (∀ g, ad3 = some ⟨g, 0, none⟩ → g < wz.heap.size) := Lib.hid (fun g hg => by rcases own_form H3.out with ⟨h1, _⟩ | ⟨g', h1, _, h3⟩; rw [hg] at h1; cases h1; rw [hg] at h1; cases h1; exact h3)
              go_wp2_with fail
              refine wp_region_held_drew (S := fun v => Bs v ad3 0 c3 P) (by kernel_rfl) ?_ (fun hHeld => ?_)
              focus (exact ((Bs.of_own H3.out).below (HBz.out.trans (Below.mono (by repeat (first | exact Below.refl _ _ | refine Below.drew ?_ | refine Below.trans ?_ (below_drewN _ _ _) | refine Below.alloc ?_ (by first | exact Nat.le_refl _ | (simp; done) | (simp; omega)) _)) HBz.out.size))))
              refine wpAnyH_take (i := 0) (oi := { dst := some 107, op := Op.move (Operand.tmp 7), type := 25, pos := "law.go:157", after := #[], guard := none }) (v := ?_) rfl (by kernel_rfl) (by kernel_rfl) (by kernel_rfl) (fun _ _ _ h => h) (Or.inl ⟨by rfl, ?_⟩) hHeld ?_; rotate_left; focus (intro w hSw; (try dsimp only at hSw); go_simp; try with_reducible rfl)
              simp only [Act.put, List.setIfInBounds_toArray, List.set_cons_zero, List.set_cons_succ]
              refine' wpAnyH_take (i := 1) (oi := { dst := some 108, op := Op.convert 25 9 (Operand.tmp 107), type := 9, pos := "law.go:157", after := #[{ on := 0, ground := Ground.data }], guard := none }) (v := _) rfl (by kernel_rfl) (by kernel_rfl) (by kernel_rfl) (fun _ _ _ h => h) (yields_str elB.1 (by kernel_rfl) (by kernel_rfl) (by rfl) _ rfl rfl (fun v h => h)) hHeld ?_
              simp only [Act.put, List.setIfInBounds_toArray, List.set_cons_zero, List.set_cons_succ]
              refine wpAnyH_take (i := 2) (oi := { dst := some 109, op := Op.move (Operand.tmp 0), type := 22, pos := "law.go:157", after := #[], guard := none }) (v := ?_) rfl (by kernel_rfl) (by kernel_rfl) (by kernel_rfl) (fun _ _ _ h => h) (Or.inl ⟨by rfl, ?_⟩) hHeld ?_; rotate_left; focus (intro w hSw; (try dsimp only at hSw); go_simp; try with_reducible rfl)
              simp only [Act.put, List.setIfInBounds_toArray, List.set_cons_zero, List.set_cons_succ]
              refine wpAnyH_take (i := 3) (oi := { dst := some 110, op := Op.move (Operand.tmp 1), type := 4, pos := "law.go:157", after := #[], guard := none }) (v := ?_) rfl (by kernel_rfl) (by kernel_rfl) (by kernel_rfl) (fun _ _ _ h => h) (Or.inl ⟨by rfl, ?_⟩) hHeld ?_; rotate_left; focus (intro w hSw; (try dsimp only at hSw); go_simp; try with_reducible rfl)
              simp only [Act.put, List.setIfInBounds_toArray, List.set_cons_zero, List.set_cons_succ]
              refine wpAnyH_ready (rs := [4]) (by kernel_rfl) (by simp) ?_
              refine (AllReadyH.cons (o := { dst := some 111, op := Op.call { callee := Callee.value (Operand.func 13), args := #[Operand.tmp 109, Operand.tmp 110], argTypes := #[22, 4] }, type := 25, pos := "law.go:157", after := #[{ on := 2, ground := Ground.data }, { on := 3, ground := Ground.data }], guard := none }) rfl (fun K hK => ?_) AllReadyH.nil)
              (go_simp; go_must (refine (refOptPut_any ad 0 c os big _ (HS.out.below (HB.out.trans (Below.mono (by repeat (first | exact Below.refl _ _ | refine Below.drew ?_ | refine Below.trans ?_ (below_drewN _ _ _) | refine Below.alloc ?_ (by first | exact Nat.le_refl _ | (simp; done) | (simp; omega)) _)) HB.out.size))) (by have := HZ.out; omega) HOK.out).mono ?_); intro e w9 hr9; unfold RetB at hr9; rw [← HP.out, HPN.out] at hr9; obtain ⟨ad9, c9, rfl, ho9, hb9⟩ := hr9; have hE__ := cU HB (by repeat (first | exact Below.refl _ _ | refine Below.drew ?_ | refine Below.trans ?_ (below_drewN _ _ _) | refine Below.alloc ?_ (by first | exact Nat.le_refl _ | (simp; done) | (simp; omega)) _)) hb9; (first | replace HB := cK1 HB hE__); (first | replace HBz := cK1 HBz hE__ | replace HBz := cB1 HBz hE__ | replace HBz := cO1 HBz hE__ | replace HBz := cG1 HBz hE__ | replace HBz := cW1 HBz hE__ | replace HBz := cV1 HBz hE__ | replace HBz := cP1 HBz hE__); clear hE__; have H9 := Lib.hid (Bs.of_own ho9); clear ho9 hb9; go_wp2_with fail)
              refine hK.out _ _ ?_ (fun hHeld => ?_)
              focus (exact ((Bs.of_own H3.out).below (HBz.out.trans (Below.mono (by repeat (first | exact Below.refl _ _ | refine Below.drew ?_ | refine Below.trans ?_ (below_drewN _ _ _) | refine Below.alloc ?_ (by first | exact Nat.le_refl _ | (simp; done) | (simp; omega)) _)) HBz.out.size))))
              clear hK K
              try simp only [Act.put, List.setIfInBounds_toArray, List.set_cons_zero, List.set_cons_succ]
              refine wpAnyH_ready (rs := [5]) (by kernel_rfl) (by simp) ?_
              refine (AllReadyH.cons (o := { dst := some 112, op := Op.convert 25 9 (Operand.tmp 111), type := 9, pos := "law.go:157", after := #[{ on := 4, ground := Ground.data }], guard := none }) rfl (fun K hK => ?_) AllReadyH.nil)
              (go_must (refine step_str elB.1 (by kernel_rfl) (by kernel_rfl) rfl (.tmp 111) rfl rfl (H9.out.below (by repeat (first | exact Below.refl _ _ | refine Below.drew ?_ | refine Below.trans ?_ (below_drewN _ _ _) | refine Below.alloc ?_ (by first | exact Nat.le_refl _ | (simp; done) | (simp; omega)) _))) ?_))
              refine hK.out _ _ ?_ (fun hHeld => ?_)
              focus (exact ((Bs.of_own H3.out).below (HBz.out.trans (Below.mono (by repeat (first | exact Below.refl _ _ | refine Below.drew ?_ | refine Below.trans ?_ (below_drewN _ _ _) | refine Below.alloc ?_ (by first | exact Nat.le_refl _ | (simp; done) | (simp; omega)) _)) HBz.out.size))))
              clear hK K
              try simp only [Act.put, List.setIfInBounds_toArray, List.set_cons_zero, List.set_cons_succ]
              refine wpAnyH_take (i := 6) (oi := { dst := some 113, op := Op.binOp BinOp.neq 9 (Operand.tmp 108) (Operand.tmp 112) 9, type := 4, pos := "law.go:157", after := #[{ on := 1, ground := Ground.data }, { on := 5, ground := Ground.data }], guard := none }) (v := ?_) rfl (by kernel_rfl) (by kernel_rfl) (by kernel_rfl) (fun _ _ _ h => h) (Or.inl ⟨by rfl, ?_⟩) hHeld ?_; rotate_left; focus (intro w hSw; (try dsimp only at hSw); go_simp; try with_reducible rfl)
              simp only [Act.put, List.setIfInBounds_toArray, List.set_cons_zero, List.set_cons_succ]
              refine wpAnyH_take (i := 7) (oi := { dst := some 114, op := Op.move (Operand.tmp 113), type := 4, pos := "law.go:157", after := #[{ on := 6, ground := Ground.data }, { on := 4, ground := Ground.chain }], guard := none }) (v := ?_) rfl (by kernel_rfl) (by kernel_rfl) (by kernel_rfl) (fun _ _ _ h => h) (Or.inl ⟨by rfl, ?_⟩) hHeld ?_; rotate_left; focus (intro w hSw; (try dsimp only at hSw); go_simp; try with_reducible rfl)
              simp only [Act.put, List.setIfInBounds_toArray, List.set_cons_zero, List.set_cons_succ]
              first | (refine wpAnyH_take (i := 8) (oi := { dst := some 115, op := Op.move (Operand.tmp 0), type := 22, pos := "law.go:157", after := #[{ on := 7, ground := Ground.guard }], guard := some (7, false) }) (v := undef) rfl (by kernel_rfl) (by kernel_rfl) (by kernel_rfl) (fun _ _ _ h => h) (Or.inr ⟨by rfl, rfl⟩) hHeld ?_) | (refine wpAnyH_take (i := 8) (oi := { dst := some 115, op := Op.move (Operand.tmp 0), type := 22, pos := "law.go:157", after := #[{ on := 7, ground := Ground.guard }], guard := some (7, false) }) (v := ?_) rfl (by kernel_rfl) (by kernel_rfl) (by kernel_rfl) (fun _ _ _ h => h) (Or.inl ⟨by rfl, ?_⟩) hHeld ?_; rotate_left; focus (intro w hSw; (try dsimp only at hSw); go_simp; try with_reducible rfl))
              simp only [Act.put, List.setIfInBounds_toArray, List.set_cons_zero, List.set_cons_succ]
              first | (refine wpAnyH_take (i := 9) (oi := { dst := some 116, op := Op.call { callee := Callee.builtin Builtin.len, args := #[Operand.tmp 115], argTypes := #[22] }, type := 3, pos := "law.go:157", after := #[{ on := 8, ground := Ground.data }, { on := 7, ground := Ground.guard }], guard := some (7, false) }) (v := undef) rfl (by kernel_rfl) (by kernel_rfl) (by kernel_rfl) (fun _ _ _ h => h) (Or.inr ⟨by rfl, rfl⟩) hHeld ?_) | (refine wpAnyH_take (i := 9) (oi := { dst := some 116, op := Op.call { callee := Callee.builtin Builtin.len, args := #[Operand.tmp 115], argTypes := #[22] }, type := 3, pos := "law.go:157", after := #[{ on := 8, ground := Ground.data }, { on := 7, ground := Ground.guard }], guard := some (7, false) }) (v := ?_) rfl (by kernel_rfl) (by kernel_rfl) (by kernel_rfl) (fun _ _ _ h => h) (Or.inl ⟨by rfl, ?_⟩) hHeld ?_; rotate_left; focus (intro w hSw; (try dsimp only at hSw); go_simp; try with_reducible rfl))
              simp only [Act.put, List.setIfInBounds_toArray, List.set_cons_zero, List.set_cons_succ]
              first | (refine wpAnyH_take (i := 10) (oi := { dst := some 117, op := Op.binOp BinOp.gtr 3 (Operand.tmp 116) (Operand.const (Value.int IntKind.i64 0)) 3, type := 4, pos := "law.go:157", after := #[{ on := 9, ground := Ground.data }, { on := 7, ground := Ground.guard }], guard := some (7, false) }) (v := undef) rfl (by kernel_rfl) (by kernel_rfl) (by kernel_rfl) (fun _ _ _ h => h) (Or.inr ⟨by rfl, rfl⟩) hHeld ?_) | (refine wpAnyH_take (i := 10) (oi := { dst := some 117, op := Op.binOp BinOp.gtr 3 (Operand.tmp 116) (Operand.const (Value.int IntKind.i64 0)) 3, type := 4, pos := "law.go:157", after := #[{ on := 9, ground := Ground.data }, { on := 7, ground := Ground.guard }], guard := some (7, false) }) (v := ?_) rfl (by kernel_rfl) (by kernel_rfl) (by kernel_rfl) (fun _ _ _ h => h) (Or.inl ⟨by rfl, ?_⟩) hHeld ?_; rotate_left; focus (intro w hSw; (try dsimp only at hSw); go_simp; try with_reducible rfl))
              simp only [Act.put, List.setIfInBounds_toArray, List.set_cons_zero, List.set_cons_succ]
              first | (refine wpAnyH_take (i := 11) (oi := { dst := some 118, op := Op.move (Operand.tmp 117), type := 4, pos := "law.go:157", after := #[{ on := 10, ground := Ground.data }, { on := 7, ground := Ground.chain }, { on := 7, ground := Ground.guard }], guard := some (7, false) }) (v := undef) rfl (by kernel_rfl) (by kernel_rfl) (by kernel_rfl) (fun _ _ _ h => h) (Or.inr ⟨by rfl, rfl⟩) hHeld ?_) | (refine wpAnyH_take (i := 11) (oi := { dst := some 118, op := Op.move (Operand.tmp 117), type := 4, pos := "law.go:157", after := #[{ on := 10, ground := Ground.data }, { on := 7, ground := Ground.chain }, { on := 7, ground := Ground.guard }], guard := some (7, false) }) (v := ?_) rfl (by kernel_rfl) (by kernel_rfl) (by kernel_rfl) (fun _ _ _ h => h) (Or.inl ⟨by rfl, ?_⟩) hHeld ?_; rotate_left; focus (intro w hSw; (try dsimp only at hSw); go_simp; try with_reducible rfl))
              simp only [Act.put, List.setIfInBounds_toArray, List.set_cons_zero, List.set_cons_succ]
              first | (refine wpAnyH_take (i := 12) (oi := { dst := some 119, op := Op.move (Operand.tmp 9), type := 25, pos := "law.go:157", after := #[{ on := 11, ground := Ground.guard }], guard := some (11, true) }) (v := undef) rfl (by kernel_rfl) (by kernel_rfl) (by kernel_rfl) (fun _ _ _ h => h) (Or.inr ⟨by rfl, rfl⟩) hHeld ?_) | (refine wpAnyH_take (i := 12) (oi := { dst := some 119, op := Op.move (Operand.tmp 9), type := 25, pos := "law.go:157", after := #[{ on := 11, ground := Ground.guard }], guard := some (11, true) }) (v := ?_) rfl (by kernel_rfl) (by kernel_rfl) (by kernel_rfl) (fun _ _ _ h => h) (Or.inl ⟨by rfl, ?_⟩) hHeld ?_; rotate_left; focus (intro w hSw; (try dsimp only at hSw); go_simp; try with_reducible rfl))
              simp only [Act.put, List.setIfInBounds_toArray, List.set_cons_zero, List.set_cons_succ]
              first | (refine wpAnyH_take (i := 13) (oi := { dst := some 120, op := Op.convert 25 9 (Operand.tmp 119), type := 9, pos := "law.go:157", after := #[{ on := 12, ground := Ground.data }, { on := 11, ground := Ground.guard }], guard := some (11, true) }) (v := undef) rfl (by kernel_rfl) (by kernel_rfl) (by kernel_rfl) (fun _ _ _ h => h) (Or.inr ⟨by rfl, rfl⟩) hHeld ?_) | (refine wpAnyH_take (i := 13) (oi := { dst := some 120, op := Op.convert 25 9 (Operand.tmp 119), type := 9, pos := "law.go:157", after := #[{ on := 12, ground := Ground.data }, { on := 11, ground := Ground.guard }], guard := some (11, true) }) (v := ?_) rfl (by kernel_rfl) (by kernel_rfl) (by kernel_rfl) (fun _ _ _ h => h) (Or.inl ⟨by rfl, ?_⟩) hHeld ?_; rotate_left; focus (intro w hSw; (try dsimp only at hSw); go_simp; try with_reducible rfl))
              simp only [Act.put, List.setIfInBounds_toArray, List.set_cons_zero, List.set_cons_succ]
              first | (refine wpAnyH_take (i := 14) (oi := { dst := some 121, op := Op.move (Operand.tmp 0), type := 22, pos := "law.go:157", after := #[{ on := 11, ground := Ground.guard }], guard := some (11, true) }) (v := undef) rfl (by kernel_rfl) (by kernel_rfl) (by kernel_rfl) (fun _ _ _ h => h) (Or.inr ⟨by rfl, rfl⟩) hHeld ?_) | (refine wpAnyH_take (i := 14) (oi := { dst := some 121, op := Op.move (Operand.tmp 0), type := 22, pos := "law.go:157", after := #[{ on := 11, ground := Ground.guard }], guard := some (11, true) }) (v := ?_) rfl (by kernel_rfl) (by kernel_rfl) (by kernel_rfl) (fun _ _ _ h => h) (Or.inl ⟨by rfl, ?_⟩) hHeld ?_; rotate_left; focus (intro w hSw; (try dsimp only at hSw); go_simp; try with_reducible rfl))
              simp only [Act.put, List.setIfInBounds_toArray, List.set_cons_zero, List.set_cons_succ]
              first | (refine wpAnyH_take (i := 15) (oi := { dst := some 122, op := Op.indexAddr 22 (Operand.tmp 121) (Operand.const (Value.int IntKind.i64 0)), type := 0, pos := "law.go:157", after := #[{ on := 14, ground := Ground.data }, { on := 11, ground := Ground.guard }], guard := some (11, true) }) (v := undef) rfl (by kernel_rfl) (by kernel_rfl) (by kernel_rfl) (fun _ _ _ h => h) (Or.inr ⟨by rfl, rfl⟩) hHeld ?_) | (refine wpAnyH_take (i := 15) (oi := { dst := some 122, op := Op.indexAddr 22 (Operand.tmp 121) (Operand.const (Value.int IntKind.i64 0)), type := 0, pos := "law.go:157", after := #[{ on := 14, ground := Ground.data }, { on := 11, ground := Ground.guard }], guard := some (11, true) }) (v := ?_) rfl (by kernel_rfl) (by kernel_rfl) (by kernel_rfl) (fun _ _ _ h => h) (Or.inl ⟨by rfl, ?_⟩) hHeld ?_; rotate_left; focus (intro w hSw; (try dsimp only at hSw); go_simp; try with_reducible rfl))
              simp only [Act.put, List.setIfInBounds_toArray, List.set_cons_zero, List.set_cons_succ]
              first | (refine wpAnyH_take (i := 16) (oi := { dst := some 123, op := Op.fieldAddr 43 (Operand.tmp 122) 1, type := 0, pos := "law.go:157", after := #[{ on := 15, ground := Ground.data }, { on := 11, ground := Ground.guard }], guard := some (11, true) }) (v := undef) rfl (by kernel_rfl) (by kernel_rfl) (by kernel_rfl) (fun _ _ _ h => h) (Or.inr ⟨by rfl, rfl⟩) hHeld ?_) | (refine wpAnyH_take (i := 16) (oi := { dst := some 123, op := Op.fieldAddr 43 (Operand.tmp 122) 1, type := 0, pos := "law.go:157", after := #[{ on := 15, ground := Ground.data }, { on := 11, ground := Ground.guard }], guard := some (11, true) }) (v := ?_) rfl (by kernel_rfl) (by kernel_rfl) (by kernel_rfl) (fun _ _ _ h => h) (Or.inl ⟨by rfl, ?_⟩) hHeld ?_; rotate_left; focus (intro w hSw; (try dsimp only at hSw); go_simp; try with_reducible rfl))
              simp only [Act.put, List.setIfInBounds_toArray, List.set_cons_zero, List.set_cons_succ]
              first | (refine wpAnyH_take (i := 17) (oi := { dst := some 124, op := Op.load 25 (Operand.tmp 123), type := 25, pos := "law.go:157", after := #[{ on := 16, ground := Ground.data }, { on := 11, ground := Ground.guard }], guard := some (11, true) }) (v := undef) rfl (by kernel_rfl) (by kernel_rfl) (by kernel_rfl) (fun _ _ _ h => h) (Or.inr ⟨by rfl, rfl⟩) hHeld ?_) | (refine wpAnyH_take (i := 17) (oi := { dst := some 124, op := Op.load 25 (Operand.tmp 123), type := 25, pos := "law.go:157", after := #[{ on := 16, ground := Ground.data }, { on := 11, ground := Ground.guard }], guard := some (11, true) }) (v := ?_) rfl (by kernel_rfl) (by kernel_rfl) (by kernel_rfl) (fun _ _ _ h => h) (Or.inl ⟨by rfl, ?_⟩) hHeld ?_; rotate_left; focus (intro w hSw; (try dsimp only at hSw); go_simp; try with_reducible rfl))
              simp only [Act.put, List.setIfInBounds_toArray, List.set_cons_zero, List.set_cons_succ]
              first | (refine wpAnyH_take (i := 18) (oi := { dst := some 125, op := Op.convert 25 9 (Operand.tmp 124), type := 9, pos := "law.go:157", after := #[{ on := 17, ground := Ground.data }, { on := 11, ground := Ground.guard }], guard := some (11, true) }) (v := undef) rfl (by kernel_rfl) (by kernel_rfl) (by kernel_rfl) (fun _ _ _ h => h) (Or.inr ⟨by rfl, rfl⟩) hHeld ?_) | (refine wpAnyH_take (i := 18) (oi := { dst := some 125, op := Op.convert 25 9 (Operand.tmp 124), type := 9, pos := "law.go:157", after := #[{ on := 17, ground := Ground.data }, { on := 11, ground := Ground.guard }], guard := some (11, true) }) (v := ?_) rfl (by kernel_rfl) (by kernel_rfl) (by kernel_rfl) (fun _ _ _ h => h) (Or.inl ⟨by rfl, ?_⟩) hHeld ?_; rotate_left; focus (intro w hSw; (try dsimp only at hSw); go_simp; try with_reducible rfl))
              simp only [Act.put, List.setIfInBounds_toArray, List.set_cons_zero, List.set_cons_succ]
              first | (refine wpAnyH_take (i := 19) (oi := { dst := some 126, op := Op.binOp BinOp.neq 9 (Operand.tmp 120) (Operand.tmp 125) 9, type := 4, pos := "law.go:157", after := #[{ on := 13, ground := Ground.data }, { on := 18, ground := Ground.data }, { on := 11, ground := Ground.guard }], guard := some (11, true) }) (v := undef) rfl (by kernel_rfl) (by kernel_rfl) (by kernel_rfl) (fun _ _ _ h => h) (Or.inr ⟨by rfl, rfl⟩) hHeld ?_) | (refine wpAnyH_take (i := 19) (oi := { dst := some 126, op := Op.binOp BinOp.neq 9 (Operand.tmp 120) (Operand.tmp 125) 9, type := 4, pos := "law.go:157", after := #[{ on := 13, ground := Ground.data }, { on := 18, ground := Ground.data }, { on := 11, ground := Ground.guard }], guard := some (11, true) }) (v := ?_) rfl (by kernel_rfl) (by kernel_rfl) (by kernel_rfl) (fun _ _ _ h => h) (Or.inl ⟨by rfl, ?_⟩) hHeld ?_; rotate_left; focus (intro w hSw; (try dsimp only at hSw); go_simp; try with_reducible rfl))
              simp only [Act.put, List.setIfInBounds_toArray, List.set_cons_zero, List.set_cons_succ]
              first | (refine wpAnyH_take (i := 20) (oi := { dst := some 127, op := Op.pick (Operand.tmp 118) (Operand.tmp 126) (Operand.const (Value.bool false)), type := 4, pos := "law.go:157", after := #[{ on := 11, ground := Ground.data }, { on := 19, ground := Ground.data }, { on := 7, ground := Ground.guard }], guard := some (7, false) }) (v := undef) rfl (by kernel_rfl) (by kernel_rfl) (by kernel_rfl) (fun _ _ _ h => h) (Or.inr ⟨by rfl, rfl⟩) hHeld ?_) | (refine wpAnyH_take (i := 20) (oi := { dst := some 127, op := Op.pick (Operand.tmp 118) (Operand.tmp 126) (Operand.const (Value.bool false)), type := 4, pos := "law.go:157", after := #[{ on := 11, ground := Ground.data }, { on := 19, ground := Ground.data }, { on := 7, ground := Ground.guard }], guard := some (7, false) }) (v := ?_) rfl (by kernel_rfl) (by kernel_rfl) (by kernel_rfl) (fun _ _ _ h => h) (Or.inl ⟨by rfl, ?_⟩) hHeld ?_; rotate_left; focus (intro w hSw; (try dsimp only at hSw); go_simp; try with_reducible rfl))
              simp only [Act.put, List.setIfInBounds_toArray, List.set_cons_zero, List.set_cons_succ]
              refine wpAnyH_take (i := 21) (oi := { dst := some 128, op := Op.pick (Operand.tmp 114) (Operand.const (Value.bool true)) (Operand.tmp 127), type := 4, pos := "law.go:157", after := #[{ on := 7, ground := Ground.data }, { on := 20, ground := Ground.data }], guard := none }) (v := ?_) rfl (by kernel_rfl) (by kernel_rfl) (by kernel_rfl) (fun _ _ _ h => h) (Or.inl ⟨by rfl, ?_⟩) hHeld ?_; rotate_left; focus (intro w hSw; (try dsimp only at hSw); go_simp; try with_reducible rfl)
              simp only [Act.put, List.setIfInBounds_toArray, List.set_cons_zero, List.set_cons_succ]
              refine wpAnyH_done (by kernel_rfl) ?_ _
              all_goals
                go_wp2_with (first
                  | (go_at_call 15; have HZz := Lib.hid (HBz.out.trans (Below.mono (by repeat (first | exact Below.refl _ _ | refine Below.drew ?_ | refine Below.trans ?_ (below_drewN _ _ _) | refine Below.alloc ?_ (by first | exact Nat.le_refl _ | (simp; done) | (simp; omega)) _)) HBz.out.size)).size; go_must (refine (read_any ad3 0 c3 P big _ ((Bs.of_own H3.out).below (HBz.out.trans (Below.mono (by repeat (first | exact Below.refl _ _ | refine Below.drew ?_ | refine Below.trans ?_ (below_drewN _ _ _) | refine Below.alloc ?_ (by first | exact Nat.le_refl _ | (simp; done) | (simp; omega)) _)) HBz.out.size))) (by omega)).mono ?_); intro e w10 hr; rw [R1.out] at hr; obtain ⟨ad10, n10, c10, os10, rfl, how, hv, hb⟩ := hr; have H10 := Lib.hid (how.base HZz.out); have HV10 := Lib.hid hv; have hE__ := cU HB (by repeat (first | exact Below.refl _ _ | refine Below.drew ?_ | refine Below.trans ?_ (below_drewN _ _ _) | refine Below.alloc ?_ (by first | exact Nat.le_refl _ | (simp; done) | (simp; omega)) _)) hb; (first | replace HB := cK1 HB hE__); (first | replace HBz := cK1 HBz hE__ | replace HBz := cB1 HBz hE__ | replace HBz := cO1 HBz hE__ | replace HBz := cG1 HBz hE__ | replace HBz := cW1 HBz hE__ | replace HBz := cV1 HBz hE__ | replace HBz := cP1 HBz hE__); clear hE__; clear hb how hv HZz)
                  | ((with_reducible show wpList _ _ _ (⟨none, .store _ _ (.tmp 134), _, _, _, _⟩ :: _) _ _); go_must (refine wpL_storeS (T := 33) (q := (0, 0)) rfl 33 (.tmp 13) (.tmp 134) rfl w10.heap.size (0, 0) rfl rfl (heap_alloc_last w10 _) HI.out ?_); intro w11 hg5 hgr5; have hb5 : Below w10.heap.size w10 w11 := ((Below.refl w10.heap.size w10).alloc (Nat.le_refl _) _).grown hgr5 (by simp) (fun k e => by cases e; exact Nat.le_refl _); have hE__ := cU HB (by repeat (first | exact Below.refl _ _ | refine Below.drew ?_ | refine Below.trans ?_ (below_drewN _ _ _) | refine Below.alloc ?_ (by first | exact Nat.le_refl _ | (simp; done) | (simp; omega)) _)) hb5; (first | replace HB := cK1 HB hE__); (first | replace HBz := cK1 HBz hE__ | replace HBz := cB1 HBz hE__ | replace HBz := cO1 HBz hE__ | replace HBz := cG1 HBz hE__ | replace HBz := cW1 HBz hE__ | replace HBz := cV1 HBz hE__ | replace HBz := cP1 HBz hE__); (first | replace H10 := cB1 H10 hE__ | replace H10 := cO1 H10 hE__ | replace H10 := cG1 H10 hE__ | replace H10 := cW1 H10 hE__ | replace H10 := cV1 H10 hE__ | replace H10 := cP1 H10 hE__ | replace H10 := cK1 H10 hE__); clear hE__; clear hg5 hgr5 hb5; simp only [Act.put, List.setIfInBounds_toArray, List.set_cons_zero, List.set_cons_succ])
                  | (go_at_call 17; have HZz := Lib.hid (HBz.out.trans (Below.mono (by repeat (first | exact Below.refl _ _ | refine Below.drew ?_ | refine Below.trans ?_ (below_drewN _ _ _) | refine Below.alloc ?_ (by first | exact Nat.le_refl _ | (simp; done) | (simp; omega)) _)) HBz.out.size)).size; go_must (refine (rowsO_any ad3 0 c3 P big _ ((Bs.of_own H3.out).below (HBz.out.trans (Below.mono (by repeat (first | exact Below.refl _ _ | refine Below.drew ?_ | refine Below.trans ?_ (below_drewN _ _ _) | refine Below.alloc ?_ (by first | exact Nat.le_refl _ | (simp; done) | (simp; omega)) _)) HBz.out.size))) (by omega)).mono ?_); intro e w12 hr; obtain ⟨ad12, n12, c12, os12, rfl, how, hv, hb⟩ := hr; have H12 := Lib.hid (how.base HZz.out); have hE__ := cU HB (by repeat (first | exact Below.refl _ _ | refine Below.drew ?_ | refine Below.trans ?_ (below_drewN _ _ _) | refine Below.alloc ?_ (by first | exact Nat.le_refl _ | (simp; done) | (simp; omega)) _)) hb; (first | replace HB := cK1 HB hE__); (first | replace HBz := cK1 HBz hE__ | replace HBz := cB1 HBz hE__ | replace HBz := cO1 HBz hE__ | replace HBz := cG1 HBz hE__ | replace HBz := cW1 HBz hE__ | replace HBz := cV1 HBz hE__ | replace HBz := cP1 HBz hE__); (first | replace H10 := cB1 H10 hE__ | replace H10 := cO1 H10 hE__ | replace H10 := cG1 H10 hE__ | replace H10 := cW1 H10 hE__ | replace H10 := cV1 H10 hE__ | replace H10 := cP1 H10 hE__ | replace H10 := cK1 H10 hE__); clear hE__; clear hb how hv HZz)
                  | ((with_reducible show wpList _ _ _ (⟨none, .store _ _ (.tmp 141), _, _, _, _⟩ :: _) _ _); go_must (refine wpL_storeS (T := 33) (q := (0, 0)) rfl 33 (.tmp 16) (.tmp 141) rfl w12.heap.size (rowsO big P).2.2 rfl rfl (heap_alloc_last w12 _) HI.out ?_); intro w13 hg5 hgr5; have hb5 : Below w12.heap.size w12 w13 := ((Below.refl w12.heap.size w12).alloc (Nat.le_refl _) _).grown hgr5 (by simp) (fun k e => by cases e; exact Nat.le_refl _); have hE__ := cU HB (by repeat (first | exact Below.refl _ _ | refine Below.drew ?_ | refine Below.trans ?_ (below_drewN _ _ _) | refine Below.alloc ?_ (by first | exact Nat.le_refl _ | (simp; done) | (simp; omega)) _)) hb5; (first | replace HB := cK1 HB hE__); (first | replace HBz := cK1 HBz hE__ | replace HBz := cB1 HBz hE__ | replace HBz := cO1 HBz hE__ | replace HBz := cG1 HBz hE__ | replace HBz := cW1 HBz hE__ | replace HBz := cV1 HBz hE__ | replace HBz := cP1 HBz hE__); (first | replace H10 := cB1 H10 hE__ | replace H10 := cO1 H10 hE__ | replace H10 := cG1 H10 hE__ | replace H10 := cW1 H10 hE__ | replace H10 := cV1 H10 hE__ | replace H10 := cP1 H10 hE__ | replace H10 := cK1 H10 hE__); (first | replace H12 := cB1 H12 hE__ | replace H12 := cO1 H12 hE__ | replace H12 := cG1 H12 hE__ | replace H12 := cW1 H12 hE__ | replace H12 := cV1 H12 hE__ | replace H12 := cP1 H12 hE__ | replace H12 := cK1 H12 hE__); clear hE__; clear hg5 hgr5 hb5; simp only [Act.put, List.setIfInBounds_toArray, List.set_cons_zero, List.set_cons_succ]))
                have H3e := Lib.hid (own_keep H3.out HBz.out)
                have HZw := Lib.hid HBz.out.size
                go_loopw [17] (fun i wr4 => ∃ (j : Nat) (L : List UInt8), i = .int .i64 j ∧ wr4.ownsRow wv.heap.size 5 1 (.slice ad3 0 c3) 0 (BV L) ∧ OwnOps 43 wz.heap.size wr4 ad10 n10 c10 os10 ∧ OwnOps 43 wz.heap.size wr4 ad12 n12 c12 os12 ∧ Below w.heap.size w wr4) (fun i _ => 0 - (intOf i).toNat)
                case atStart => exact ⟨0, P, rfl, H3e.out, H10.out, H12.out, HB.out⟩
                case round =>
                  obtain ⟨j, L, rfl, h3, h10, h12, hb⟩ := hrel
                  clear H3e H10 H12 HB
                  by_cases hj : j < 0
                  · exact absurd hj (by omega)
                  · have H10 := Lib.hid h10; have H12 := Lib.hid h12; have HB := Lib.hid hb
                    clear h3 h10 h12 hb
                    go_wp2_with (first
                      | (go_at_call 19; (with_reducible show Calls _ _ #[Value.slice ad10 _ _, _] _ _); go_must (refine (refSame_any ad10 n10 c10 os10 ad 0 c os _ (H10.out.ops.below (by repeat (first | exact Below.refl _ _ | refine Below.drew ?_ | refine Below.trans ?_ (below_drewN _ _ _) | refine Below.alloc ?_ (by first | exact Nat.le_refl _ | (simp; done) | (simp; omega)) _))) (HS.out.below (HB.out.trans (Below.mono (by repeat (first | exact Below.refl _ _ | refine Below.drew ?_ | refine Below.trans ?_ (below_drewN _ _ _) | refine Below.alloc ?_ (by first | exact Nat.le_refl _ | (simp; done) | (simp; omega)) _)) HB.out.size)))).mono ?_); intro e w20 hr; rw [HV10.out, show decide (vals os = vals os) = true by simp] at hr; obtain ⟨rfl, hb⟩ := hr; have hE__ := cU HB (by repeat (first | exact Below.refl _ _ | refine Below.drew ?_ | refine Below.trans ?_ (below_drewN _ _ _) | refine Below.alloc ?_ (by first | exact Nat.le_refl _ | (simp; done) | (simp; omega)) _)) hb; (first | replace HB := cK1 HB hE__); (first | replace H12 := cB1 H12 hE__ | replace H12 := cO1 H12 hE__ | replace H12 := cG1 H12 hE__ | replace H12 := cW1 H12 hE__ | replace H12 := cV1 H12 hE__ | replace H12 := cP1 H12 hE__ | replace H12 := cK1 H12 hE__); clear hE__; clear hb))
                    go_ret
                    exact ⟨rfl, HB.out.trans (Below.mono (by repeat (first | exact Below.refl _ _ | refine Below.drew ?_ | refine Below.trans ?_ (below_drewN _ _ _) | refine Below.alloc ?_ (by first | exact Nat.le_refl _ | (simp; done) | (simp; omega)) _)) HB.out.size)⟩
    · have HW : Hid (wrongO (vals os) ≠ 0) := Lib.hid hx
      have hx2 : (wrongO (vals os) == 0) = false := by simpa using hx
      obtain ⟨X, hX⟩ : ∃ X, X = wrongO (vals os) := ⟨_, rfl⟩
      rw [← hX] at hx HW hx2
      have HX := Lib.hid hX.symm
      clear hX
      go_enter Try.func8, Try.ntmps8
      go_wp2_with (first
        | (go_at_call 9; go_must (refine (optAwake_any _).mono ?_); rintro e w6 ⟨rfl, hb6⟩; have hE__ := cU HB (by repeat (first | exact Below.refl _ _ | refine Below.drew ?_ | refine Below.trans ?_ (below_drewN _ _ _) | refine Below.alloc ?_ (by first | exact Nat.le_refl _ | (simp; done) | (simp; omega)) _)) hb6; (first | replace HB := cK1 HB hE__); clear hE__; clear hb6)
        | (go_at_call 10; go_must (refine (few_any ad n c os _ (HS.out.below HB.out)).mono ?_); intro e w' hr; rw [HF.out] at hr; obtain ⟨rfl, rfl⟩ := hr)
        | (go_at_call 12; go_must (refine (wrong_any ad n c os _ (HS.out.below HB.out)).mono ?_); intro e w' hr; rw [HX.out] at hr; obtain ⟨rfl, rfl⟩ := hr))
      go_ret
      exact ⟨rfl, HB.out⟩
  · have HF : Hid (fewO (vals os) = false) := Lib.hid (by simpa using hf)
    clear hf
    go_enter Try.func8, Try.ntmps8
    go_wp2_with (first
      | (go_at_call 9; go_must (refine (optAwake_any _).mono ?_); rintro e w6 ⟨rfl, hb6⟩; have hE__ := cU HB (by repeat (first | exact Below.refl _ _ | refine Below.drew ?_ | refine Below.trans ?_ (below_drewN _ _ _) | refine Below.alloc ?_ (by first | exact Nat.le_refl _ | (simp; done) | (simp; omega)) _)) hb6; (first | replace HB := cK1 HB hE__); clear hE__; clear hb6)
      | (go_at_call 10; go_must (refine (few_any ad n c os _ (HS.out.below HB.out)).mono ?_); intro e w' hr; rw [HF.out] at hr; obtain ⟨rfl, rfl⟩ := hr))
    go_ret
    exact ⟨rfl, HB.out⟩
end Go.Proofs.Ytmigbcoobbcahaa
