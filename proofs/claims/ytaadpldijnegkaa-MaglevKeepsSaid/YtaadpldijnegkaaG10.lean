/-
  Joined by program (merge.py): MgP3, MgD.
-/
import Derived.Test.YtaadpldijnegkaaG6
import Derived.Test.YtaadpldijnegkaaG8
/-
  Plain laws of chapter 17: with all quanta so many times as many the slots are the same.
-/
namespace Go.Proofs.Ytaadpldijnegkaa
open Go.RowKit Go.Sort
set_option linter.unusedVariables false
set_option linter.unusedSimpArgs false

def prS (x : ShV) : ByteArray × Int := (x.name, x.q)
def scP (k : Nat) (p : ByteArray × Int) : ByteArray × Int := (p.1, p.2 * (k : Int))
def insP (p : ByteArray × Int) : List (ByteArray × Int) → List (ByteArray × Int)
  | [] => [p]
  | a :: l => if nmL a.1 p.1 = true then a :: insP p l else p :: a :: l
def risP (ps : List (ByteArray × Int)) : List (ByteArray × Int) := ps.foldl (fun o p => if p.2 = 0 then o else insP p o) []
theorem ins_pr (x : ShV) : ∀ l : List ShV, (insN x l).map prS = insP (prS x) (l.map prS)
  | [] => rfl
  | a :: l => by
    simp only [insN, insP, List.map_cons]
    have e : nmL (prS a).1 (prS x).1 = nmL a.name x.name := rfl
    rw [e]
    split
    · rw [List.map_cons, ins_pr x l]
    · rfl
theorem ris_fold_pr : ∀ (xs o : List ShV), (xs.foldl (fun o x => if x.q = 0 then o else insN x o) o).map prS = (xs.map prS).foldl (fun o p => if p.2 = 0 then o else insP p o) (o.map prS)
  | [], o => rfl
  | x :: xs, o => by
    rw [List.foldl_cons, List.map_cons, List.foldl_cons, ris_fold_pr xs]
    congr 1
    have e : (prS x).2 = x.q := rfl
    rw [e]
    split
    · rfl
    · exact ins_pr x o
theorem ris_pr (xs : List ShV) : (risL xs).map prS = risP (xs.map prS) := ris_fold_pr xs []
theorem ins_sc (k : Nat) (p : ByteArray × Int) : ∀ l, insP (scP k p) (l.map (scP k)) = (insP p l).map (scP k)
  | [] => rfl
  | a :: l => by
    simp only [insP, List.map_cons]
    have e : nmL (scP k a).1 (scP k p).1 = nmL a.1 p.1 := rfl
    rw [e]
    split
    · rw [List.map_cons, ins_sc k p l]
    · rfl
theorem ris_fold_sc {k : Nat} (hk : 0 < k) : ∀ (ps o : List (ByteArray × Int)), (ps.map (scP k)).foldl (fun o p => if p.2 = 0 then o else insP p o) (o.map (scP k)) = (ps.foldl (fun o p => if p.2 = 0 then o else insP p o) o).map (scP k)
  | [], o => rfl
  | p :: ps, o => by
    rw [List.map_cons, List.foldl_cons, List.foldl_cons, ← ris_fold_sc hk ps]
    congr 1
    have e : (scP k p).2 = p.2 * (k : Int) := rfl
    rw [e]
    by_cases h : p.2 = 0
    · rw [if_pos h, if_pos (by rw [h, Int.zero_mul])]
    · rw [if_neg h, if_neg (fun e => by rcases Int.mul_eq_zero.1 e with h1 | h1; exact h h1; omega)]
      exact ins_sc k p o
/-- the shares with quanta, k times as many -/
theorem ris_scale {k : Nat} (hk : 0 < k) {xs ms : List ShV} (h : ms.map prS = xs.map (fun x => scP k (prS x))) : (risL ms).map prS = ((risL xs).map prS).map (scP k) := by
  rw [ris_pr, ris_pr, h]
  have e : xs.map (fun x => scP k (prS x)) = (xs.map prS).map (scP k) := by rw [List.map_map]; rfl
  rw [e]
  exact ris_fold_sc hk _ []
def turnP (kb : List UInt8) (n : Nat) (p : ByteArray × Int) : TurnV := ⟨p.2.toNat, 0, offN kb p.1 n, skipN kb p.1 n, 0⟩
theorem us_pr (kb : List UInt8) (n : Nat) (zs : List ShV) : usOf kb n zs = (zs.map prS).map (turnP kb n) := by rw [List.map_map]; rfl
theorem names_pr (zs : List ShV) : namesOf zs = (zs.map prS).map Prod.fst := by rw [List.map_map]; rfl
theorem names_scale {k : Nat} {zs vs : List ShV} (h : vs.map prS = (zs.map prS).map (scP k)) : namesOf vs = namesOf zs := by
  rw [names_pr, names_pr, h, List.map_map]
  rfl
theorem fold_scale (k : Nat) : ∀ (l : List TurnV) (g : Nat), (l.map (fun u : TurnV => ({ u with q := u.q * k } : TurnV))).foldl (fun g u => max g u.q) (g * k) = l.foldl (fun g u => max g u.q) g * k
  | [], g => rfl
  | u :: l, g => by
    rw [List.map_cons, List.foldl_cons, List.foldl_cons, ← fold_scale k l]
    congr 1
    show max (g * k) (u.q * k) = max g u.q * k
    rcases Nat.le_total g u.q with h | h
    · rw [Nat.max_eq_right h, Nat.max_eq_right (Nat.mul_le_mul_right k h)]
    · rw [Nat.max_eq_left h, Nat.max_eq_left (Nat.mul_le_mul_right k h)]
theorem slots_scale {kb : List UInt8} {n k : Nat} (hk : 0 < k) {zs vs : List ShV} (hq : ∀ x ∈ zs, 0 < x.q) (h : vs.map prS = (zs.map prS).map (scP k)) {sl : List Int} (hs : slotsZ kb n zs sl) : slotsZ kb n vs sl := by
  have hu : usOf kb n vs = (usOf kb n zs).map (fun u : TurnV => ({ u with q := u.q * k } : TurnV)) := by
    rw [us_pr, h, List.map_map, List.map_map]
    unfold usOf
    rw [List.map_map]
    refine List.map_congr_left fun x hx => ?_
    have := hq x hx
    show (⟨(x.q * (k : Int)).toNat, 0, _, _, 0⟩ : TurnV) = ⟨x.q.toNat * k, 0, _, _, 0⟩
    congr 1
    obtain ⟨q, hq'⟩ : ∃ q : Nat, x.q = (q : Int) := ⟨x.q.toNat, by omega⟩
    rw [hq', ← Int.natCast_mul, Int.toNat_natCast, Int.toNat_natCast]
  have hlen : vs.length = zs.length := by
    have := congrArg List.length h
    simpa using this
  rcases hs with ⟨h1, h2⟩ | ⟨h1, N, h2, h3⟩
  · refine .inl ⟨List.eq_nil_of_length_eq_zero (by rw [hlen, h1]; rfl), h2⟩
  · have e1 : maxQ (usOf kb n vs) = maxQ (usOf kb n zs) * k := by
      rw [hu]
      have := fold_scale k (usOf kb n zs) 0
      rw [Nat.zero_mul] at this
      exact this
    have e2 : (usOf kb n vs).length = (usOf kb n zs).length := by rw [hu, List.length_map]
    have e3 : qsU (usOf kb n vs) = (qsU (usOf kb n zs)).map (· * k) := by
      rw [hu]
      unfold qsU
      rw [List.map_map, List.map_map]
      rfl
    have e4 : chU (usOf kb n vs) n = chU (usOf kb n zs) n := by
      funext i j
      unfold chU
      rw [hu]
      have : ((usOf kb n zs).map (fun u : TurnV => ({ u with q := u.q * k } : TurnV))).getD i zeroU = { (usOf kb n zs).getD i zeroU with q := ((usOf kb n zs).getD i zeroU).q * k } := by
        rw [List.getD_eq_getElem?_getD, List.getD_eq_getElem?_getD, List.getElem?_map]
        cases (usOf kb n zs)[i]? with
        | none => simp [zeroU]
        | some u => rfl
      rw [this]
    refine .inr ⟨fun e => h1 (List.eq_nil_of_length_eq_zero (by rw [← hlen, e]; rfl)), N, ?_, ?_⟩
    · rw [e1, e2, e3, e4]
      exact done_scale hk h2
    · rw [e1, e2, e3, e4, run_scale hk]
      exact h3
theorem may_scale {k : Nat} {xs ms : List ShV} (hm : mayR xs) (h : ms.map prS = xs.map (fun x => scP k (prS x))) (hb : ∀ x ∈ xs, x.q * (k : Int) ≤ 1024000) : mayR ms := by
  obtain ⟨h1, h2, h3⟩ := (mayR_iff xs).1 hm
  have hlen : ms.length = xs.length := by
    have := congrArg List.length h
    simpa using this
  have hat : ∀ i (hi : i < ms.length), ms[i].name = (xs[i]'(by omega)).name ∧ ms[i].q = (xs[i]'(by omega)).q * (k : Int) := fun i hi => by
    have e := congrArg (fun l => l[i]?) h
    simp only [List.getElem?_map, List.getElem?_eq_getElem hi, List.getElem?_eq_getElem (show i < xs.length by omega), Option.map_some, Option.some.injEq] at e
    exact ⟨congrArg Prod.fst e, congrArg Prod.snd e⟩
  refine (mayR_iff ms).2 ⟨by omega, fun x hx => ?_, ?_⟩
  · obtain ⟨i, hi, rfl⟩ := List.mem_iff_getElem.1 hx
    rw [(hat i hi).2]
    have hxi := List.getElem_mem (show i < xs.length by omega)
    exact ⟨Int.mul_nonneg (h2 _ hxi).1 (by omega), hb _ hxi⟩
  · unfold dis
    rw [List.pairwise_iff_getElem]
    intro i j hi hj hij
    rw [(hat i hi).1, (hat j hj).1]
    exact (List.pairwise_iff_getElem.1 h3) i j (by omega) (by omega) hij
theorem names_sub {k : Nat} {xs ms : List ShV} (h : ms.map prS = xs.map (fun x => scP k (prS x))) (B : Nat) (hb : ∀ x ∈ xs, x.name.size ≤ B) : ∀ x ∈ ms, x.name.size ≤ B := by
  intro x hx
  have h1 : prS x ∈ ms.map prS := List.mem_map.2 ⟨x, hx, rfl⟩
  rw [h] at h1
  obtain ⟨y, hy, e⟩ := List.mem_map.1 h1
  have : x.name = y.name := congrArg Prod.fst e.symm
  rw [this]
  exact hb y hy
end Go.Proofs.Ytaadpldijnegkaa
/-
  Chapter 17: MaglevTwice: walked (written by gen/mglaw.py and gen/mgD.py).
-/
namespace Go.Proofs.Ytaadpldijnegkaa
open Go.RowKit Go.Sort
set_option linter.unusedVariables false
set_option linter.unusedSimpArgs false
set_option maxRecDepth 100000
set_option maxHeartbeats 16000000
theorem yields_mulI {ops : Array Oper} {S : World → Prop} {o : Oper} {a : Act} (hgd : Region.wanted o (yielded ops a.tmps) = true) (X Y : Operand) (ho : o.op = .binOp .mul 3 X Y 3) (x y z : Int) (hz : x * y = z) (hw : IntKind.i64.wrap z = z) (hx : a.eval X = .int .i64 x) (hy : a.eval Y = .int .i64 y) : YieldsIf Try.prog ops S o (.int .i64 z) a := by
  refine Or.inl ⟨hgd, fun w _ => ?_⟩
  subst hz
  unfold execOp
  rw [ho]
  simp only [hx, hy]
  go_simp
  first | done | exact hw | rw [hw]
theorem sl_pair {w : World} {g : Nat} {nm : ByteArray} {z : Int} {ty : TypeId} {fz : Nat × Nat} (h : w.heap[g]? = some (.cells #[.string nm, .int .i64 z] ty fz)) : Sl w (some ⟨g, 0, none⟩) 1 1 2 [.string nm, .int .i64 z] := sl_block (cs := [.string nm, .int .i64 z]) h
theorem pair_one (nm : ByteArray) (z : Int) : ∀ u ∈ [Value.string nm, .int .i64 z], u.oneCell' = true := by
  intro u hu
  simp only [List.mem_cons, List.not_mem_nil, or_false] at hu
  rcases hu with rfl | rfl <;> rfl
theorem twice17_bad (kb : List UInt8) (hkb : kb.length = 16) (n : Nat) (ad : Option Addr) (m c : Nat) (xs : List ShV) (by_ : Int) (hm : ¬ mayR xs) (w : World) (hx : Shs w ad m c xs) :
    Calls Try.prog 7 #[.agg (BV kb).toArray, .int .u8 (n : Int), .slice ad m c, .int .u8 by_] w fun e w' => e = .returned (.bool true) ∧ Below w.heap.size w w' := by
  have HB := Lib.hid (Below.refl w.heap.size w)
  have HXS := Lib.hid hx
  have HML := Lib.hid hx.len
  have hxc := hx.le
  have HTI : Hid (∀ x y : Value, (Try.prog.info? 30).map (fun i => (i.zero, i.size)) = some (some (.agg #[.slice none 0 0, .slice none 0 0]), (#[x, y] : Array Value).size)) := Lib.hid (fun _ _ => tb_info)
  have HKS : Hid ((Try.prog.info? 22).map (·.size) = some (BV kb).length) := Lib.hid (by rw [BV_length, hkb]; exact key_size)
  have HMD : Hid (decide (mayR xs) = false) := Lib.hid (decide_eq_false hm)
  clear hx hm
  go_enter Try.func7, Try.ntmps7
  go_wp2_with (first
    | ((with_reducible refine sl 4 ?_); go_must (refine wpL_boxG rfl 22 (.tmp 0) rfl (BV kb).toArray rfl ?_); intro w1 g4 he__ le_g4 lt_g4 hg__ hb__; have HG4 := Lib.hid hg__; have hE__ := cU HB bup hb__; replace HB := ck HB hE__; replace HXS := ck HXS hE__; clear hE__; clear hg__ hb__ he__; simp only [PT])
    | (go_at_call 10; go_must (refine (awake_any _).mono ?_); rintro e w2 ⟨rfl, hb__⟩; have hE__ := cU HB bup hb__; replace HB := ck HB hE__; replace HXS := ck HXS hE__; replace HG4 := ck HG4 hE__; clear hE__; clear hb__)
    | (go_at_call 11; go_must (refine (few17_any ad m c xs _ HXS.out).mono ?_); rintro e w2 ⟨⟨b, rfl, hfw⟩, hb__⟩; have HFW := Lib.hid hfw; have hE__ := cU HB bup hb__; replace HB := ck HB hE__; replace HXS := ck HXS hE__; replace HG4 := ck HG4 hE__; clear hE__; clear hb__ hfw; cases b)
    | (go_at_call 14; go_must (refine (refMay_any ad m c xs _ (HXS.out.below bup)).mono ?_); rw [HMD.out]; rintro e w4 ⟨rfl, hb__⟩; have hE__ := cU HB bup hb__; replace HB := ck HB hE__; replace HXS := ck HXS hE__; replace HG4 := ck HG4 hE__; clear hE__; clear hb__))
  all_goals
    go_ret
    exact ⟨rfl, HB.out⟩
theorem twice17_good (kb : List UInt8) (hkb : kb.length = 16) (n : Nat) (hn : n ≤ 255) (ad : Option Addr) (m c : Nat) (xs : List ShV) (by_ : Nat) (hby : by_ ≤ 255) (hm : mayR xs) (w : World) (hx : Shs w ad m c xs) :
    Calls Try.prog 7 #[.agg (BV kb).toArray, .int .u8 (n : Int), .slice ad m c, .int .u8 (by_ : Int)] w fun e w' => e = .returned (.bool true) ∧ Below w.heap.size w w' := by
  have HB := Lib.hid (Below.refl w.heap.size w)
  have HXS := Lib.hid hx
  have HML := Lib.hid hx.len
  have hxc := hx.le
  have HTI : Hid (∀ x y : Value, (Try.prog.info? 30).map (fun i => (i.zero, i.size)) = some (some (.agg #[.slice none 0 0, .slice none 0 0]), (#[x, y] : Array Value).size)) := Lib.hid (fun _ _ => tb_info)
  have HKS : Hid ((Try.prog.info? 22).map (·.size) = some (BV kb).length) := Lib.hid (by rw [BV_length, hkb]; exact key_size)
  have HM := Lib.hid hm
  have HMD : Hid (decide (mayR xs) = true) := Lib.hid (decide_eq_true hm)
  have hmm : m ≤ 1024 := by have := ((mayR_iff xs).1 hm).1; have := hx.len; omega
  obtain ⟨P, hP⟩ : ∃ P, P = nextP (n : Int) := ⟨_, rfl⟩
  have hps := nextP_spec (n : Int) (by omega)
  have hlw := low_le (n : Int)
  have h2P : 2 ≤ P := by omega
  have h3P : P ≤ 65537 := by omega
  have hpr : pr P = true := by rw [hP]; exact hps.1
  have HPN : Hid (nextP (n : Int) = P) := Lib.hid hP.symm
  have HPP := Lib.hid hpr
  obtain ⟨zs, hzs⟩ : ∃ zs, risL xs = zs := ⟨_, rfl⟩
  have HRS := Lib.hid hzs
  have hzq : ∀ x ∈ zs, 0 < x.q ∧ x.q ≤ 1024000 := by rw [← hzs]; exact mayR_q hm
  have hzl : zs.length ≤ 1024 := by rw [← hzs]; exact Nat.le_trans (risL_le xs) ((mayR_iff xs).1 hm).1
  have hrg := slZ_rg (kb := kb) (n := P) (zs := zs) h2P h3P hpr hzq
  obtain ⟨L, hL⟩ : ∃ L, slZ kb P zs = L := ⟨_, rfl⟩
  obtain ⟨N, hN⟩ : ∃ N, namesOf zs = N := ⟨_, rfl⟩
  obtain ⟨ll, hll⟩ : ∃ ll, L.length = ll := ⟨_, rfl⟩
  obtain ⟨nl, hnl⟩ : ∃ nl, N.length = nl := ⟨_, rfl⟩
  rw [hL, hll] at hrg
  have hl3 : ll ≤ 65537 := by omega
  have hzn : zs.length = nl := by rw [← hnl, ← hN, namesOf_length]
  have hn3 : nl ≤ 1024 := by omega
  have HZN := Lib.hid hzn
  have HZQ := Lib.hid hzq
  have HR : Hid (∀ z ∈ L, 0 ≤ z ∧ z < (nl : Int)) := Lib.hid (fun z hz => by have := hrg.1 z hz; omega)
  have HR0 : Hid (∀ z ∈ L, 0 ≤ z) := Lib.hid (fun z hz => (hrg.1 z hz).1)
  have HL := Lib.hid hL
  have HN := Lib.hid hN
  have HLL := Lib.hid hll
  have HNL := Lib.hid hnl
  obtain ⟨k, hk⟩ : ∃ k, k = 1 + by_ % 9 := ⟨_, rfl⟩
  have hk1 : 1 ≤ k := by omega
  have hk9 : k ≤ 9 := by omega
  have hki : 1 + (by_ : Int) % 9 = (k : Int) := by omega
  have hmL : m = xs.length := hx.len
  have HXQ : Hid (∀ x ∈ xs, 0 ≤ x.q ∧ x.q ≤ 1024000) := Lib.hid ((mayR_iff xs).1 hm).2.1
  have HMX : Hid (∀ ms : List ShV, ms.map prS = xs.map (fun x => scP k (prS x)) → (∀ x ∈ xs, x.q * (k : Int) ≤ 1024000) → mayR ms ∧ namesOf (risL ms) = N ∧ slZ kb P (risL ms) = L) := Lib.hid (fun ms h1 h2 => by
    have hs := ris_scale (k := k) (by omega) h1
    rw [hzs] at hs
    refine ⟨may_scale hm h1 h2, by rw [names_scale hs, hN], ?_⟩
    rw [← hL]
    exact slZ_of (slots_scale (k := k) (by omega) (fun x hx => (hzq x hx).1) hs (slZ_at h2P h3P hpr hzq)))
  have HAT : Hid (∀ i (hi : i < xs.length), ∃ b off, ad = some ⟨b, off, none⟩ ∧ b < w.heap.size ∧ w.rangeAt b (off + i * 2) xs[i].cells) := Lib.hid (fun i hi => by
    obtain ⟨b, off, h1, h2, h3⟩ := hx.at (by omega)
    exact ⟨b, off, h1, h2, h3 i hi⟩)
  have HKK := Lib.hid hk
  subst hmL
  clear hk
  clear hx hm hP hps hlw hpr hzs hzq hrg hL hN hll hnl hzn
  go_enter Try.func7, Try.ntmps7
  go_upto_region 5 with (first
    | ((with_reducible refine sl 4 ?_); go_must (refine wpL_boxG rfl 22 (.tmp 0) rfl (BV kb).toArray rfl ?_); intro w1 g4 he__ le_g4 lt_g4 hg__ hb__; have HG4 := Lib.hid hg__; have hE__ := cU HB bup hb__; replace HB := ck HB hE__; replace HXS := ck HXS hE__; clear hE__; clear hg__ hb__ he__; simp only [PT])
    | (go_at_call 10; go_must (refine (awake_any _).mono ?_); rintro e w2 ⟨rfl, hb__⟩; have hE__ := cU HB bup hb__; replace HB := ck HB hE__; replace HXS := ck HXS hE__; replace HG4 := ck HG4 hE__; clear hE__; clear hb__)
    | (go_at_call 11; go_must (refine (few17_any ad xs.length c xs _ HXS.out).mono ?_); rintro e w2 ⟨⟨b, rfl, hfw⟩, hb__⟩; have HFW := Lib.hid hfw; have hE__ := cU HB bup hb__; replace HB := ck HB hE__; replace HXS := ck HXS hE__; replace HG4 := ck HG4 hE__; clear hE__; clear hb__ hfw; cases b)
    | (go_at_call 14; go_must (refine (refMay_any ad xs.length c xs _ (HXS.out.below bup)).mono ?_); rw [HMD.out]; rintro e w4 ⟨rfl, hb__⟩; have hE__ := cU HB bup hb__; replace HB := ck HB hE__; replace HXS := ck HXS hE__; replace HG4 := ck HG4 hE__; clear hE__; clear hb__)
    | (go_at_call 19; go_must (refine (refNext_any (n : Int) (by omega) (by omega) _).mono ?_); rw [HPN.out]; rintro e w' ⟨rfl, rfl⟩))
  · go_ret
    exact ⟨rfl, HB.out⟩
  clear hki
  obtain ⟨wv, hwv⟩ : ∃ wv, wv = w4 := ⟨_, rfl⟩
  subst hwv
  have HBv := HB
  go_wp2_with fail
  go_loopw [11, 12] (fun o i wr => ∃ (j : Nat) (ad2 : Option Addr) (c2 : Nat) (ms : List ShV), j ≤ xs.length ∧ o = .slice ad2 j c2 ∧ i = .int .i64 (j : Int) ∧ Hid (ms.map prS = (xs.take j).map (fun x => scP k (prS x))) ∧ Hid (∀ x ∈ xs.take j, x.q * (k : Int) ≤ 1024000) ∧ Hid (wr.ownsRow wv.heap.size 48 2 (.slice ad2 j c2) j (shC ms)) ∧ Hid (Below wv.heap.size wv wr)) (fun _ i _ => xs.length - (intOf i).toNat)
  case atStart => exact ⟨0, none, 0, [], by omega, rfl, rfl, Lib.hid rfl, Lib.hid (fun x hx => by simp at hx), Lib.hid (World.ownsRow_nil _ _ _ _), Lib.hid (Below.mono bup (Nat.le_refl _))⟩
  case round =>
    obtain ⟨j, ad2, c2, ms, hj, rfl, rfl, HMS, HMQ, HO, HF⟩ := hrel
    by_cases hend : j = xs.length
    · subst hend
      rw [List.take_length] at HMS HMQ
      obtain ⟨h1, h2, h3⟩ := HMX.out ms HMS.out HMQ.out
      have HM2 := Lib.hid h1
      have HN2' := Lib.hid h2
      have HL2 := Lib.hid h3
      have HNB : Hid (∀ x ∈ ms, x.name.size ≤ 60) := Lib.hid (names_sub HMS.out 60 (HFW.out (by simp)).2)
      have HMM := Lib.hid (Shs.of_own HO.out)
      have hb__ := HF.out
      have hE__ := cU HB bup hb__; replace HB := ck HB hE__; replace HXS := ck HXS hE__; replace HG4 := ck HG4 hE__; clear hE__
      clear hb__ HF HO h1 h2 h3 HMX
      go_wp2_with (first
        | ((with_reducible refine sl 68 ?_); go_must (refine wpL_load rfl 22 (.tmp 4) rfl g4 0 rfl (BV kb) _ (range_block (hatB HG4 bup)) Try.underlying22 rfl HKS.out ?_); simp only [PT])
        | ((with_reducible refine sl 75 ?_); go_must (refine wpL_load rfl 22 (.tmp 4) rfl g4 0 rfl (BV kb) _ (range_block (hatB HG4 bup)) Try.underlying22 rfl HKS.out ?_); simp only [PT])
        | (go_at_call 12; (with_reducible show Calls _ _ #[_, _, .slice ad xs.length c] _ _); go_must (refine (build_at kb hkb P h2P h3P HPP.out ad xs.length c xs HM.out (fun x hx => by have := (HFW.out (by simp)).2 x hx; omega) zs HRS.out N HN.out nl HNL.out L HL.out ll HLL.out _ HXS.out).mono ?_); rintro e wB1 ⟨a1, c1, d1, f1, rfl, ho1, ho2, hb__⟩; have HN1 := Lib.hid (own_base ho1 HB.out.size); have HS1 := Lib.hid (own_base ho2 HB.out.size); have hE__ := cU HB bup hb__; replace HB := ck HB hE__; replace HXS := ck HXS hE__; replace HG4 := ck HG4 hE__; replace HMM := ck HMM hE__; clear hE__; clear ho1 ho2 hb__)
        | ((with_reducible refine sl 13 ?_); go_must (refine wpL_newG rfl rfl 30 rfl (.tmp 13) (.tmp 72) rfl #[.slice a1 nl c1, .slice d1 ll f1] #[.slice none 0 0, .slice none 0 0] (HTI.out _ _) rfl (tb_all rfl rfl) (fun _ => rfl) (fun _ => rfl) ?_); intro wt13 g13 le_13 hg__ hb__; have HG13 := Lib.hid hg__; have hE__ := cU HB bup hb__; replace HB := ck HB hE__; replace HXS := ck HXS hE__; replace HG4 := ck HG4 hE__; replace HMM := ck HMM hE__; replace HN1 := ck HN1 hE__; replace HS1 := ck HS1 hE__; clear hE__; clear hg__ hb__; simp only [PT])
        | (go_at_call 12; (with_reducible show Calls _ _ #[_, _, .slice ad2 _ c2] _ _); go_must (refine (build_at kb hkb P h2P h3P HPP.out ad2 xs.length c2 ms HM2.out (fun x hx => by have := HNB.out x hx; omega) _ rfl N HN2'.out nl HNL.out L HL2.out ll HLL.out _ (HMM.out.below bup)).mono ?_); rintro e wB2 ⟨a2, c2', d2, f2, rfl, ho1, ho2, hb__⟩; have HN2 := Lib.hid (own_base ho1 HB.out.size); have HS2 := Lib.hid (own_base ho2 HB.out.size); have hE__ := cU HB bup hb__; replace HB := ck HB hE__; replace HG13 := ck HG13 hE__; replace HN1 := ck HN1 hE__; replace HS1 := ck HS1 hE__; clear hE__; clear ho1 ho2 hb__)
        | ((with_reducible refine sl 15 ?_); go_must (refine wpL_newG rfl rfl 30 rfl (.tmp 15) (.tmp 79) rfl #[.slice a2 nl c2', .slice d2 ll f2] #[.slice none 0 0, .slice none 0 0] (HTI.out _ _) rfl (tb_all rfl rfl) (fun _ => rfl) (fun _ => rfl) ?_); intro wt15 g15 le_15 hg__ hb__; have HG15 := Lib.hid hg__; have hE__ := cU HB bup hb__; replace HB := ck HB hE__; replace HG13 := ck HG13 hE__; replace HN1 := ck HN1 hE__; replace HS1 := ck HS1 hE__; replace HN2 := ck HN2 hE__; replace HS2 := ck HS2 hE__; clear hE__; clear hg__ hb__; simp only [PT])
        | ((with_reducible refine sl 88 ?_); go_must (refine wpL_load rfl 30 (.tmp 13) rfl g13 0 rfl [.slice a1 nl c1, .slice d1 ll f1] _ (range_block (hatB HG13 bup)) Try.underlying30 rfl tb_size ?_); simp only [PT])
        | ((with_reducible refine sl 89 ?_); go_must (refine wpL_load rfl 30 (.tmp 15) rfl g15 0 rfl [.slice a2 nl c2', .slice d2 ll f2] _ (range_block (hatB HG15 bup)) Try.underlying30 rfl tb_size ?_); simp only [PT])
        | (go_at_call 15; go_must (refine (same17_any a1 nl c1 d1 ll f1 a2 c2' d2 f2 N L HR0.out hl3 (by omega) _ (Sl.of_own (own_keep HN1.out bup)) (Sl.of_own (own_keep HS1.out bup)) (Sl.of_own (own_keep HN2.out bup)) (Sl.of_own (own_keep HS2.out bup))).mono ?_); rintro e w5 ⟨rfl, hb__⟩; have hE__ := cU HB bup hb__; replace HB := ck HB hE__; clear hE__; clear hb__))
      go_ret
      exact ⟨rfl, HB.out⟩
    have hlt : j < xs.length := by omega
    have hlt' : (j : Int) < (xs.length : Int) := by omega
    obtain ⟨b, off, rfl, hbl, hat⟩ := HAT.out j hlt
    obtain ⟨x, hx⟩ : ∃ x, x = xs[j] := ⟨_, rfl⟩
    rw [← hx] at hat
    have hxq := HXQ.out x (by rw [hx]; exact List.getElem_mem hlt)
    obtain ⟨nm, hnm⟩ : ∃ nm, nm = x.name := ⟨_, rfl⟩
    obtain ⟨q, hqx⟩ : ∃ q, q = x.q := ⟨_, rfl⟩
    obtain ⟨z, hz⟩ : ∃ z, q * (k : Int) = z := ⟨_, rfl⟩
    have hzb : 0 ≤ z ∧ z ≤ 9216000 := by
      rw [← hqx] at hxq
      rw [← hz]
      have h1 := Int.mul_nonneg hxq.1 (show (0 : Int) ≤ (k : Int) by omega)
      have h2 : q * (k : Int) ≤ 1024000 * 9 := Int.mul_le_mul hxq.2 (by omega) (by omega) (by omega)
      omega
    have hzw : IntKind.i64.wrap z = z := by rw [IntKind.wrap_i64]; omega
    have HCN : Hid (w.cell? ⟨b, off + j * 2, none⟩ = some (.string nm)) := Lib.hid (by rw [hnm]; exact sh_name hat)
    have HCQ : Hid (w.cell? ⟨b, off + j * 2 + 1, none⟩ = some (.int .i64 q)) := Lib.hid (by rw [hqx]; exact sh_q hat)
    have HTK : Hid (xs.take (j + 1) = xs.take j ++ [x]) := Lib.hid (by rw [hx]; exact List.take_succ_eq_append_getElem hlt)
    obtain ⟨y, hy1, hy2⟩ : ∃ y : ShV, y.name = nm ∧ y.q = z := ⟨⟨nm, z, by rw [hnm]; exact x.hs, by simp [Lit.wf]; exact ⟨Int.le_trans (by decide) hzb.1, by omega⟩⟩, rfl, rfl⟩
    have HY : Hid (prS y = scP k (prS x)) := Lib.hid (by unfold prS scP; rw [hy1, hy2, hnm, ← hz, hqx])
    have HYC : Hid (y.cells = [.string nm, .int .i64 z]) := Lib.hid (by unfold ShV.cells; rw [hy1, hy2])
    have HFY : Hid (Instr.fill (fun i => some (i * 2, 2)) ((Array.range (1 * 2)).map (zeroS.cells.toArray[· % zeroS.cells.toArray.size]!)) [(0, .agg #[.string nm, .int .i64 z])] = some #[.string nm, .int .i64 z]) := Lib.hid (by have h := fill_sh y; rw [HYC.out] at h; exact h)
    have HXZ : Hid (x.q * (k : Int) = z) := Lib.hid (by rw [← hqx]; exact hz)
    have hcell : ∀ wz, Below wv.heap.size wv wz → wz.cell? ⟨b, off + j * 2, none⟩ = some (.string nm) ∧ wz.cell? ⟨b, off + j * 2 + 1, none⟩ = some (.int .i64 q) := fun wz hz => by
      have hbb := HBv.out.trans (hz.mono HBv.out.size)
      exact ⟨(hbb.cell (p := ⟨b, off + j * 2, none⟩) hbl).trans HCN.out, (hbb.cell (p := ⟨b, off + j * 2 + 1, none⟩) hbl).trans HCQ.out⟩
    have HCE := Lib.hid hcell
    have cq : wr.cell? ⟨b, off + j * 2 + 1, none⟩ = some (.int .i64 q) := (hcell wr HF.out).2
    clear hat hx hxq hnm hqx hcell hy1 hy2
    by_cases hbig : 1024000 < z
    · go_wp2_with fail
      go_ret
      exact ⟨rfl, HB.out.trans (HF.out.mono HB.out.size)⟩
    · go_wp2_with fail
      have hle2 := Sl.le (Sl.of_own HO.out)
      refine wp_region_held_drew (S := fun u__ => u__.cell? ⟨b, off + j * 2, none⟩ = some (.string nm) ∧ u__.cell? ⟨b, off + j * 2 + 1, none⟩ = some (.int .i64 q)) (by kernel_rfl) ?_ (fun hHeld => ?_)
      focus (exact HCE.out _ (HF.out.trans (Below.mono bup HF.out.size)))
      refine tk 0 (oi := ⟨some 51, _, _, _, _, _⟩) (v := ?_) rfl (by kernel_rfl) (.inl ⟨by rfl, ?_⟩) hHeld ?_; rotate_left; focus (intro w hSw; (try dsimp only at hSw); go_simp; try with_reducible rfl)
      simp only [PT]
      refine tk 1 (oi := ⟨some 52, _, _, _, _, _⟩) (v := ?_) rfl (by kernel_rfl) (.inl ⟨by rfl, ?_⟩) hHeld ?_; rotate_left; focus (intro w hSw; (try dsimp only at hSw); go_simp; try with_reducible rfl)
      simp only [PT]
      refine tk 2 (oi := ⟨some 53, _, _, _, _, _⟩) (v := ?_) rfl (by kernel_rfl) (.inl ⟨by rfl, ?_⟩) hHeld ?_; rotate_left; focus (intro w hSw; (try dsimp only at hSw); go_simp; try with_reducible rfl)
      simp only [PT]
      refine tk 3 (oi := ⟨some 54, _, _, _, _, _⟩) (v := ?_) rfl (by kernel_rfl) (.inl ⟨by rfl, ?_⟩) hHeld ?_; rotate_left; focus (intro w hSw; (try dsimp only at hSw); go_simp; try with_reducible rfl)
      simp only [PT]
      refine tk 4 (oi := ⟨some 55, _, _, _, _, _⟩) (v := ?_) rfl (by kernel_rfl) (.inl ⟨by rfl, ?_⟩) hHeld ?_; rotate_left; focus (intro w hSw; (try dsimp only at hSw); go_simp; try with_reducible rfl)
      simp only [PT]
      refine' tk 5 (oi := ⟨some 56, _, _, _, _, _⟩) (v := _) rfl (by kernel_rfl) (yields_loadC (by rfl) 9 (.tmp 55) rfl b (off + j * 2) rfl (.string nm) (fun _ h => h.1) Try.underlying9 rfl) hHeld ?_
      simp only [PT]
      refine tk 6 (oi := ⟨some 57, _, _, _, _, _⟩) (v := ?_) rfl (by kernel_rfl) (.inl ⟨by rfl, ?_⟩) hHeld ?_; rotate_left; focus (intro w hSw; (try dsimp only at hSw); go_simp; try with_reducible rfl)
      simp only [PT]
      refine tk 7 (oi := ⟨some 58, _, _, _, _, _⟩) (v := ?_) rfl (by kernel_rfl) (.inl ⟨by rfl, ?_⟩) hHeld ?_; rotate_left; focus (intro w hSw; (try dsimp only at hSw); go_simp; try with_reducible rfl)
      simp only [PT]
      refine tk 8 (oi := ⟨some 59, _, _, _, _, _⟩) (v := ?_) rfl (by kernel_rfl) (.inl ⟨by rfl, ?_⟩) hHeld ?_; rotate_left; focus (intro w hSw; (try dsimp only at hSw); go_simp; try with_reducible rfl)
      simp only [PT]
      refine tk 9 (oi := ⟨some 60, _, _, _, _, _⟩) (v := ?_) rfl (by kernel_rfl) (.inl ⟨by rfl, ?_⟩) hHeld ?_; rotate_left; focus (intro w hSw; (try dsimp only at hSw); go_simp; try with_reducible rfl)
      simp only [PT]
      refine' tk 10 (oi := ⟨some 61, _, _, _, _, _⟩) (v := _) rfl (by kernel_rfl) (yields_loadC (by rfl) 3 (.tmp 60) rfl b (off + j * 2 + 1) rfl (.int .i64 q) (fun _ h => h.2) Try.underlying3 rfl) hHeld ?_
      simp only [PT]
      refine tk 11 (oi := ⟨some 62, _, _, _, _, _⟩) (v := ?_) rfl (by kernel_rfl) (.inl ⟨by rfl, ?_⟩) hHeld ?_; rotate_left; focus (intro w hSw; (try dsimp only at hSw); go_simp; try with_reducible rfl)
      simp only [PT]
      refine' tk 12 (oi := ⟨some 63, _, _, _, _, _⟩) (v := _) rfl (by kernel_rfl) (yields_mulI (by rfl) (.tmp 61) (.tmp 62) rfl q (k : Int) z hz hzw rfl rfl) hHeld ?_
      simp only [PT]
      refine' tk 13 (oi := ⟨some 64, _, _, _, _, _⟩) (v := _) rfl (by kernel_rfl) (yields_build (by rfl) 48 _ rfl [(0, .string nm), (1, .int .i64 z)] rfl #[.string nm, .int .i64 z] (by rfl)) hHeld ?_
      simp only [PT]
      refine wpAnyH_ready (rs := [14]) (by kernel_rfl) (by simp) ?_
      refine (AllReadyH.cons (o := ⟨some 65, _, _, _, _, _⟩) rfl (fun K hK => ?_) AllReadyH.nil)
      (go_must (refine step_lit1 rfl 23 48 (.tmp 64) rfl #[.string nm, .int .i64 z] zeroS.cells.toArray rfl 2 Try.underlying23 sh_info (by omega) (by omega) HFY.out ?_); intro w65 g65 le65 lt65 hg__ hb__; have H65 := Lib.hid hg__; go_must (replace HO := cOa HO bup hb__); go_must (replace HF := cE0 HF bup hb__); clear hg__ hb__)
      refine hK.out _ _ ?_ (fun hHeld => ?_)
      focus (exact HCE.out _ (HF.out.trans (Below.mono bup HF.out.size)))
      clear hK K
      try simp only [PT]
      refine wpAnyH_ready (rs := [15]) (by kernel_rfl) (by simp) ?_
      refine (AllReadyH.cons (o := ⟨some 66, _, _, _, _, _⟩) rfl (fun K hK => ?_) AllReadyH.nil)
      (go_must (refine step_appG elSh rfl (.tmp 51) (.tmp 65) rfl wv.heap.size rfl (own_keep HO.out bup) rfl (sl_pair (hatB H65 bup)) (pair_one nm z) (j + 1) rfl (by unfold maxLen; omega) (by omega) (Nat.le_trans HF.out.size (bsz bup)) ?_); intro ad66 c66 w66 ho__ hg__; go_must (replace HF := cEa HF bup hg__ (ownBlock_ge HO.out)); clear HO; have HO := Lib.hid ho__; clear ho__ hg__ H65)
      refine hK.out _ _ ?_ (fun hHeld => ?_)
      focus (exact HCE.out _ (HF.out.trans (Below.mono bup HF.out.size)))
      clear hK K
      try simp only [PT]
      refine tk 16 (oi := ⟨some 11, _, _, _, _, _⟩) (v := ?_) rfl (by kernel_rfl) (.inl ⟨by rfl, ?_⟩) hHeld ?_; rotate_left; focus (intro w hSw; (try dsimp only at hSw); go_simp; try with_reducible rfl)
      simp only [PT]
      refine wpAnyH_done (by kernel_rfl) ?_ _
      go_wp2_with fail
      go_roundw
      case rel => exact ⟨j + 1, ad66, c66, ms ++ [y], by omega, rfl, by go_num, Lib.hid (by rw [HTK.out, List.map_append, List.map_append, HMS.out, List.map_cons, List.map_nil, HY.out]; rfl), Lib.hid (by
        intro x' hx'
        rw [HTK.out] at hx'
        rcases List.mem_append.1 hx' with h | h
        · exact HMQ.out x' h
        · rw [List.mem_singleton] at h
          rw [h, HXZ.out]
          omega), Lib.hid (by rw [shC_snoc, HYC.out]; exact own_keep HO.out bup), Lib.hid (HF.out.trans (Below.mono bup HF.out.size))⟩
      case measure => simp [intOf]; omega
theorem twice17_walk (kb : List UInt8) (hkb : kb.length = 16) (n : Nat) (hn : n ≤ 255) (ad : Option Addr) (m c : Nat) (xs : List ShV) (by_ : Nat) (hby : by_ ≤ 255) (w : World) (hx : Shs w ad m c xs) :
    Calls Try.prog 7 #[.agg (BV kb).toArray, .int .u8 (n : Int), .slice ad m c, .int .u8 (by_ : Int)] w fun e w' => e = .returned (.bool true) ∧ Below w.heap.size w w' := by
  by_cases hm : mayR xs
  · exact twice17_good kb hkb n hn ad m c xs by_ hby hm w hx
  · exact twice17_bad kb hkb n ad m c xs (by_ : Int) hm w hx
end Go.Proofs.Ytaadpldijnegkaa
